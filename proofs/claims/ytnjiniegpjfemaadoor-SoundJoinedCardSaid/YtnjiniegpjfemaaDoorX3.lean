-- printed by this session's xprint.py: out of the translation, by the kit's print with additions; Lean checks it
import Derived.Test.YtnjiniegpjfemaaDoorWN
import Derived.Test.YtnjiniegpjfemaaDoorWShare
import Derived.Test.YtnjiniegpjfemaaDoorWRepsOne
import Derived.Test.YtnjiniegpjfemaaDoorWGuard
import Derived.Test.YtnjiniegpjfemaaDoorX0
import Derived.Test.YtnjiniegpjfemaaDoorX1
import Derived.Test.YtnjiniegpjfemaaDoorX2
namespace Go.Proofs.YtnjiniegpjfemaaDoor.X
open Go.RowKit Go.Proofs.YtnjiniegpjfemaaDoorW.PrintWords Go.Proofs.YtnjiniegpjfemaaDoorW.PrintLast Go.Proofs.YtnjiniegpjfemaaDoorW.PrintMore
attribute [local go_sem] max2_int min2_int max_two min_two max_three min_three max_four min_four isSome_setCell binOp_gtr_str binOp_leq_str binOp_geq_str   -- for this text's walks alone
set_option linter.unusedVariables false
set_option linter.unusedSimpArgs false

/-! ### sound_read: function 48 -/
def sound_read.j0 : Nat → ByteArray → ByteArray → Bool → Option (Int × Int × ByteArray × Bool)
  | 0, _, _, _ => none
  | k + 1, x4, x5, x19 => if x19 = true then (some (0, 0, (⟨#[]⟩ : ByteArray), false)) else (if 0 < (x5.size : Int) then ((strings_IndexByte.f (⟨#[118, 100, 109, 108, 110, 115, 120, 103, 98]⟩ : ByteArray) (bt x5 0)).bind fun t137 => ((sound_Nucleus.f (wrap64 (t137 + 1)) 0 x4).bind fun t139 => (if t139 = true then (if (x5.size : Int) = 2 then (if 1 < (x5.size : Int) then (if (bt x5 1) < 49 then (some (0, 0, (⟨#[]⟩ : ByteArray), false)) else (if (bt x5 1) > 51 then (some (0, 0, (⟨#[]⟩ : ByteArray), false)) else ((sound_Valid.f k (wrap64 (t137 + 1)) (((bt x5 1) - 48) % 256) x4).bind fun t140 => (some (wrap64 (t137 + 1), ((bt x5 1) - 48) % 256, x4, (t140 == 0)))))) else (none)) else (some (0, 0, (⟨#[]⟩ : ByteArray), false))) else (if (x5.size : Int) = 1 then ((sound_Valid.f k (wrap64 (t137 + 1)) 0 x4).bind fun t141 => (some (wrap64 (t137 + 1), 0, x4, (t141 == 0)))) else (some (0, 0, (⟨#[]⟩ : ByteArray), false)))))) else (none))
def sound_read.f (k : Nat) (a0 : ByteArray) : Option (Int × Int × ByteArray × Bool) := (strings_Cut.f a0 (⟨#[47]⟩ : ByteArray)).bind fun bt134 => (if bt134.2.2 = true then (sound_read.j0 k bt134.1 bt134.2.1 (bt134.2.1.toList == ([] : List UInt8))) else (sound_read.j0 k bt134.1 bt134.2.1 true))
theorem sound_read.mono_l : ∀ k, (∀ y0 y1 y2, LeO (sound_read.j0 k y0 y1 y2) (sound_read.j0 (k + 1) y0 y1 y2))
  | 0 => fun _ _ _ r h => by simp [sound_read.j0] at h
  | k + 1 => by
    have ih0 := sound_read.mono_l k
    · intro y0 y1 y2
      unfold sound_read.j0
      repeat' first
      | (with_reducible exact ih0 _ _ _)
      | (with_reducible exact sound_Valid.mono _ _ _ _)
      | (with_reducible exact LeO.refl _)
      | (with_reducible exact LeO.none _)
      | (with_reducible refine LeO.ite ?_ ?_)
      | (with_reducible refine LeO.bind ?_ (fun _ => ?_))
      | exact ih0 _ _ _
      | exact sound_Valid.mono _ _ _ _
      | exact LeO.none _
      | refine LeO.ite ?_ ?_
      | refine LeO.bind ?_ (fun _ => ?_)
theorem sound_read.mono : ∀ a0 k, LeO (sound_read.f k a0) (sound_read.f (k + 1) a0) := by
  intro a0 k
  have ih0 := sound_read.mono_l k
  unfold sound_read.f
  repeat' first
      | (with_reducible exact ih0 _ _ _)
      | (with_reducible exact sound_Valid.mono _ _ _ _)
      | (with_reducible exact LeO.refl _)
      | (with_reducible exact LeO.none _)
      | (with_reducible refine LeO.ite ?_ ?_)
      | (with_reducible refine LeO.bind ?_ (fun _ => ?_))
      | exact ih0 _ _ _
      | exact sound_Valid.mono _ _ _ _
      | exact LeO.none _
      | refine LeO.ite ?_ ?_
      | refine LeO.bind ?_ (fun _ => ?_)
set_option maxHeartbeats 8000000 in
set_option maxRecDepth 100000 in
theorem sound_read.calls (k : Nat) (a0 : ByteArray) (r1 : Int) (r2 : Int) (r3 : ByteArray) (r4 : Bool) (w : World) (h : sound_read.f k a0 = some (r1, r2, r3, r4)) :
    Calls Tryd.prog 48 #[.string a0] w fun e w' => e = .returned (.tuple #[.agg #[.int .i64 r1, .int .i64 r2, .string r3], .bool r4]) ∧ Below w.heap.size w w' := by
  have hu23 := Tryd.underlying23
  have HB := Aside0.mk (Below.refl w.heap.size w)
  have H : ((strings_Cut.f a0 (⟨#[47]⟩ : ByteArray)).bind fun bt134 => (if bt134.2.2 = true then (sound_read.j0 k bt134.1 bt134.2.1 (bt134.2.1.toList == ([] : List UInt8))) else (sound_read.j0 k bt134.1 bt134.2.1 true))) = some (r1, r2, r3, r4) := h
  clear h
  replace H := Option.bind_eq_some_iff.mp H
  obtain ⟨⟨t134, t135, t136⟩, A20, H⟩ := H
  replace H : (if t136 = true then (sound_read.j0 k t134 t135 (t135.toList == ([] : List UInt8))) else (sound_read.j0 k t134 t135 true)) = some (r1, r2, r3, r4) := H
  have A2 := Aside0.mk A20
  clear A20
  have HC3 := Aside0.mk H
  clear H
  go_enter Tryd.func48, Tryd.ntmps48
  go_upto_region 2 with (first | ((with_reducible refine gate_dst (N := 2) rfl ?_); refine box_event ?hg (N := 2) ?hd (cs := #[.int .i64 0, .int .i64 0, .string (⟨#[]⟩ : ByteArray)]) (t := 23) ?hr ?_; (case hd => rfl); (case hg => rfl); (case hr => first | (go_simp; done) | (go_simp; rfl)); intro gb133 hg w4 hbox hb; have n0_ := Aside0.mk (below_step (by repeat (first | (with_reducible first | exact HB.out | apply below_alloc | apply pw_below_drewN | apply below_drew1) | exact HB.out)) hb); have n1_ := Aside0.mk (hbox); have n2_ := Aside0.mk ((by rw [hg]; exact (below_size (by repeat (first | (with_reducible first | exact HB.out | apply below_alloc | apply pw_below_drewN | apply below_drew1) | exact HB.out))) : w.heap.size ≤ gb133)); have n3_ := Aside0.mk ((by rw [hg]; exact (below_size (by repeat (first | (with_reducible first | exact HB.out | apply below_alloc | apply pw_below_drewN | apply below_drew1) | exact HB.out))) : w.heap.size ≤ gb133)); clear HB; have HB := n0_; have BK133 := n1_; have GW133 := n2_; have GE133 := n3_; clear n0_ n1_ n2_ n3_; clear hb hbox hg) | ((with_reducible refine gate_callee (f := 59) rfl ?_); refine goesL_ (some 10) rfl rfl Tryd.func59 (by kernel_rfl) rfl #[.string a0, .string (⟨#[47]⟩ : ByteArray)] rfl (by (try simp only [List.map_toArray, List.map_cons, List.map_nil]); first | done | rfl | (simp only [List.length_drop, List.length_take]; rfl)) ?_; (with_reducible refine (strings_Cut.calls a0 (⟨#[47]⟩ : ByteArray) t134 t135 t136 _ A2.out).mono ?_); rintro e w' ⟨rfl, ⟨nd, rfl⟩⟩; refine ⟨_, rfl, ?_⟩))
  (try simp only [Act.put, List.setIfInBounds_toArray, List.set_cons_zero, List.set_cons_succ])
  go_cut [19] (fun v19 wc => ∃ (kq : Nat) (x19_2 : Bool), v19 = .bool x19_2 ∧ Aside0 (sound_read.j0 kq t134 t135 x19_2 = some (r1, r2, r3, r4)) ∧ Aside0 (kq ≤ k) ∧ Aside0 (wc.heap[gb133]? = some (.cells #[.int .i64 0, .int .i64 0, .string (⟨#[]⟩ : ByteArray)] 23 (0, 0))) ∧ Aside0 (Below w.heap.size w wc))
  case first =>
    have H := HC3.out
    clear HC3
    by_cases c5 : t136 = true
    · subst c5
      have H1 : (sound_read.j0 k t134 t135 (t135.toList == ([] : List UInt8))) = some (r1, r2, r3, r4) := by rw [if_pos rfl] at H; exact H
      clear H
      have H := H1
      clear H1
      have H' := Aside0.mk H
      clear H
      go_wp2
      go_meet
      case rel => exact ⟨_, ((t135.toList == ([] : List UInt8))), (by first | rfl | (simp; done) | (simp [*]; done)), H', ⟨by first | omega | exact Nat.le_refl _⟩, ⟨by (with_reducible repeat (first | refine blk_drewN ?_ _ | refine blk_drew ?_ | refine blk_alloc ?_ _)); exact BK133.out⟩, ⟨by repeat (first | (with_reducible first | exact HB.out | apply below_alloc | apply pw_below_drewN | apply below_drew1 | refine below_set ?_ GE133.out) | exact HB.out)⟩⟩
    · replace c5 := Bool.eq_false_iff.mpr c5
      subst c5
      have H1 : (sound_read.j0 k t134 t135 true) = some (r1, r2, r3, r4) := by rw [if_neg (show ¬ (false = true) by decide)] at H; exact H
      clear H
      have H := H1
      clear H1
      have H' := Aside0.mk H
      clear H
      go_wp2
      go_meet
      case rel => exact ⟨_, (true), (by first | rfl | (simp; done) | (simp [*]; done)), H', ⟨by first | omega | exact Nat.le_refl _⟩, ⟨by (with_reducible repeat (first | refine blk_drewN ?_ _ | refine blk_drew ?_ | refine blk_alloc ?_ _)); exact BK133.out⟩, ⟨by repeat (first | (with_reducible first | exact HB.out | apply below_alloc | apply pw_below_drewN | apply below_drew1 | refine below_set ?_ GE133.out) | exact HB.out)⟩⟩
  case rest =>
    clear HC3
    try clear p2
    try clear c4
    try clear c5
    obtain ⟨kq, x19_2, rfl, HA, HJ2, BK133, HB⟩ := hcut
    cases kq with
    | zero => exact absurd HA.out (by simp [sound_read.j0])
    | succ kj2 =>
      have H := HA.out
      clear HA
      simp only [sound_read.j0] at H
      by_cases c6 : x19_2 = true
      · subst c6
        have H1 : (some (0, 0, (⟨#[]⟩ : ByteArray), false)) = some (r1, r2, r3, r4) := by rw [if_pos rfl] at H; exact H
        clear H
        have H := H1
        clear H1
        simp only [Option.some.injEq, Prod.mk.injEq] at H
        obtain ⟨rfl, rfl, rfl, rfl⟩ := H
        have hcz7_0 : wc.cell? ⟨gb133, 0, none⟩ = some (.int .i64 0) := (blk_cell BK133.out 0).trans rfl
        have hcz7_1 : wc.cell? ⟨gb133, 1, none⟩ = some (.int .i64 0) := (blk_cell BK133.out 1).trans rfl
        have hcz7_2 : wc.cell? ⟨gb133, 2, none⟩ = some (.string (⟨#[]⟩ : ByteArray)) := (blk_cell BK133.out 2).trans rfl
        have hfz7_0 := blk_frozen BK133.out 0
        have hfz7_1 := blk_frozen BK133.out 1
        have hfz7_2 := blk_frozen BK133.out 2
        go_wp2
        refine bodyPost_ret (results_ct rfl _ _ gb133 23 #[.int .i64 0, .int .i64 0, .string (⟨#[]⟩ : ByteArray)] (0, 0) _ rfl (by (with_reducible repeat (first | refine blk_drewN ?_ _ | refine blk_drew ?_ | refine blk_alloc ?_ _)); refine blk_put (cs := #[.int .i64 0, .int .i64 0, .string (⟨#[]⟩ : ByteArray)]) ?_ 2 _ rfl; (with_reducible repeat (first | refine blk_drewN ?_ _ | refine blk_drew ?_ | refine blk_alloc ?_ _)); refine blk_put (cs := #[.int .i64 0, .int .i64 0, .string (⟨#[]⟩ : ByteArray)]) ?_ 1 _ rfl; (with_reducible repeat (first | refine blk_drewN ?_ _ | refine blk_drew ?_ | refine blk_alloc ?_ _)); refine blk_put (cs := #[.int .i64 0, .int .i64 0, .string (⟨#[]⟩ : ByteArray)]) ?_ 0 _ rfl; (with_reducible repeat (first | refine blk_drewN ?_ _ | refine blk_drew ?_ | refine blk_alloc ?_ _)); exact BK133.out) Tryd.underlying23 rfl (by kernel_rfl)) rfl ?_
        exact ⟨by first | rfl | (simp [errW_none, errW_some] <;> rfl) | (simp [*, errW_none, errW_some] <;> rfl), by repeat (first | (with_reducible first | exact HB.out | apply below_alloc | apply pw_below_drewN | apply below_drew1 | refine below_set ?_ GE133.out) | exact HB.out)⟩
      · replace c6 := Bool.eq_false_iff.mpr c6
        subst c6
        have H1 : (if 0 < (t135.size : Int) then ((strings_IndexByte.f (⟨#[118, 100, 109, 108, 110, 115, 120, 103, 98]⟩ : ByteArray) (bt t135 0)).bind fun t137 => ((sound_Nucleus.f (wrap64 (t137 + 1)) 0 t134).bind fun t139 => (if t139 = true then (if (t135.size : Int) = 2 then (if 1 < (t135.size : Int) then (if (bt t135 1) < 49 then (some (0, 0, (⟨#[]⟩ : ByteArray), false)) else (if (bt t135 1) > 51 then (some (0, 0, (⟨#[]⟩ : ByteArray), false)) else ((sound_Valid.f kj2 (wrap64 (t137 + 1)) (((bt t135 1) - 48) % 256) t134).bind fun t140 => (some (wrap64 (t137 + 1), ((bt t135 1) - 48) % 256, t134, (t140 == 0)))))) else (none)) else (some (0, 0, (⟨#[]⟩ : ByteArray), false))) else (if (t135.size : Int) = 1 then ((sound_Valid.f kj2 (wrap64 (t137 + 1)) 0 t134).bind fun t141 => (some (wrap64 (t137 + 1), 0, t134, (t141 == 0)))) else (some (0, 0, (⟨#[]⟩ : ByteArray), false)))))) else (none)) = some (r1, r2, r3, r4) := by rw [if_neg (show ¬ (false = true) by decide)] at H; exact H
        clear H
        have H := H1
        clear H1
        by_cases c8 : 0 < (t135.size : Int)
        · rw [if_pos c8] at H
          have c8b0 : decide (0 < (t135.size : Int)) = true := decide_eq_true c8
          have c8b1 : decide (0 < t135.size) = true := decide_eq_true (by omega)
          clear c8
          replace H := Option.bind_eq_some_iff.mp H
          obtain ⟨t137, A100, H⟩ := H
          replace H : ((sound_Nucleus.f (wrap64 (t137 + 1)) 0 t134).bind fun t139 => (if t139 = true then (if (t135.size : Int) = 2 then (if 1 < (t135.size : Int) then (if (bt t135 1) < 49 then (some (0, 0, (⟨#[]⟩ : ByteArray), false)) else (if (bt t135 1) > 51 then (some (0, 0, (⟨#[]⟩ : ByteArray), false)) else ((sound_Valid.f kj2 (wrap64 (t137 + 1)) (((bt t135 1) - 48) % 256) t134).bind fun t140 => (some (wrap64 (t137 + 1), ((bt t135 1) - 48) % 256, t134, (t140 == 0)))))) else (none)) else (some (0, 0, (⟨#[]⟩ : ByteArray), false))) else (if (t135.size : Int) = 1 then ((sound_Valid.f kj2 (wrap64 (t137 + 1)) 0 t134).bind fun t141 => (some (wrap64 (t137 + 1), 0, t134, (t141 == 0)))) else (some (0, 0, (⟨#[]⟩ : ByteArray), false))))) = some (r1, r2, r3, r4) := H
          have A10 := Aside0.mk A100
          clear A100
          replace H := Option.bind_eq_some_iff.mp H
          obtain ⟨t139, A110, H⟩ := H
          replace H : (if t139 = true then (if (t135.size : Int) = 2 then (if 1 < (t135.size : Int) then (if (bt t135 1) < 49 then (some (0, 0, (⟨#[]⟩ : ByteArray), false)) else (if (bt t135 1) > 51 then (some (0, 0, (⟨#[]⟩ : ByteArray), false)) else ((sound_Valid.f kj2 (wrap64 (t137 + 1)) (((bt t135 1) - 48) % 256) t134).bind fun t140 => (some (wrap64 (t137 + 1), ((bt t135 1) - 48) % 256, t134, (t140 == 0)))))) else (none)) else (some (0, 0, (⟨#[]⟩ : ByteArray), false))) else (if (t135.size : Int) = 1 then ((sound_Valid.f kj2 (wrap64 (t137 + 1)) 0 t134).bind fun t141 => (some (wrap64 (t137 + 1), 0, t134, (t141 == 0)))) else (some (0, 0, (⟨#[]⟩ : ByteArray), false)))) = some (r1, r2, r3, r4) := H
          have A11 := Aside0.mk A110
          clear A110
          by_cases c12 : t139 = true
          · subst c12
            have H1 : (if (t135.size : Int) = 2 then (if 1 < (t135.size : Int) then (if (bt t135 1) < 49 then (some (0, 0, (⟨#[]⟩ : ByteArray), false)) else (if (bt t135 1) > 51 then (some (0, 0, (⟨#[]⟩ : ByteArray), false)) else ((sound_Valid.f kj2 (wrap64 (t137 + 1)) (((bt t135 1) - 48) % 256) t134).bind fun t140 => (some (wrap64 (t137 + 1), ((bt t135 1) - 48) % 256, t134, (t140 == 0)))))) else (none)) else (some (0, 0, (⟨#[]⟩ : ByteArray), false))) = some (r1, r2, r3, r4) := by rw [if_pos rfl] at H; exact H
            clear H
            have H := H1
            clear H1
            by_cases c13 : (t135.size : Int) = 2
            · rw [if_pos c13] at H
              have c13b0 : ((t135.size : Int) == 2) = true := beq_iff_eq.mpr c13
              have c13b1 : ((t135.size : Int) != 2) = false := bne_eq_false_iff_eq.mpr c13
              clear c13
              by_cases c14 : 1 < (t135.size : Int)
              · rw [if_pos c14] at H
                have c14b0 : decide (1 < (t135.size : Int)) = true := decide_eq_true c14
                have c14b1 : decide (1 < t135.size) = true := decide_eq_true (by omega)
                clear c14
                by_cases c16 : (bt t135 1) < 49
                · rw [if_pos c16] at H
                  have c16b0 : decide ((bt t135 1) < 49) = true := decide_eq_true c16
                  clear c16
                  simp only [Option.some.injEq, Prod.mk.injEq] at H
                  obtain ⟨rfl, rfl, rfl, rfl⟩ := H
                  have p9 : 0 ≤ (0 : Int) := (by omega)
                  have q9 : 0 < t135.size := (by have : (0 : Int) < (t135.size : Int) := of_decide_eq_true (by first | (with_reducible assumption) | assumption); omega)
                  have hx9 : ∀ h : 0 < t135.size, ((t135[0]'h).toNat : Int) = bt t135 0 := bt_at t135 0
                  clear p9
                  have qi9 : (0 < (t135.size : Int)) = True := eq_true (of_decide_eq_true (by first | (with_reducible assumption) | assumption))
                  replace q9 := eq_true q9
                  go_wp2_with (first | ((with_reducible refine gate_callee (f := 60) rfl ?_); refine goesL_ (some 23) rfl rfl Tryd.func60 (by kernel_rfl) rfl #[.string (⟨#[118, 100, 109, 108, 110, 115, 120, 103, 98]⟩ : ByteArray), .int .u8 (bt t135 0)] rfl (by (try simp only [List.map_toArray, List.map_cons, List.map_nil]); first | done | rfl | (simp only [List.length_drop, List.length_take]; rfl)) ?_; (with_reducible refine (strings_IndexByte.calls (⟨#[118, 100, 109, 108, 110, 115, 120, 103, 98]⟩ : ByteArray) (bt t135 0) t137 _ A10.out).mono ?_); rintro e w' ⟨rfl, ⟨nd, rfl⟩⟩; refine ⟨_, rfl, ?_⟩; (try (rw [drewN_self wc]; generalize hq_ : World.drewN wc _ = wc; have n0_ : Aside0 (wc.heap[gb133]? = some (.cells #[.int .i64 0, .int .i64 0, .string (⟨#[]⟩ : ByteArray)] 23 (0, 0))) := ⟨by rw [← hq_]; exact (by (with_reducible repeat (first | refine blk_drewN ?_ _ | refine blk_drew ?_ | refine blk_alloc ?_ _)); exact BK133.out)⟩; have n1_ : Aside0 (Below w.heap.size w wc) := ⟨by rw [← hq_]; exact (by repeat (first | (with_reducible first | exact HB.out | apply below_alloc | apply pw_below_drewN | apply below_drew1 | refine below_set ?_ GE133.out) | exact HB.out))⟩; clear BK133 HB hq_; have BK133 := n0_; have HB := n1_; clear n0_ n1_))) | ((with_reducible refine gate_dst (N := 7) rfl ?_); refine box_event ?hg (N := 7) ?hd (cs := #[.int .i64 0, .int .i64 0, .string (⟨#[]⟩ : ByteArray)]) (t := 23) ?hr ?_; (case hd => rfl); (case hg => rfl); (case hr => first | (go_simp; done) | (go_simp; rfl)); intro gb138 hg w17 hbox hb; have n0_ := Aside0.mk (blk_below (g := gb133) (o := .cells #[.int .i64 0, .int .i64 0, .string (⟨#[]⟩ : ByteArray)] 23 (0, 0)) (by (with_reducible repeat (first | refine blk_drewN ?_ _ | refine blk_drew ?_ | refine blk_alloc ?_ _)); exact BK133.out) hb); have n1_ := Aside0.mk (below_step (by repeat (first | (with_reducible first | exact HB.out | apply below_alloc | apply pw_below_drewN | apply below_drew1 | refine below_set ?_ GE133.out) | exact HB.out)) hb); have n2_ := Aside0.mk (hbox); have n3_ := Aside0.mk ((by rw [hg]; exact (below_size (by repeat (first | (with_reducible first | exact HB.out | apply below_alloc | apply pw_below_drewN | apply below_drew1 | refine below_set ?_ GE133.out) | exact HB.out))) : w.heap.size ≤ gb138)); have n4_ := Aside0.mk ((by rw [hg]; exact (below_size (by repeat (first | (with_reducible first | exact HB.out | apply below_alloc | apply pw_below_drewN | apply below_drew1 | refine below_set ?_ GE133.out) | exact HB.out))) : w.heap.size ≤ gb138)); have n5_ := Aside0.mk ((by rw [hg]; exact Nat.ne_of_lt (blk_lt (g := gb133) (o := .cells #[.int .i64 0, .int .i64 0, .string (⟨#[]⟩ : ByteArray)] 23 (0, 0)) (by (with_reducible repeat (first | refine blk_drewN ?_ _ | refine blk_drew ?_ | refine blk_alloc ?_ _)); exact BK133.out)) : gb133 ≠ gb138)); have n6_ := Aside0.mk ((by rw [hg]; exact Nat.ne_of_gt (blk_lt (g := gb133) (o := .cells #[.int .i64 0, .int .i64 0, .string (⟨#[]⟩ : ByteArray)] 23 (0, 0)) (by (with_reducible repeat (first | refine blk_drewN ?_ _ | refine blk_drew ?_ | refine blk_alloc ?_ _)); exact BK133.out)) : gb138 ≠ gb133)); clear BK133; clear HB; have BK133 := n0_; have HB := n1_; have BK138 := n2_; have GW138 := n3_; have GE138 := n4_; have NB133_138 := n5_; have NB138_133 := n6_; clear n0_ n1_ n2_ n3_ n4_ n5_ n6_; clear hb hbox hg; have hnb18 := NB138_133.out; have hnc18 := NB133_138.out; have hcz19_0 : w17.cell? ⟨gb138, 0, none⟩ = some (.int .i64 0) := (blk_cell BK138.out 0).trans rfl; have hcz19_1 : w17.cell? ⟨gb138, 1, none⟩ = some (.int .i64 0) := (blk_cell BK138.out 1).trans rfl; have hcz19_2 : w17.cell? ⟨gb138, 2, none⟩ = some (.string (⟨#[]⟩ : ByteArray)) := (blk_cell BK138.out 2).trans rfl; have hfz19_0 := blk_frozen BK138.out 0; have hfz19_1 := blk_frozen BK138.out 1; have hfz19_2 := blk_frozen BK138.out 2) | ((with_reducible refine gate_callee (f := 15) rfl ?_); refine goesL_ (some 28) rfl rfl Tryd.func15 (by kernel_rfl) rfl #[.agg #[.int .i64 (wrap64 (t137 + 1)), .int .i64 0, .string t134]] rfl (by (try simp only [List.map_toArray, List.map_cons, List.map_nil]); first | done | rfl | (simp only [List.length_drop, List.length_take]; rfl)) ?_; (with_reducible refine (sound_Nucleus.calls (wrap64 (t137 + 1)) 0 t134 true _ A11.out).mono ?_); rintro e w20 ⟨rfl, hb⟩; refine ⟨_, rfl, ?_⟩; have n0_ := Aside0.mk (blk_below (g := gb133) (o := .cells #[.int .i64 0, .int .i64 0, .string (⟨#[]⟩ : ByteArray)] 23 (0, 0)) (by (with_reducible repeat (first | refine blk_drewN ?_ _ | refine blk_drew ?_ | refine blk_alloc ?_ _)); refine blk_far ?_ NB133_138.out _; (with_reducible repeat (first | refine blk_drewN ?_ _ | refine blk_drew ?_ | refine blk_alloc ?_ _)); refine blk_far ?_ NB133_138.out _; (with_reducible repeat (first | refine blk_drewN ?_ _ | refine blk_drew ?_ | refine blk_alloc ?_ _)); refine blk_far ?_ NB133_138.out _; (with_reducible repeat (first | refine blk_drewN ?_ _ | refine blk_drew ?_ | refine blk_alloc ?_ _)); exact BK133.out) hb); have n1_ := Aside0.mk (blk_below (g := gb138) (o := .cells #[.int .i64 (wrap64 (t137 + 1)), .int .i64 0, .string t134] 23 (0, 0)) (by (with_reducible repeat (first | refine blk_drewN ?_ _ | refine blk_drew ?_ | refine blk_alloc ?_ _)); refine blk_put (cs := #[.int .i64 (wrap64 (t137 + 1)), .int .i64 0, .string (⟨#[]⟩ : ByteArray)]) ?_ 2 _ rfl; (with_reducible repeat (first | refine blk_drewN ?_ _ | refine blk_drew ?_ | refine blk_alloc ?_ _)); refine blk_put (cs := #[.int .i64 (wrap64 (t137 + 1)), .int .i64 0, .string (⟨#[]⟩ : ByteArray)]) ?_ 1 _ rfl; (with_reducible repeat (first | refine blk_drewN ?_ _ | refine blk_drew ?_ | refine blk_alloc ?_ _)); refine blk_put (cs := #[.int .i64 0, .int .i64 0, .string (⟨#[]⟩ : ByteArray)]) ?_ 0 _ rfl; (with_reducible repeat (first | refine blk_drewN ?_ _ | refine blk_drew ?_ | refine blk_alloc ?_ _)); exact BK138.out) hb); have n2_ := Aside0.mk (below_step (by repeat (first | (with_reducible first | exact HB.out | apply below_alloc | apply pw_below_drewN | apply below_drew1 | refine below_set ?_ GE133.out | refine below_set ?_ GE138.out) | exact HB.out)) hb); clear BK133; clear BK138; clear HB; have BK133 := n0_; have BK138 := n1_; have HB := n2_; clear n0_ n1_ n2_; (try clear hb); (try clear hb2); (try clear hk); (try clear hi); have p15 : 0 ≤ (1 : Int) := (by omega); have q15 : 1 < t135.size := (by have : (1 : Int) < (t135.size : Int) := of_decide_eq_true (by first | (with_reducible assumption) | assumption); omega); have hx15 : ∀ h : 1 < t135.size, ((t135[1]'h).toNat : Int) = bt t135 1 := bt_at t135 1; clear p15; have qi15 : (1 < (t135.size : Int)) = True := eq_true (of_decide_eq_true (by first | (with_reducible assumption) | assumption)); replace q15 := eq_true q15; have hcz21_0 : w20.cell? ⟨gb133, 0, none⟩ = some (.int .i64 0) := (blk_cell BK133.out 0).trans rfl; have hcz21_1 : w20.cell? ⟨gb133, 1, none⟩ = some (.int .i64 0) := (blk_cell BK133.out 1).trans rfl; have hcz21_2 : w20.cell? ⟨gb133, 2, none⟩ = some (.string (⟨#[]⟩ : ByteArray)) := (blk_cell BK133.out 2).trans rfl; have hfz21_0 := blk_frozen BK133.out 0; have hfz21_1 := blk_frozen BK133.out 1; have hfz21_2 := blk_frozen BK133.out 2))
                  refine bodyPost_ret (results_ct rfl _ _ gb133 23 #[.int .i64 0, .int .i64 0, .string (⟨#[]⟩ : ByteArray)] (0, 0) _ rfl (by (with_reducible repeat (first | refine blk_drewN ?_ _ | refine blk_drew ?_ | refine blk_alloc ?_ _)); refine blk_put (cs := #[.int .i64 0, .int .i64 0, .string (⟨#[]⟩ : ByteArray)]) ?_ 2 _ rfl; (with_reducible repeat (first | refine blk_drewN ?_ _ | refine blk_drew ?_ | refine blk_alloc ?_ _)); refine blk_put (cs := #[.int .i64 0, .int .i64 0, .string (⟨#[]⟩ : ByteArray)]) ?_ 1 _ rfl; (with_reducible repeat (first | refine blk_drewN ?_ _ | refine blk_drew ?_ | refine blk_alloc ?_ _)); refine blk_put (cs := #[.int .i64 0, .int .i64 0, .string (⟨#[]⟩ : ByteArray)]) ?_ 0 _ rfl; (with_reducible repeat (first | refine blk_drewN ?_ _ | refine blk_drew ?_ | refine blk_alloc ?_ _)); exact BK133.out) Tryd.underlying23 rfl (by kernel_rfl)) rfl ?_
                  exact ⟨by first | rfl | (simp [errW_none, errW_some] <;> rfl) | (simp [*, errW_none, errW_some] <;> rfl), by repeat (first | (with_reducible first | exact HB.out | apply below_alloc | apply pw_below_drewN | apply below_drew1 | refine below_set ?_ GE133.out | refine below_set ?_ GE138.out) | exact HB.out)⟩
                · rw [if_neg c16] at H
                  have c16b0 : decide ((bt t135 1) < 49) = false := decide_eq_false c16
                  clear c16
                  by_cases c23 : (bt t135 1) > 51
                  · rw [if_pos c23] at H
                    have c23b0 : decide (51 < (bt t135 1)) = true := decide_eq_true c23
                    clear c23
                    simp only [Option.some.injEq, Prod.mk.injEq] at H
                    obtain ⟨rfl, rfl, rfl, rfl⟩ := H
                    have p9 : 0 ≤ (0 : Int) := (by omega)
                    have q9 : 0 < t135.size := (by have : (0 : Int) < (t135.size : Int) := of_decide_eq_true (by first | (with_reducible assumption) | assumption); omega)
                    have hx9 : ∀ h : 0 < t135.size, ((t135[0]'h).toNat : Int) = bt t135 0 := bt_at t135 0
                    clear p9
                    have qi9 : (0 < (t135.size : Int)) = True := eq_true (of_decide_eq_true (by first | (with_reducible assumption) | assumption))
                    replace q9 := eq_true q9
                    go_wp2_with (first | ((with_reducible refine gate_callee (f := 60) rfl ?_); refine goesL_ (some 23) rfl rfl Tryd.func60 (by kernel_rfl) rfl #[.string (⟨#[118, 100, 109, 108, 110, 115, 120, 103, 98]⟩ : ByteArray), .int .u8 (bt t135 0)] rfl (by (try simp only [List.map_toArray, List.map_cons, List.map_nil]); first | done | rfl | (simp only [List.length_drop, List.length_take]; rfl)) ?_; (with_reducible refine (strings_IndexByte.calls (⟨#[118, 100, 109, 108, 110, 115, 120, 103, 98]⟩ : ByteArray) (bt t135 0) t137 _ A10.out).mono ?_); rintro e w' ⟨rfl, ⟨nd, rfl⟩⟩; refine ⟨_, rfl, ?_⟩; (try (rw [drewN_self wc]; generalize hq_ : World.drewN wc _ = wc; have n0_ : Aside0 (wc.heap[gb133]? = some (.cells #[.int .i64 0, .int .i64 0, .string (⟨#[]⟩ : ByteArray)] 23 (0, 0))) := ⟨by rw [← hq_]; exact (by (with_reducible repeat (first | refine blk_drewN ?_ _ | refine blk_drew ?_ | refine blk_alloc ?_ _)); exact BK133.out)⟩; have n1_ : Aside0 (Below w.heap.size w wc) := ⟨by rw [← hq_]; exact (by repeat (first | (with_reducible first | exact HB.out | apply below_alloc | apply pw_below_drewN | apply below_drew1 | refine below_set ?_ GE133.out) | exact HB.out))⟩; clear BK133 HB hq_; have BK133 := n0_; have HB := n1_; clear n0_ n1_))) | ((with_reducible refine gate_dst (N := 7) rfl ?_); refine box_event ?hg (N := 7) ?hd (cs := #[.int .i64 0, .int .i64 0, .string (⟨#[]⟩ : ByteArray)]) (t := 23) ?hr ?_; (case hd => rfl); (case hg => rfl); (case hr => first | (go_simp; done) | (go_simp; rfl)); intro gb138 hg w24 hbox hb; have n0_ := Aside0.mk (blk_below (g := gb133) (o := .cells #[.int .i64 0, .int .i64 0, .string (⟨#[]⟩ : ByteArray)] 23 (0, 0)) (by (with_reducible repeat (first | refine blk_drewN ?_ _ | refine blk_drew ?_ | refine blk_alloc ?_ _)); exact BK133.out) hb); have n1_ := Aside0.mk (below_step (by repeat (first | (with_reducible first | exact HB.out | apply below_alloc | apply pw_below_drewN | apply below_drew1 | refine below_set ?_ GE133.out) | exact HB.out)) hb); have n2_ := Aside0.mk (hbox); have n3_ := Aside0.mk ((by rw [hg]; exact (below_size (by repeat (first | (with_reducible first | exact HB.out | apply below_alloc | apply pw_below_drewN | apply below_drew1 | refine below_set ?_ GE133.out) | exact HB.out))) : w.heap.size ≤ gb138)); have n4_ := Aside0.mk ((by rw [hg]; exact (below_size (by repeat (first | (with_reducible first | exact HB.out | apply below_alloc | apply pw_below_drewN | apply below_drew1 | refine below_set ?_ GE133.out) | exact HB.out))) : w.heap.size ≤ gb138)); have n5_ := Aside0.mk ((by rw [hg]; exact Nat.ne_of_lt (blk_lt (g := gb133) (o := .cells #[.int .i64 0, .int .i64 0, .string (⟨#[]⟩ : ByteArray)] 23 (0, 0)) (by (with_reducible repeat (first | refine blk_drewN ?_ _ | refine blk_drew ?_ | refine blk_alloc ?_ _)); exact BK133.out)) : gb133 ≠ gb138)); have n6_ := Aside0.mk ((by rw [hg]; exact Nat.ne_of_gt (blk_lt (g := gb133) (o := .cells #[.int .i64 0, .int .i64 0, .string (⟨#[]⟩ : ByteArray)] 23 (0, 0)) (by (with_reducible repeat (first | refine blk_drewN ?_ _ | refine blk_drew ?_ | refine blk_alloc ?_ _)); exact BK133.out)) : gb138 ≠ gb133)); clear BK133; clear HB; have BK133 := n0_; have HB := n1_; have BK138 := n2_; have GW138 := n3_; have GE138 := n4_; have NB133_138 := n5_; have NB138_133 := n6_; clear n0_ n1_ n2_ n3_ n4_ n5_ n6_; clear hb hbox hg; have hnb25 := NB138_133.out; have hnc25 := NB133_138.out; have hcz26_0 : w24.cell? ⟨gb138, 0, none⟩ = some (.int .i64 0) := (blk_cell BK138.out 0).trans rfl; have hcz26_1 : w24.cell? ⟨gb138, 1, none⟩ = some (.int .i64 0) := (blk_cell BK138.out 1).trans rfl; have hcz26_2 : w24.cell? ⟨gb138, 2, none⟩ = some (.string (⟨#[]⟩ : ByteArray)) := (blk_cell BK138.out 2).trans rfl; have hfz26_0 := blk_frozen BK138.out 0; have hfz26_1 := blk_frozen BK138.out 1; have hfz26_2 := blk_frozen BK138.out 2) | ((with_reducible refine gate_callee (f := 15) rfl ?_); refine goesL_ (some 28) rfl rfl Tryd.func15 (by kernel_rfl) rfl #[.agg #[.int .i64 (wrap64 (t137 + 1)), .int .i64 0, .string t134]] rfl (by (try simp only [List.map_toArray, List.map_cons, List.map_nil]); first | done | rfl | (simp only [List.length_drop, List.length_take]; rfl)) ?_; (with_reducible refine (sound_Nucleus.calls (wrap64 (t137 + 1)) 0 t134 true _ A11.out).mono ?_); rintro e w27 ⟨rfl, hb⟩; refine ⟨_, rfl, ?_⟩; have n0_ := Aside0.mk (blk_below (g := gb133) (o := .cells #[.int .i64 0, .int .i64 0, .string (⟨#[]⟩ : ByteArray)] 23 (0, 0)) (by (with_reducible repeat (first | refine blk_drewN ?_ _ | refine blk_drew ?_ | refine blk_alloc ?_ _)); refine blk_far ?_ NB133_138.out _; (with_reducible repeat (first | refine blk_drewN ?_ _ | refine blk_drew ?_ | refine blk_alloc ?_ _)); refine blk_far ?_ NB133_138.out _; (with_reducible repeat (first | refine blk_drewN ?_ _ | refine blk_drew ?_ | refine blk_alloc ?_ _)); refine blk_far ?_ NB133_138.out _; (with_reducible repeat (first | refine blk_drewN ?_ _ | refine blk_drew ?_ | refine blk_alloc ?_ _)); exact BK133.out) hb); have n1_ := Aside0.mk (blk_below (g := gb138) (o := .cells #[.int .i64 (wrap64 (t137 + 1)), .int .i64 0, .string t134] 23 (0, 0)) (by (with_reducible repeat (first | refine blk_drewN ?_ _ | refine blk_drew ?_ | refine blk_alloc ?_ _)); refine blk_put (cs := #[.int .i64 (wrap64 (t137 + 1)), .int .i64 0, .string (⟨#[]⟩ : ByteArray)]) ?_ 2 _ rfl; (with_reducible repeat (first | refine blk_drewN ?_ _ | refine blk_drew ?_ | refine blk_alloc ?_ _)); refine blk_put (cs := #[.int .i64 (wrap64 (t137 + 1)), .int .i64 0, .string (⟨#[]⟩ : ByteArray)]) ?_ 1 _ rfl; (with_reducible repeat (first | refine blk_drewN ?_ _ | refine blk_drew ?_ | refine blk_alloc ?_ _)); refine blk_put (cs := #[.int .i64 0, .int .i64 0, .string (⟨#[]⟩ : ByteArray)]) ?_ 0 _ rfl; (with_reducible repeat (first | refine blk_drewN ?_ _ | refine blk_drew ?_ | refine blk_alloc ?_ _)); exact BK138.out) hb); have n2_ := Aside0.mk (below_step (by repeat (first | (with_reducible first | exact HB.out | apply below_alloc | apply pw_below_drewN | apply below_drew1 | refine below_set ?_ GE133.out | refine below_set ?_ GE138.out) | exact HB.out)) hb); clear BK133; clear BK138; clear HB; have BK133 := n0_; have BK138 := n1_; have HB := n2_; clear n0_ n1_ n2_; (try clear hb); (try clear hb2); (try clear hk); (try clear hi); have p15 : 0 ≤ (1 : Int) := (by omega); have q15 : 1 < t135.size := (by have : (1 : Int) < (t135.size : Int) := of_decide_eq_true (by first | (with_reducible assumption) | assumption); omega); have hx15 : ∀ h : 1 < t135.size, ((t135[1]'h).toNat : Int) = bt t135 1 := bt_at t135 1; clear p15; have qi15 : (1 < (t135.size : Int)) = True := eq_true (of_decide_eq_true (by first | (with_reducible assumption) | assumption)); replace q15 := eq_true q15; have p22 : 0 ≤ (1 : Int) := (by omega); have q22 : 1 < t135.size := (by have : (1 : Int) < (t135.size : Int) := of_decide_eq_true (by first | (with_reducible assumption) | assumption); omega); have hx22 : ∀ h : 1 < t135.size, ((t135[1]'h).toNat : Int) = bt t135 1 := bt_at t135 1; clear p22; have qi22 : (1 < (t135.size : Int)) = True := eq_true (of_decide_eq_true (by first | (with_reducible assumption) | assumption)); replace q22 := eq_true q22; have hcz28_0 : w27.cell? ⟨gb133, 0, none⟩ = some (.int .i64 0) := (blk_cell BK133.out 0).trans rfl; have hcz28_1 : w27.cell? ⟨gb133, 1, none⟩ = some (.int .i64 0) := (blk_cell BK133.out 1).trans rfl; have hcz28_2 : w27.cell? ⟨gb133, 2, none⟩ = some (.string (⟨#[]⟩ : ByteArray)) := (blk_cell BK133.out 2).trans rfl; have hfz28_0 := blk_frozen BK133.out 0; have hfz28_1 := blk_frozen BK133.out 1; have hfz28_2 := blk_frozen BK133.out 2))
                    refine bodyPost_ret (results_ct rfl _ _ gb133 23 #[.int .i64 0, .int .i64 0, .string (⟨#[]⟩ : ByteArray)] (0, 0) _ rfl (by (with_reducible repeat (first | refine blk_drewN ?_ _ | refine blk_drew ?_ | refine blk_alloc ?_ _)); refine blk_put (cs := #[.int .i64 0, .int .i64 0, .string (⟨#[]⟩ : ByteArray)]) ?_ 2 _ rfl; (with_reducible repeat (first | refine blk_drewN ?_ _ | refine blk_drew ?_ | refine blk_alloc ?_ _)); refine blk_put (cs := #[.int .i64 0, .int .i64 0, .string (⟨#[]⟩ : ByteArray)]) ?_ 1 _ rfl; (with_reducible repeat (first | refine blk_drewN ?_ _ | refine blk_drew ?_ | refine blk_alloc ?_ _)); refine blk_put (cs := #[.int .i64 0, .int .i64 0, .string (⟨#[]⟩ : ByteArray)]) ?_ 0 _ rfl; (with_reducible repeat (first | refine blk_drewN ?_ _ | refine blk_drew ?_ | refine blk_alloc ?_ _)); exact BK133.out) Tryd.underlying23 rfl (by kernel_rfl)) rfl ?_
                    exact ⟨by first | rfl | (simp [errW_none, errW_some] <;> rfl) | (simp [*, errW_none, errW_some] <;> rfl), by repeat (first | (with_reducible first | exact HB.out | apply below_alloc | apply pw_below_drewN | apply below_drew1 | refine below_set ?_ GE133.out | refine below_set ?_ GE138.out) | exact HB.out)⟩
                  · rw [if_neg c23] at H
                    have c23b0 : decide (51 < (bt t135 1)) = false := decide_eq_false c23
                    clear c23
                    replace H := Option.bind_eq_some_iff.mp H
                    obtain ⟨t140, A300, H⟩ := H
                    replace H : (some (wrap64 (t137 + 1), ((bt t135 1) - 48) % 256, t134, (t140 == 0))) = some (r1, r2, r3, r4) := H
                    have A30 := Aside0.mk A300
                    clear A300
                    simp only [Option.some.injEq, Prod.mk.injEq] at H
                    obtain ⟨rfl, rfl, rfl, rfl⟩ := H
                    have p9 : 0 ≤ (0 : Int) := (by omega)
                    have q9 : 0 < t135.size := (by have : (0 : Int) < (t135.size : Int) := of_decide_eq_true (by first | (with_reducible assumption) | assumption); omega)
                    have hx9 : ∀ h : 0 < t135.size, ((t135[0]'h).toNat : Int) = bt t135 0 := bt_at t135 0
                    clear p9
                    have qi9 : (0 < (t135.size : Int)) = True := eq_true (of_decide_eq_true (by first | (with_reducible assumption) | assumption))
                    replace q9 := eq_true q9
                    try go_wp2_with (first | ((with_reducible refine gate_callee (f := 60) rfl ?_); refine goesL_ (some 23) rfl rfl Tryd.func60 (by kernel_rfl) rfl #[.string (⟨#[118, 100, 109, 108, 110, 115, 120, 103, 98]⟩ : ByteArray), .int .u8 (bt t135 0)] rfl (by (try simp only [List.map_toArray, List.map_cons, List.map_nil]); first | done | rfl | (simp only [List.length_drop, List.length_take]; rfl)) ?_; (with_reducible refine (strings_IndexByte.calls (⟨#[118, 100, 109, 108, 110, 115, 120, 103, 98]⟩ : ByteArray) (bt t135 0) t137 _ A10.out).mono ?_); rintro e w' ⟨rfl, ⟨nd, rfl⟩⟩; refine ⟨_, rfl, ?_⟩; (try (rw [drewN_self wc]; generalize hq_ : World.drewN wc _ = wc; have n0_ : Aside0 (wc.heap[gb133]? = some (.cells #[.int .i64 0, .int .i64 0, .string (⟨#[]⟩ : ByteArray)] 23 (0, 0))) := ⟨by rw [← hq_]; exact (by (with_reducible repeat (first | refine blk_drewN ?_ _ | refine blk_drew ?_ | refine blk_alloc ?_ _)); exact BK133.out)⟩; have n1_ : Aside0 (Below w.heap.size w wc) := ⟨by rw [← hq_]; exact (by repeat (first | (with_reducible first | exact HB.out | apply below_alloc | apply pw_below_drewN | apply below_drew1 | refine below_set ?_ GE133.out) | exact HB.out))⟩; clear BK133 HB hq_; have BK133 := n0_; have HB := n1_; clear n0_ n1_))) | ((with_reducible refine gate_dst (N := 7) rfl ?_); refine box_event ?hg (N := 7) ?hd (cs := #[.int .i64 0, .int .i64 0, .string (⟨#[]⟩ : ByteArray)]) (t := 23) ?hr ?_; (case hd => rfl); (case hg => rfl); (case hr => first | (go_simp; done) | (go_simp; rfl)); intro gb138 hg w31 hbox hb; have n0_ := Aside0.mk (blk_below (g := gb133) (o := .cells #[.int .i64 0, .int .i64 0, .string (⟨#[]⟩ : ByteArray)] 23 (0, 0)) (by (with_reducible repeat (first | refine blk_drewN ?_ _ | refine blk_drew ?_ | refine blk_alloc ?_ _)); exact BK133.out) hb); have n1_ := Aside0.mk (below_step (by repeat (first | (with_reducible first | exact HB.out | apply below_alloc | apply pw_below_drewN | apply below_drew1 | refine below_set ?_ GE133.out) | exact HB.out)) hb); have n2_ := Aside0.mk (hbox); have n3_ := Aside0.mk ((by rw [hg]; exact (below_size (by repeat (first | (with_reducible first | exact HB.out | apply below_alloc | apply pw_below_drewN | apply below_drew1 | refine below_set ?_ GE133.out) | exact HB.out))) : w.heap.size ≤ gb138)); have n4_ := Aside0.mk ((by rw [hg]; exact (below_size (by repeat (first | (with_reducible first | exact HB.out | apply below_alloc | apply pw_below_drewN | apply below_drew1 | refine below_set ?_ GE133.out) | exact HB.out))) : w.heap.size ≤ gb138)); have n5_ := Aside0.mk ((by rw [hg]; exact Nat.ne_of_lt (blk_lt (g := gb133) (o := .cells #[.int .i64 0, .int .i64 0, .string (⟨#[]⟩ : ByteArray)] 23 (0, 0)) (by (with_reducible repeat (first | refine blk_drewN ?_ _ | refine blk_drew ?_ | refine blk_alloc ?_ _)); exact BK133.out)) : gb133 ≠ gb138)); have n6_ := Aside0.mk ((by rw [hg]; exact Nat.ne_of_gt (blk_lt (g := gb133) (o := .cells #[.int .i64 0, .int .i64 0, .string (⟨#[]⟩ : ByteArray)] 23 (0, 0)) (by (with_reducible repeat (first | refine blk_drewN ?_ _ | refine blk_drew ?_ | refine blk_alloc ?_ _)); exact BK133.out)) : gb138 ≠ gb133)); clear BK133; clear HB; have BK133 := n0_; have HB := n1_; have BK138 := n2_; have GW138 := n3_; have GE138 := n4_; have NB133_138 := n5_; have NB138_133 := n6_; clear n0_ n1_ n2_ n3_ n4_ n5_ n6_; clear hb hbox hg; have hnb32 := NB138_133.out; have hnc32 := NB133_138.out; have hcz33_0 : w31.cell? ⟨gb138, 0, none⟩ = some (.int .i64 0) := (blk_cell BK138.out 0).trans rfl; have hcz33_1 : w31.cell? ⟨gb138, 1, none⟩ = some (.int .i64 0) := (blk_cell BK138.out 1).trans rfl; have hcz33_2 : w31.cell? ⟨gb138, 2, none⟩ = some (.string (⟨#[]⟩ : ByteArray)) := (blk_cell BK138.out 2).trans rfl; have hfz33_0 := blk_frozen BK138.out 0; have hfz33_1 := blk_frozen BK138.out 1; have hfz33_2 := blk_frozen BK138.out 2) | ((with_reducible refine gate_callee (f := 15) rfl ?_); refine goesL_ (some 28) rfl rfl Tryd.func15 (by kernel_rfl) rfl #[.agg #[.int .i64 (wrap64 (t137 + 1)), .int .i64 0, .string t134]] rfl (by (try simp only [List.map_toArray, List.map_cons, List.map_nil]); first | done | rfl | (simp only [List.length_drop, List.length_take]; rfl)) ?_; (with_reducible refine (sound_Nucleus.calls (wrap64 (t137 + 1)) 0 t134 true _ A11.out).mono ?_); rintro e w34 ⟨rfl, hb⟩; refine ⟨_, rfl, ?_⟩; have n0_ := Aside0.mk (blk_below (g := gb133) (o := .cells #[.int .i64 0, .int .i64 0, .string (⟨#[]⟩ : ByteArray)] 23 (0, 0)) (by (with_reducible repeat (first | refine blk_drewN ?_ _ | refine blk_drew ?_ | refine blk_alloc ?_ _)); refine blk_far ?_ NB133_138.out _; (with_reducible repeat (first | refine blk_drewN ?_ _ | refine blk_drew ?_ | refine blk_alloc ?_ _)); refine blk_far ?_ NB133_138.out _; (with_reducible repeat (first | refine blk_drewN ?_ _ | refine blk_drew ?_ | refine blk_alloc ?_ _)); refine blk_far ?_ NB133_138.out _; (with_reducible repeat (first | refine blk_drewN ?_ _ | refine blk_drew ?_ | refine blk_alloc ?_ _)); exact BK133.out) hb); have n1_ := Aside0.mk (blk_below (g := gb138) (o := .cells #[.int .i64 (wrap64 (t137 + 1)), .int .i64 0, .string t134] 23 (0, 0)) (by (with_reducible repeat (first | refine blk_drewN ?_ _ | refine blk_drew ?_ | refine blk_alloc ?_ _)); refine blk_put (cs := #[.int .i64 (wrap64 (t137 + 1)), .int .i64 0, .string (⟨#[]⟩ : ByteArray)]) ?_ 2 _ rfl; (with_reducible repeat (first | refine blk_drewN ?_ _ | refine blk_drew ?_ | refine blk_alloc ?_ _)); refine blk_put (cs := #[.int .i64 (wrap64 (t137 + 1)), .int .i64 0, .string (⟨#[]⟩ : ByteArray)]) ?_ 1 _ rfl; (with_reducible repeat (first | refine blk_drewN ?_ _ | refine blk_drew ?_ | refine blk_alloc ?_ _)); refine blk_put (cs := #[.int .i64 0, .int .i64 0, .string (⟨#[]⟩ : ByteArray)]) ?_ 0 _ rfl; (with_reducible repeat (first | refine blk_drewN ?_ _ | refine blk_drew ?_ | refine blk_alloc ?_ _)); exact BK138.out) hb); have n2_ := Aside0.mk (below_step (by repeat (first | (with_reducible first | exact HB.out | apply below_alloc | apply pw_below_drewN | apply below_drew1 | refine below_set ?_ GE133.out | refine below_set ?_ GE138.out) | exact HB.out)) hb); clear BK133; clear BK138; clear HB; have BK133 := n0_; have BK138 := n1_; have HB := n2_; clear n0_ n1_ n2_; (try clear hb); (try clear hb2); (try clear hk); (try clear hi); have p15 : 0 ≤ (1 : Int) := (by omega); have q15 : 1 < t135.size := (by have : (1 : Int) < (t135.size : Int) := of_decide_eq_true (by first | (with_reducible assumption) | assumption); omega); have hx15 : ∀ h : 1 < t135.size, ((t135[1]'h).toNat : Int) = bt t135 1 := bt_at t135 1; clear p15; have qi15 : (1 < (t135.size : Int)) = True := eq_true (of_decide_eq_true (by first | (with_reducible assumption) | assumption)); replace q15 := eq_true q15; have p22 : 0 ≤ (1 : Int) := (by omega); have q22 : 1 < t135.size := (by have : (1 : Int) < (t135.size : Int) := of_decide_eq_true (by first | (with_reducible assumption) | assumption); omega); have hx22 : ∀ h : 1 < t135.size, ((t135[1]'h).toNat : Int) = bt t135 1 := bt_at t135 1; clear p22; have qi22 : (1 < (t135.size : Int)) = True := eq_true (of_decide_eq_true (by first | (with_reducible assumption) | assumption)); replace q22 := eq_true q22; have p29 : 0 ≤ (1 : Int) := (by omega); have q29 : 1 < t135.size := (by have : (1 : Int) < (t135.size : Int) := of_decide_eq_true (by first | (with_reducible assumption) | assumption); omega); have hx29 : ∀ h : 1 < t135.size, ((t135[1]'h).toNat : Int) = bt t135 1 := bt_at t135 1; clear p29; have qi29 : (1 < (t135.size : Int)) = True := eq_true (of_decide_eq_true (by first | (with_reducible assumption) | assumption)); replace q29 := eq_true q29; have hcz35_0 : w34.cell? ⟨gb138, 0, none⟩ = some (.int .i64 (wrap64 (t137 + 1))) := (blk_cell BK138.out 0).trans rfl; have hcz35_1 : w34.cell? ⟨gb138, 1, none⟩ = some (.int .i64 0) := (blk_cell BK138.out 1).trans rfl; have hcz35_2 : w34.cell? ⟨gb138, 2, none⟩ = some (.string t134) := (blk_cell BK138.out 2).trans rfl; have hfz35_0 := blk_frozen BK138.out 0; have hfz35_1 := blk_frozen BK138.out 1; have hfz35_2 := blk_frozen BK138.out 2))
                    have n0_ : Aside0 ((w34.setCell ⟨gb138, 1, none⟩ (.int .i64 (((bt t135 1) - 48) % 256))).heap[gb133]? = some (.cells #[.int .i64 0, .int .i64 0, .string (⟨#[]⟩ : ByteArray)] 23 (0, 0))) := ⟨by (with_reducible repeat (first | refine blk_drewN ?_ _ | refine blk_drew ?_ | refine blk_alloc ?_ _)); refine blk_far ?_ NB133_138.out _; (with_reducible repeat (first | refine blk_drewN ?_ _ | refine blk_drew ?_ | refine blk_alloc ?_ _)); exact BK133.out⟩
                    have n1_ : Aside0 ((w34.setCell ⟨gb138, 1, none⟩ (.int .i64 (((bt t135 1) - 48) % 256))).heap[gb138]? = some (.cells #[.int .i64 (wrap64 (t137 + 1)), .int .i64 (((bt t135 1) - 48) % 256), .string t134] 23 (0, 0))) := ⟨by (with_reducible repeat (first | refine blk_drewN ?_ _ | refine blk_drew ?_ | refine blk_alloc ?_ _)); refine blk_put (cs := #[.int .i64 (wrap64 (t137 + 1)), .int .i64 0, .string t134]) ?_ 1 _ rfl; (with_reducible repeat (first | refine blk_drewN ?_ _ | refine blk_drew ?_ | refine blk_alloc ?_ _)); exact BK138.out⟩
                    have n2_ : Aside0 (Below w.heap.size w (w34.setCell ⟨gb138, 1, none⟩ (.int .i64 (((bt t135 1) - 48) % 256)))) := ⟨by repeat (first | (with_reducible first | exact HB.out | apply below_alloc | apply pw_below_drewN | apply below_drew1 | refine below_set ?_ GE133.out | refine below_set ?_ GE138.out) | exact HB.out)⟩
                    (try clear BK133)
                    (try clear BK138)
                    (try clear HB)
                    generalize (w34.setCell ⟨gb138, 1, none⟩ (.int .i64 (((bt t135 1) - 48) % 256))) = w36 at n0_ n1_ n2_ ⊢
                    have BK133 := n0_
                    have BK138 := n1_
                    have HB := n2_
                    clear n0_ n1_ n2_
                    have n0_ := Aside0.mk (blk_drew BK133.out)
                    have n1_ := Aside0.mk (blk_drew BK138.out)
                    have n2_ := Aside0.mk (below_drew1 HB.out)
                    clear BK133
                    clear BK138
                    clear HB
                    have BK133 := n0_
                    have BK138 := n1_
                    have HB := n2_
                    clear n0_ n1_ n2_
                    refine start_ (n := 6) (S := fun w' => w'.cell? ⟨gb138, 0, none⟩ = some (.int .i64 (wrap64 (t137 + 1))) ∧ w'.cell? ⟨gb138, 1, none⟩ = some (.int .i64 (((bt t135 1) - 48) % 256)) ∧ w'.cell? ⟨gb138, 2, none⟩ = some (.string t134)) (ds := []) #[false, false, false, false, false, false] (by kernel_rfl) rfl rfl ⟨(blk_cell BK138.out 0).trans rfl, (blk_cell BK138.out 1).trans rfl, (blk_cell BK138.out 2).trans rfl⟩ (fun hHeld => ?_)
                    generalize w36.drew = w37 at BK133 BK138 HB hHeld ⊢
                    refine take_ (i := 0) (N := some 52) (v := ?_) (a' := ?_) #[true, false, false, false, false, false] rfl rfl (by kernel_rfl) (fun _ _ _ h => h) (Or.inl ⟨by rfl, ?_⟩) hHeld ?_ ?_
                    rotate_left
                    · rintro w' ⟨s0, s1, s2⟩
                      go_simp
                      with_reducible rfl
                    rotate_left
                    · simp only [Act.put, List.setIfInBounds_toArray, List.set_cons_zero, List.set_cons_succ, i64_w, i32_w]
                      rfl
                    refine take_ (i := 1) (N := some 53) (v := ?_) (a' := ?_) #[true, true, false, false, false, false] rfl rfl (by kernel_rfl) (fun _ _ _ h => h) (Or.inl ⟨by rfl, ?_⟩) hHeld ?_ ?_
                    rotate_left
                    · rintro w' ⟨s0, s1, s2⟩
                      go_simp
                      with_reducible rfl
                    rotate_left
                    · simp only [Act.put, List.setIfInBounds_toArray, List.set_cons_zero, List.set_cons_succ, i64_w, i32_w]
                      rfl
                    refine one_ (i := 2) (N := some 54) #[true, true, true, false, false, false] rfl rfl (by kernel_rfl) (by decide) (fun K hK => ?_)
                    refine goes_ Tryd.func13 (by kernel_rfl) rfl #[.agg #[.int .i64 (wrap64 (t137 + 1)), .int .i64 (((bt t135 1) - 48) % 256), .string t134]] (by rfl) rfl rfl (by (try simp only [List.map_toArray, List.map_cons, List.map_nil]); first | done | rfl | (simp only [List.length_drop, List.length_take]; rfl)) ?_
                    with_reducible refine (sound_Valid.calls kj2 (wrap64 (t137 + 1)) (((bt t135 1) - 48) % 256) t134 t140 _ A30.out).mono ?_
                    rintro e w38 ⟨rfl, hb⟩
                    refine ⟨_, rfl, ?_⟩
                    have n0_ := Aside0.mk (blk_below (g := gb133) (o := .cells #[.int .i64 0, .int .i64 0, .string (⟨#[]⟩ : ByteArray)] 23 (0, 0)) (by (with_reducible repeat (first | refine blk_drewN ?_ _ | refine blk_drew ?_ | refine blk_alloc ?_ _)); exact BK133.out) hb)
                    have n1_ := Aside0.mk (blk_below (g := gb138) (o := .cells #[.int .i64 (wrap64 (t137 + 1)), .int .i64 (((bt t135 1) - 48) % 256), .string t134] 23 (0, 0)) (by (with_reducible repeat (first | refine blk_drewN ?_ _ | refine blk_drew ?_ | refine blk_alloc ?_ _)); exact BK138.out) hb)
                    have n2_ := Aside0.mk (below_step (by repeat (first | (with_reducible first | exact HB.out | apply below_alloc | apply pw_below_drewN | apply below_drew1 | refine below_set ?_ GE133.out | refine below_set ?_ GE138.out) | exact HB.out)) hb)
                    clear BK133
                    clear BK138
                    clear HB
                    have BK133 := n0_
                    have BK138 := n1_
                    have HB := n2_
                    clear n0_ n1_ n2_
                    (try clear hb)
                    (try clear hb2)
                    (try clear hk)
                    (try clear hi)
                    refine hK.out _ _ ⟨(blk_cell BK138.out 0).trans rfl, (blk_cell BK138.out 1).trans rfl, (blk_cell BK138.out 2).trans rfl⟩ (fun hHeld => ?_)
                    clear hK K
                    refine norm_ (a' := ?_) ?_ ?_
                    rotate_left
                    · show Act.put _ (some 54) _ = _
                      simp only [Act.put, List.setIfInBounds_toArray, List.set_cons_zero, List.set_cons_succ, i64_w, i32_w]
                      rfl
                    refine pure_ (i := 3) (N := some 55) (v := ?_) (a' := ?_) #[true, true, true, true, false, false] rfl rfl (by kernel_rfl) (fun _ _ _ h => h) (Or.inl ⟨by rfl, ?_⟩) ?_ ?_
                    rotate_left
                    · intro w'
                      go_simp
                      with_reducible rfl
                    rotate_left
                    · simp only [Act.put, List.setIfInBounds_toArray, List.set_cons_zero, List.set_cons_succ, i64_w, i32_w]
                      rfl
                    refine one_ (i := 4) (N := none) #[true, true, true, true, true, false] rfl rfl (by kernel_rfl) (by decide) (fun K hK => ?_)
                    have hs39 : w38.cell? ⟨gb133, 0, none⟩ = some (.int .i64 0) := (blk_cell BK133.out 0).trans rfl
                    have hfs39 := blk_frozen BK133.out 0
                    have hns39_1 := NB138_133.out
                    have hms39_1 := NB133_138.out
                    have hs40 : w38.cell? ⟨gb133, 1, none⟩ = some (.int .i64 0) := (blk_cell BK133.out 1).trans rfl
                    have hfs40 := blk_frozen BK133.out 1
                    have hns40_1 := NB138_133.out
                    have hms40_1 := NB133_138.out
                    have hs41 : w38.cell? ⟨gb133, 2, none⟩ = some (.string (⟨#[]⟩ : ByteArray)) := (blk_cell BK133.out 2).trans rfl
                    have hfs41 := blk_frozen BK133.out 2
                    have hns41_1 := NB138_133.out
                    have hms41_1 := NB133_138.out
                    refine skip_ (w1 := ?_) (by rfl) rfl ?_ ?_
                    rotate_left
                    · go_simp
                      rfl
                    refine hK.out _ _ ⟨((cell_far (p := ⟨gb133, _, none⟩) NB138_133.out _).trans (((cell_far (p := ⟨gb133, _, none⟩) NB138_133.out _).trans (((cell_far (p := ⟨gb133, _, none⟩) NB138_133.out _).trans (hHeld.1)))))), ((cell_far (p := ⟨gb133, _, none⟩) NB138_133.out _).trans (((cell_far (p := ⟨gb133, _, none⟩) NB138_133.out _).trans (((cell_far (p := ⟨gb133, _, none⟩) NB138_133.out _).trans (hHeld.2.1)))))), ((cell_far (p := ⟨gb133, _, none⟩) NB138_133.out _).trans (((cell_far (p := ⟨gb133, _, none⟩) NB138_133.out _).trans (((cell_far (p := ⟨gb133, _, none⟩) NB138_133.out _).trans (hHeld.2.2))))))⟩ (fun hHeld => ?_)
                    clear hK K
                    refine pure_ (i := 5) (N := some 3) (v := ?_) (a' := ?_) #[true, true, true, true, true, true] rfl rfl (by kernel_rfl) (fun _ _ _ h => h) (Or.inl ⟨by rfl, ?_⟩) ?_ ?_
                    rotate_left
                    · intro w'
                      go_simp
                      with_reducible rfl
                    rotate_left
                    · simp only [Act.put, List.setIfInBounds_toArray, List.set_cons_zero, List.set_cons_succ, i64_w, i32_w]
                      rfl
                    refine done_ (by kernel_rfl) ?_
                    try go_wp2
                    refine bodyPost_ret (results_ct rfl _ _ gb133 23 #[.int .i64 (wrap64 (t137 + 1)), .int .i64 (((bt t135 1) - 48) % 256), .string t134] (0, 0) _ rfl (by (with_reducible repeat (first | refine blk_drewN ?_ _ | refine blk_drew ?_ | refine blk_alloc ?_ _)); refine blk_put (cs := #[.int .i64 (wrap64 (t137 + 1)), .int .i64 (((bt t135 1) - 48) % 256), .string (⟨#[]⟩ : ByteArray)]) ?_ 2 _ rfl; (with_reducible repeat (first | refine blk_drewN ?_ _ | refine blk_drew ?_ | refine blk_alloc ?_ _)); refine blk_put (cs := #[.int .i64 (wrap64 (t137 + 1)), .int .i64 0, .string (⟨#[]⟩ : ByteArray)]) ?_ 1 _ rfl; (with_reducible repeat (first | refine blk_drewN ?_ _ | refine blk_drew ?_ | refine blk_alloc ?_ _)); refine blk_put (cs := #[.int .i64 0, .int .i64 0, .string (⟨#[]⟩ : ByteArray)]) ?_ 0 _ rfl; (with_reducible repeat (first | refine blk_drewN ?_ _ | refine blk_drew ?_ | refine blk_alloc ?_ _)); exact BK133.out) Tryd.underlying23 rfl (by kernel_rfl)) rfl ?_
                    exact ⟨by first | rfl | (simp [errW_none, errW_some] <;> rfl) | (simp [*, errW_none, errW_some] <;> rfl), by repeat (first | (with_reducible first | exact HB.out | apply below_alloc | apply pw_below_drewN | apply below_drew1 | refine below_set ?_ GE133.out | refine below_set ?_ GE138.out) | exact HB.out)⟩
              · rw [if_neg c14] at H
                exact absurd H (by simp)
            · rw [if_neg c13] at H
              have c13b0 : ((t135.size : Int) == 2) = false := beq_eq_false_iff_ne.mpr c13
              have c13b1 : ((t135.size : Int) != 2) = true := bne_iff_ne.mpr c13
              simp only [Option.some.injEq, Prod.mk.injEq] at H
              obtain ⟨rfl, rfl, rfl, rfl⟩ := H
              have p9 : 0 ≤ (0 : Int) := (by omega)
              have q9 : 0 < t135.size := (by have : (0 : Int) < (t135.size : Int) := of_decide_eq_true (by first | (with_reducible assumption) | assumption); omega)
              have hx9 : ∀ h : 0 < t135.size, ((t135[0]'h).toNat : Int) = bt t135 0 := bt_at t135 0
              clear p9
              have qi9 : (0 < (t135.size : Int)) = True := eq_true (of_decide_eq_true (by first | (with_reducible assumption) | assumption))
              replace q9 := eq_true q9
              go_wp2_with (first | ((with_reducible refine gate_callee (f := 60) rfl ?_); refine goesL_ (some 23) rfl rfl Tryd.func60 (by kernel_rfl) rfl #[.string (⟨#[118, 100, 109, 108, 110, 115, 120, 103, 98]⟩ : ByteArray), .int .u8 (bt t135 0)] rfl (by (try simp only [List.map_toArray, List.map_cons, List.map_nil]); first | done | rfl | (simp only [List.length_drop, List.length_take]; rfl)) ?_; (with_reducible refine (strings_IndexByte.calls (⟨#[118, 100, 109, 108, 110, 115, 120, 103, 98]⟩ : ByteArray) (bt t135 0) t137 _ A10.out).mono ?_); rintro e w' ⟨rfl, ⟨nd, rfl⟩⟩; refine ⟨_, rfl, ?_⟩; (try (rw [drewN_self wc]; generalize hq_ : World.drewN wc _ = wc; have n0_ : Aside0 (wc.heap[gb133]? = some (.cells #[.int .i64 0, .int .i64 0, .string (⟨#[]⟩ : ByteArray)] 23 (0, 0))) := ⟨by rw [← hq_]; exact (by (with_reducible repeat (first | refine blk_drewN ?_ _ | refine blk_drew ?_ | refine blk_alloc ?_ _)); exact BK133.out)⟩; have n1_ : Aside0 (Below w.heap.size w wc) := ⟨by rw [← hq_]; exact (by repeat (first | (with_reducible first | exact HB.out | apply below_alloc | apply pw_below_drewN | apply below_drew1 | refine below_set ?_ GE133.out) | exact HB.out))⟩; clear BK133 HB hq_; have BK133 := n0_; have HB := n1_; clear n0_ n1_))) | ((with_reducible refine gate_dst (N := 7) rfl ?_); refine box_event ?hg (N := 7) ?hd (cs := #[.int .i64 0, .int .i64 0, .string (⟨#[]⟩ : ByteArray)]) (t := 23) ?hr ?_; (case hd => rfl); (case hg => rfl); (case hr => first | (go_simp; done) | (go_simp; rfl)); intro gb138 hg w42 hbox hb; have n0_ := Aside0.mk (blk_below (g := gb133) (o := .cells #[.int .i64 0, .int .i64 0, .string (⟨#[]⟩ : ByteArray)] 23 (0, 0)) (by (with_reducible repeat (first | refine blk_drewN ?_ _ | refine blk_drew ?_ | refine blk_alloc ?_ _)); exact BK133.out) hb); have n1_ := Aside0.mk (below_step (by repeat (first | (with_reducible first | exact HB.out | apply below_alloc | apply pw_below_drewN | apply below_drew1 | refine below_set ?_ GE133.out) | exact HB.out)) hb); have n2_ := Aside0.mk (hbox); have n3_ := Aside0.mk ((by rw [hg]; exact (below_size (by repeat (first | (with_reducible first | exact HB.out | apply below_alloc | apply pw_below_drewN | apply below_drew1 | refine below_set ?_ GE133.out) | exact HB.out))) : w.heap.size ≤ gb138)); have n4_ := Aside0.mk ((by rw [hg]; exact (below_size (by repeat (first | (with_reducible first | exact HB.out | apply below_alloc | apply pw_below_drewN | apply below_drew1 | refine below_set ?_ GE133.out) | exact HB.out))) : w.heap.size ≤ gb138)); have n5_ := Aside0.mk ((by rw [hg]; exact Nat.ne_of_lt (blk_lt (g := gb133) (o := .cells #[.int .i64 0, .int .i64 0, .string (⟨#[]⟩ : ByteArray)] 23 (0, 0)) (by (with_reducible repeat (first | refine blk_drewN ?_ _ | refine blk_drew ?_ | refine blk_alloc ?_ _)); exact BK133.out)) : gb133 ≠ gb138)); have n6_ := Aside0.mk ((by rw [hg]; exact Nat.ne_of_gt (blk_lt (g := gb133) (o := .cells #[.int .i64 0, .int .i64 0, .string (⟨#[]⟩ : ByteArray)] 23 (0, 0)) (by (with_reducible repeat (first | refine blk_drewN ?_ _ | refine blk_drew ?_ | refine blk_alloc ?_ _)); exact BK133.out)) : gb138 ≠ gb133)); clear BK133; clear HB; have BK133 := n0_; have HB := n1_; have BK138 := n2_; have GW138 := n3_; have GE138 := n4_; have NB133_138 := n5_; have NB138_133 := n6_; clear n0_ n1_ n2_ n3_ n4_ n5_ n6_; clear hb hbox hg; have hnb43 := NB138_133.out; have hnc43 := NB133_138.out; have hcz44_0 : w42.cell? ⟨gb138, 0, none⟩ = some (.int .i64 0) := (blk_cell BK138.out 0).trans rfl; have hcz44_1 : w42.cell? ⟨gb138, 1, none⟩ = some (.int .i64 0) := (blk_cell BK138.out 1).trans rfl; have hcz44_2 : w42.cell? ⟨gb138, 2, none⟩ = some (.string (⟨#[]⟩ : ByteArray)) := (blk_cell BK138.out 2).trans rfl; have hfz44_0 := blk_frozen BK138.out 0; have hfz44_1 := blk_frozen BK138.out 1; have hfz44_2 := blk_frozen BK138.out 2) | ((with_reducible refine gate_callee (f := 15) rfl ?_); refine goesL_ (some 28) rfl rfl Tryd.func15 (by kernel_rfl) rfl #[.agg #[.int .i64 (wrap64 (t137 + 1)), .int .i64 0, .string t134]] rfl (by (try simp only [List.map_toArray, List.map_cons, List.map_nil]); first | done | rfl | (simp only [List.length_drop, List.length_take]; rfl)) ?_; (with_reducible refine (sound_Nucleus.calls (wrap64 (t137 + 1)) 0 t134 true _ A11.out).mono ?_); rintro e w45 ⟨rfl, hb⟩; refine ⟨_, rfl, ?_⟩; have n0_ := Aside0.mk (blk_below (g := gb133) (o := .cells #[.int .i64 0, .int .i64 0, .string (⟨#[]⟩ : ByteArray)] 23 (0, 0)) (by (with_reducible repeat (first | refine blk_drewN ?_ _ | refine blk_drew ?_ | refine blk_alloc ?_ _)); refine blk_far ?_ NB133_138.out _; (with_reducible repeat (first | refine blk_drewN ?_ _ | refine blk_drew ?_ | refine blk_alloc ?_ _)); refine blk_far ?_ NB133_138.out _; (with_reducible repeat (first | refine blk_drewN ?_ _ | refine blk_drew ?_ | refine blk_alloc ?_ _)); refine blk_far ?_ NB133_138.out _; (with_reducible repeat (first | refine blk_drewN ?_ _ | refine blk_drew ?_ | refine blk_alloc ?_ _)); exact BK133.out) hb); have n1_ := Aside0.mk (blk_below (g := gb138) (o := .cells #[.int .i64 (wrap64 (t137 + 1)), .int .i64 0, .string t134] 23 (0, 0)) (by (with_reducible repeat (first | refine blk_drewN ?_ _ | refine blk_drew ?_ | refine blk_alloc ?_ _)); refine blk_put (cs := #[.int .i64 (wrap64 (t137 + 1)), .int .i64 0, .string (⟨#[]⟩ : ByteArray)]) ?_ 2 _ rfl; (with_reducible repeat (first | refine blk_drewN ?_ _ | refine blk_drew ?_ | refine blk_alloc ?_ _)); refine blk_put (cs := #[.int .i64 (wrap64 (t137 + 1)), .int .i64 0, .string (⟨#[]⟩ : ByteArray)]) ?_ 1 _ rfl; (with_reducible repeat (first | refine blk_drewN ?_ _ | refine blk_drew ?_ | refine blk_alloc ?_ _)); refine blk_put (cs := #[.int .i64 0, .int .i64 0, .string (⟨#[]⟩ : ByteArray)]) ?_ 0 _ rfl; (with_reducible repeat (first | refine blk_drewN ?_ _ | refine blk_drew ?_ | refine blk_alloc ?_ _)); exact BK138.out) hb); have n2_ := Aside0.mk (below_step (by repeat (first | (with_reducible first | exact HB.out | apply below_alloc | apply pw_below_drewN | apply below_drew1 | refine below_set ?_ GE133.out | refine below_set ?_ GE138.out) | exact HB.out)) hb); clear BK133; clear BK138; clear HB; have BK133 := n0_; have BK138 := n1_; have HB := n2_; clear n0_ n1_ n2_; (try clear hb); (try clear hb2); (try clear hk); (try clear hi); have hcz46_0 : w45.cell? ⟨gb133, 0, none⟩ = some (.int .i64 0) := (blk_cell BK133.out 0).trans rfl; have hcz46_1 : w45.cell? ⟨gb133, 1, none⟩ = some (.int .i64 0) := (blk_cell BK133.out 1).trans rfl; have hcz46_2 : w45.cell? ⟨gb133, 2, none⟩ = some (.string (⟨#[]⟩ : ByteArray)) := (blk_cell BK133.out 2).trans rfl; have hfz46_0 := blk_frozen BK133.out 0; have hfz46_1 := blk_frozen BK133.out 1; have hfz46_2 := blk_frozen BK133.out 2))
              refine bodyPost_ret (results_ct rfl _ _ gb133 23 #[.int .i64 0, .int .i64 0, .string (⟨#[]⟩ : ByteArray)] (0, 0) _ rfl (by (with_reducible repeat (first | refine blk_drewN ?_ _ | refine blk_drew ?_ | refine blk_alloc ?_ _)); refine blk_put (cs := #[.int .i64 0, .int .i64 0, .string (⟨#[]⟩ : ByteArray)]) ?_ 2 _ rfl; (with_reducible repeat (first | refine blk_drewN ?_ _ | refine blk_drew ?_ | refine blk_alloc ?_ _)); refine blk_put (cs := #[.int .i64 0, .int .i64 0, .string (⟨#[]⟩ : ByteArray)]) ?_ 1 _ rfl; (with_reducible repeat (first | refine blk_drewN ?_ _ | refine blk_drew ?_ | refine blk_alloc ?_ _)); refine blk_put (cs := #[.int .i64 0, .int .i64 0, .string (⟨#[]⟩ : ByteArray)]) ?_ 0 _ rfl; (with_reducible repeat (first | refine blk_drewN ?_ _ | refine blk_drew ?_ | refine blk_alloc ?_ _)); exact BK133.out) Tryd.underlying23 rfl (by kernel_rfl)) rfl ?_
              exact ⟨by first | rfl | (simp [errW_none, errW_some] <;> rfl) | (simp [*, errW_none, errW_some] <;> rfl), by repeat (first | (with_reducible first | exact HB.out | apply below_alloc | apply pw_below_drewN | apply below_drew1 | refine below_set ?_ GE133.out | refine below_set ?_ GE138.out) | exact HB.out)⟩
          · replace c12 := Bool.eq_false_iff.mpr c12
            subst c12
            have H1 : (if (t135.size : Int) = 1 then ((sound_Valid.f kj2 (wrap64 (t137 + 1)) 0 t134).bind fun t141 => (some (wrap64 (t137 + 1), 0, t134, (t141 == 0)))) else (some (0, 0, (⟨#[]⟩ : ByteArray), false))) = some (r1, r2, r3, r4) := by rw [if_neg (show ¬ (false = true) by decide)] at H; exact H
            clear H
            have H := H1
            clear H1
            by_cases c47 : (t135.size : Int) = 1
            · rw [if_pos c47] at H
              have c47b0 : ((t135.size : Int) == 1) = true := beq_iff_eq.mpr c47
              have c47b1 : ((t135.size : Int) != 1) = false := bne_eq_false_iff_eq.mpr c47
              clear c47
              replace H := Option.bind_eq_some_iff.mp H
              obtain ⟨t141, A480, H⟩ := H
              replace H : (some (wrap64 (t137 + 1), 0, t134, (t141 == 0))) = some (r1, r2, r3, r4) := H
              have A48 := Aside0.mk A480
              clear A480
              simp only [Option.some.injEq, Prod.mk.injEq] at H
              obtain ⟨rfl, rfl, rfl, rfl⟩ := H
              have p9 : 0 ≤ (0 : Int) := (by omega)
              have q9 : 0 < t135.size := (by have : (0 : Int) < (t135.size : Int) := of_decide_eq_true (by first | (with_reducible assumption) | assumption); omega)
              have hx9 : ∀ h : 0 < t135.size, ((t135[0]'h).toNat : Int) = bt t135 0 := bt_at t135 0
              clear p9
              have qi9 : (0 < (t135.size : Int)) = True := eq_true (of_decide_eq_true (by first | (with_reducible assumption) | assumption))
              replace q9 := eq_true q9
              try go_wp2_with (first | ((with_reducible refine gate_callee (f := 60) rfl ?_); refine goesL_ (some 23) rfl rfl Tryd.func60 (by kernel_rfl) rfl #[.string (⟨#[118, 100, 109, 108, 110, 115, 120, 103, 98]⟩ : ByteArray), .int .u8 (bt t135 0)] rfl (by (try simp only [List.map_toArray, List.map_cons, List.map_nil]); first | done | rfl | (simp only [List.length_drop, List.length_take]; rfl)) ?_; (with_reducible refine (strings_IndexByte.calls (⟨#[118, 100, 109, 108, 110, 115, 120, 103, 98]⟩ : ByteArray) (bt t135 0) t137 _ A10.out).mono ?_); rintro e w' ⟨rfl, ⟨nd, rfl⟩⟩; refine ⟨_, rfl, ?_⟩; (try (rw [drewN_self wc]; generalize hq_ : World.drewN wc _ = wc; have n0_ : Aside0 (wc.heap[gb133]? = some (.cells #[.int .i64 0, .int .i64 0, .string (⟨#[]⟩ : ByteArray)] 23 (0, 0))) := ⟨by rw [← hq_]; exact (by (with_reducible repeat (first | refine blk_drewN ?_ _ | refine blk_drew ?_ | refine blk_alloc ?_ _)); exact BK133.out)⟩; have n1_ : Aside0 (Below w.heap.size w wc) := ⟨by rw [← hq_]; exact (by repeat (first | (with_reducible first | exact HB.out | apply below_alloc | apply pw_below_drewN | apply below_drew1 | refine below_set ?_ GE133.out) | exact HB.out))⟩; clear BK133 HB hq_; have BK133 := n0_; have HB := n1_; clear n0_ n1_))) | ((with_reducible refine gate_dst (N := 7) rfl ?_); refine box_event ?hg (N := 7) ?hd (cs := #[.int .i64 0, .int .i64 0, .string (⟨#[]⟩ : ByteArray)]) (t := 23) ?hr ?_; (case hd => rfl); (case hg => rfl); (case hr => first | (go_simp; done) | (go_simp; rfl)); intro gb138 hg w49 hbox hb; have n0_ := Aside0.mk (blk_below (g := gb133) (o := .cells #[.int .i64 0, .int .i64 0, .string (⟨#[]⟩ : ByteArray)] 23 (0, 0)) (by (with_reducible repeat (first | refine blk_drewN ?_ _ | refine blk_drew ?_ | refine blk_alloc ?_ _)); exact BK133.out) hb); have n1_ := Aside0.mk (below_step (by repeat (first | (with_reducible first | exact HB.out | apply below_alloc | apply pw_below_drewN | apply below_drew1 | refine below_set ?_ GE133.out) | exact HB.out)) hb); have n2_ := Aside0.mk (hbox); have n3_ := Aside0.mk ((by rw [hg]; exact (below_size (by repeat (first | (with_reducible first | exact HB.out | apply below_alloc | apply pw_below_drewN | apply below_drew1 | refine below_set ?_ GE133.out) | exact HB.out))) : w.heap.size ≤ gb138)); have n4_ := Aside0.mk ((by rw [hg]; exact (below_size (by repeat (first | (with_reducible first | exact HB.out | apply below_alloc | apply pw_below_drewN | apply below_drew1 | refine below_set ?_ GE133.out) | exact HB.out))) : w.heap.size ≤ gb138)); have n5_ := Aside0.mk ((by rw [hg]; exact Nat.ne_of_lt (blk_lt (g := gb133) (o := .cells #[.int .i64 0, .int .i64 0, .string (⟨#[]⟩ : ByteArray)] 23 (0, 0)) (by (with_reducible repeat (first | refine blk_drewN ?_ _ | refine blk_drew ?_ | refine blk_alloc ?_ _)); exact BK133.out)) : gb133 ≠ gb138)); have n6_ := Aside0.mk ((by rw [hg]; exact Nat.ne_of_gt (blk_lt (g := gb133) (o := .cells #[.int .i64 0, .int .i64 0, .string (⟨#[]⟩ : ByteArray)] 23 (0, 0)) (by (with_reducible repeat (first | refine blk_drewN ?_ _ | refine blk_drew ?_ | refine blk_alloc ?_ _)); exact BK133.out)) : gb138 ≠ gb133)); clear BK133; clear HB; have BK133 := n0_; have HB := n1_; have BK138 := n2_; have GW138 := n3_; have GE138 := n4_; have NB133_138 := n5_; have NB138_133 := n6_; clear n0_ n1_ n2_ n3_ n4_ n5_ n6_; clear hb hbox hg; have hnb50 := NB138_133.out; have hnc50 := NB133_138.out; have hcz51_0 : w49.cell? ⟨gb138, 0, none⟩ = some (.int .i64 0) := (blk_cell BK138.out 0).trans rfl; have hcz51_1 : w49.cell? ⟨gb138, 1, none⟩ = some (.int .i64 0) := (blk_cell BK138.out 1).trans rfl; have hcz51_2 : w49.cell? ⟨gb138, 2, none⟩ = some (.string (⟨#[]⟩ : ByteArray)) := (blk_cell BK138.out 2).trans rfl; have hfz51_0 := blk_frozen BK138.out 0; have hfz51_1 := blk_frozen BK138.out 1; have hfz51_2 := blk_frozen BK138.out 2) | ((with_reducible refine gate_callee (f := 15) rfl ?_); refine goesL_ (some 28) rfl rfl Tryd.func15 (by kernel_rfl) rfl #[.agg #[.int .i64 (wrap64 (t137 + 1)), .int .i64 0, .string t134]] rfl (by (try simp only [List.map_toArray, List.map_cons, List.map_nil]); first | done | rfl | (simp only [List.length_drop, List.length_take]; rfl)) ?_; (with_reducible refine (sound_Nucleus.calls (wrap64 (t137 + 1)) 0 t134 false _ A11.out).mono ?_); rintro e w52 ⟨rfl, hb⟩; refine ⟨_, rfl, ?_⟩; have n0_ := Aside0.mk (blk_below (g := gb133) (o := .cells #[.int .i64 0, .int .i64 0, .string (⟨#[]⟩ : ByteArray)] 23 (0, 0)) (by (with_reducible repeat (first | refine blk_drewN ?_ _ | refine blk_drew ?_ | refine blk_alloc ?_ _)); refine blk_far ?_ NB133_138.out _; (with_reducible repeat (first | refine blk_drewN ?_ _ | refine blk_drew ?_ | refine blk_alloc ?_ _)); refine blk_far ?_ NB133_138.out _; (with_reducible repeat (first | refine blk_drewN ?_ _ | refine blk_drew ?_ | refine blk_alloc ?_ _)); refine blk_far ?_ NB133_138.out _; (with_reducible repeat (first | refine blk_drewN ?_ _ | refine blk_drew ?_ | refine blk_alloc ?_ _)); exact BK133.out) hb); have n1_ := Aside0.mk (blk_below (g := gb138) (o := .cells #[.int .i64 (wrap64 (t137 + 1)), .int .i64 0, .string t134] 23 (0, 0)) (by (with_reducible repeat (first | refine blk_drewN ?_ _ | refine blk_drew ?_ | refine blk_alloc ?_ _)); refine blk_put (cs := #[.int .i64 (wrap64 (t137 + 1)), .int .i64 0, .string (⟨#[]⟩ : ByteArray)]) ?_ 2 _ rfl; (with_reducible repeat (first | refine blk_drewN ?_ _ | refine blk_drew ?_ | refine blk_alloc ?_ _)); refine blk_put (cs := #[.int .i64 (wrap64 (t137 + 1)), .int .i64 0, .string (⟨#[]⟩ : ByteArray)]) ?_ 1 _ rfl; (with_reducible repeat (first | refine blk_drewN ?_ _ | refine blk_drew ?_ | refine blk_alloc ?_ _)); refine blk_put (cs := #[.int .i64 0, .int .i64 0, .string (⟨#[]⟩ : ByteArray)]) ?_ 0 _ rfl; (with_reducible repeat (first | refine blk_drewN ?_ _ | refine blk_drew ?_ | refine blk_alloc ?_ _)); exact BK138.out) hb); have n2_ := Aside0.mk (below_step (by repeat (first | (with_reducible first | exact HB.out | apply below_alloc | apply pw_below_drewN | apply below_drew1 | refine below_set ?_ GE133.out | refine below_set ?_ GE138.out) | exact HB.out)) hb); clear BK133; clear BK138; clear HB; have BK133 := n0_; have BK138 := n1_; have HB := n2_; clear n0_ n1_ n2_; (try clear hb); (try clear hb2); (try clear hk); (try clear hi)))
              have n0_ := Aside0.mk (blk_drew BK133.out)
              have n1_ := Aside0.mk (blk_drew BK138.out)
              have n2_ := Aside0.mk (below_drew1 HB.out)
              clear BK133
              clear BK138
              clear HB
              have BK133 := n0_
              have BK138 := n1_
              have HB := n2_
              clear n0_ n1_ n2_
              refine start_ (n := 6) (S := fun w' => w'.cell? ⟨gb138, 0, none⟩ = some (.int .i64 (wrap64 (t137 + 1))) ∧ w'.cell? ⟨gb138, 1, none⟩ = some (.int .i64 0) ∧ w'.cell? ⟨gb138, 2, none⟩ = some (.string t134)) (ds := []) #[false, false, false, false, false, false] (by kernel_rfl) rfl rfl ⟨(blk_cell BK138.out 0).trans rfl, (blk_cell BK138.out 1).trans rfl, (blk_cell BK138.out 2).trans rfl⟩ (fun hHeld => ?_)
              generalize w52.drew = w53 at BK133 BK138 HB hHeld ⊢
              refine take_ (i := 0) (N := some 52) (v := ?_) (a' := ?_) #[true, false, false, false, false, false] rfl rfl (by kernel_rfl) (fun _ _ _ h => h) (Or.inl ⟨by rfl, ?_⟩) hHeld ?_ ?_
              rotate_left
              · rintro w' ⟨s0, s1, s2⟩
                go_simp
                with_reducible rfl
              rotate_left
              · simp only [Act.put, List.setIfInBounds_toArray, List.set_cons_zero, List.set_cons_succ, i64_w, i32_w]
                rfl
              refine take_ (i := 1) (N := some 53) (v := ?_) (a' := ?_) #[true, true, false, false, false, false] rfl rfl (by kernel_rfl) (fun _ _ _ h => h) (Or.inl ⟨by rfl, ?_⟩) hHeld ?_ ?_
              rotate_left
              · rintro w' ⟨s0, s1, s2⟩
                go_simp
                with_reducible rfl
              rotate_left
              · simp only [Act.put, List.setIfInBounds_toArray, List.set_cons_zero, List.set_cons_succ, i64_w, i32_w]
                rfl
              refine one_ (i := 2) (N := some 54) #[true, true, true, false, false, false] rfl rfl (by kernel_rfl) (by decide) (fun K hK => ?_)
              refine goes_ Tryd.func13 (by kernel_rfl) rfl #[.agg #[.int .i64 (wrap64 (t137 + 1)), .int .i64 0, .string t134]] (by rfl) rfl rfl (by (try simp only [List.map_toArray, List.map_cons, List.map_nil]); first | done | rfl | (simp only [List.length_drop, List.length_take]; rfl)) ?_
              with_reducible refine (sound_Valid.calls kj2 (wrap64 (t137 + 1)) 0 t134 t141 _ A48.out).mono ?_
              rintro e w54 ⟨rfl, hb⟩
              refine ⟨_, rfl, ?_⟩
              have n0_ := Aside0.mk (blk_below (g := gb133) (o := .cells #[.int .i64 0, .int .i64 0, .string (⟨#[]⟩ : ByteArray)] 23 (0, 0)) (by (with_reducible repeat (first | refine blk_drewN ?_ _ | refine blk_drew ?_ | refine blk_alloc ?_ _)); exact BK133.out) hb)
              have n1_ := Aside0.mk (blk_below (g := gb138) (o := .cells #[.int .i64 (wrap64 (t137 + 1)), .int .i64 0, .string t134] 23 (0, 0)) (by (with_reducible repeat (first | refine blk_drewN ?_ _ | refine blk_drew ?_ | refine blk_alloc ?_ _)); exact BK138.out) hb)
              have n2_ := Aside0.mk (below_step (by repeat (first | (with_reducible first | exact HB.out | apply below_alloc | apply pw_below_drewN | apply below_drew1 | refine below_set ?_ GE133.out | refine below_set ?_ GE138.out) | exact HB.out)) hb)
              clear BK133
              clear BK138
              clear HB
              have BK133 := n0_
              have BK138 := n1_
              have HB := n2_
              clear n0_ n1_ n2_
              (try clear hb)
              (try clear hb2)
              (try clear hk)
              (try clear hi)
              refine hK.out _ _ ⟨(blk_cell BK138.out 0).trans rfl, (blk_cell BK138.out 1).trans rfl, (blk_cell BK138.out 2).trans rfl⟩ (fun hHeld => ?_)
              clear hK K
              refine norm_ (a' := ?_) ?_ ?_
              rotate_left
              · show Act.put _ (some 54) _ = _
                simp only [Act.put, List.setIfInBounds_toArray, List.set_cons_zero, List.set_cons_succ, i64_w, i32_w]
                rfl
              refine pure_ (i := 3) (N := some 55) (v := ?_) (a' := ?_) #[true, true, true, true, false, false] rfl rfl (by kernel_rfl) (fun _ _ _ h => h) (Or.inl ⟨by rfl, ?_⟩) ?_ ?_
              rotate_left
              · intro w'
                go_simp
                with_reducible rfl
              rotate_left
              · simp only [Act.put, List.setIfInBounds_toArray, List.set_cons_zero, List.set_cons_succ, i64_w, i32_w]
                rfl
              refine one_ (i := 4) (N := none) #[true, true, true, true, true, false] rfl rfl (by kernel_rfl) (by decide) (fun K hK => ?_)
              have hs55 : w54.cell? ⟨gb133, 0, none⟩ = some (.int .i64 0) := (blk_cell BK133.out 0).trans rfl
              have hfs55 := blk_frozen BK133.out 0
              have hns55_1 := NB138_133.out
              have hms55_1 := NB133_138.out
              have hs56 : w54.cell? ⟨gb133, 1, none⟩ = some (.int .i64 0) := (blk_cell BK133.out 1).trans rfl
              have hfs56 := blk_frozen BK133.out 1
              have hns56_1 := NB138_133.out
              have hms56_1 := NB133_138.out
              have hs57 : w54.cell? ⟨gb133, 2, none⟩ = some (.string (⟨#[]⟩ : ByteArray)) := (blk_cell BK133.out 2).trans rfl
              have hfs57 := blk_frozen BK133.out 2
              have hns57_1 := NB138_133.out
              have hms57_1 := NB133_138.out
              refine skip_ (w1 := ?_) (by rfl) rfl ?_ ?_
              rotate_left
              · go_simp
                rfl
              refine hK.out _ _ ⟨((cell_far (p := ⟨gb133, _, none⟩) NB138_133.out _).trans (((cell_far (p := ⟨gb133, _, none⟩) NB138_133.out _).trans (((cell_far (p := ⟨gb133, _, none⟩) NB138_133.out _).trans (hHeld.1)))))), ((cell_far (p := ⟨gb133, _, none⟩) NB138_133.out _).trans (((cell_far (p := ⟨gb133, _, none⟩) NB138_133.out _).trans (((cell_far (p := ⟨gb133, _, none⟩) NB138_133.out _).trans (hHeld.2.1)))))), ((cell_far (p := ⟨gb133, _, none⟩) NB138_133.out _).trans (((cell_far (p := ⟨gb133, _, none⟩) NB138_133.out _).trans (((cell_far (p := ⟨gb133, _, none⟩) NB138_133.out _).trans (hHeld.2.2))))))⟩ (fun hHeld => ?_)
              clear hK K
              refine pure_ (i := 5) (N := some 3) (v := ?_) (a' := ?_) #[true, true, true, true, true, true] rfl rfl (by kernel_rfl) (fun _ _ _ h => h) (Or.inl ⟨by rfl, ?_⟩) ?_ ?_
              rotate_left
              · intro w'
                go_simp
                with_reducible rfl
              rotate_left
              · simp only [Act.put, List.setIfInBounds_toArray, List.set_cons_zero, List.set_cons_succ, i64_w, i32_w]
                rfl
              refine done_ (by kernel_rfl) ?_
              try go_wp2
              refine bodyPost_ret (results_ct rfl _ _ gb133 23 #[.int .i64 (wrap64 (t137 + 1)), .int .i64 0, .string t134] (0, 0) _ rfl (by (with_reducible repeat (first | refine blk_drewN ?_ _ | refine blk_drew ?_ | refine blk_alloc ?_ _)); refine blk_put (cs := #[.int .i64 (wrap64 (t137 + 1)), .int .i64 0, .string (⟨#[]⟩ : ByteArray)]) ?_ 2 _ rfl; (with_reducible repeat (first | refine blk_drewN ?_ _ | refine blk_drew ?_ | refine blk_alloc ?_ _)); refine blk_put (cs := #[.int .i64 (wrap64 (t137 + 1)), .int .i64 0, .string (⟨#[]⟩ : ByteArray)]) ?_ 1 _ rfl; (with_reducible repeat (first | refine blk_drewN ?_ _ | refine blk_drew ?_ | refine blk_alloc ?_ _)); refine blk_put (cs := #[.int .i64 0, .int .i64 0, .string (⟨#[]⟩ : ByteArray)]) ?_ 0 _ rfl; (with_reducible repeat (first | refine blk_drewN ?_ _ | refine blk_drew ?_ | refine blk_alloc ?_ _)); exact BK133.out) Tryd.underlying23 rfl (by kernel_rfl)) rfl ?_
              exact ⟨by first | rfl | (simp [errW_none, errW_some] <;> rfl) | (simp [*, errW_none, errW_some] <;> rfl), by repeat (first | (with_reducible first | exact HB.out | apply below_alloc | apply pw_below_drewN | apply below_drew1 | refine below_set ?_ GE133.out | refine below_set ?_ GE138.out) | exact HB.out)⟩
            · rw [if_neg c47] at H
              have c47b0 : ((t135.size : Int) == 1) = false := beq_eq_false_iff_ne.mpr c47
              have c47b1 : ((t135.size : Int) != 1) = true := bne_iff_ne.mpr c47
              simp only [Option.some.injEq, Prod.mk.injEq] at H
              obtain ⟨rfl, rfl, rfl, rfl⟩ := H
              have p9 : 0 ≤ (0 : Int) := (by omega)
              have q9 : 0 < t135.size := (by have : (0 : Int) < (t135.size : Int) := of_decide_eq_true (by first | (with_reducible assumption) | assumption); omega)
              have hx9 : ∀ h : 0 < t135.size, ((t135[0]'h).toNat : Int) = bt t135 0 := bt_at t135 0
              clear p9
              have qi9 : (0 < (t135.size : Int)) = True := eq_true (of_decide_eq_true (by first | (with_reducible assumption) | assumption))
              replace q9 := eq_true q9
              go_wp2_with (first | ((with_reducible refine gate_callee (f := 60) rfl ?_); refine goesL_ (some 23) rfl rfl Tryd.func60 (by kernel_rfl) rfl #[.string (⟨#[118, 100, 109, 108, 110, 115, 120, 103, 98]⟩ : ByteArray), .int .u8 (bt t135 0)] rfl (by (try simp only [List.map_toArray, List.map_cons, List.map_nil]); first | done | rfl | (simp only [List.length_drop, List.length_take]; rfl)) ?_; (with_reducible refine (strings_IndexByte.calls (⟨#[118, 100, 109, 108, 110, 115, 120, 103, 98]⟩ : ByteArray) (bt t135 0) t137 _ A10.out).mono ?_); rintro e w' ⟨rfl, ⟨nd, rfl⟩⟩; refine ⟨_, rfl, ?_⟩; (try (rw [drewN_self wc]; generalize hq_ : World.drewN wc _ = wc; have n0_ : Aside0 (wc.heap[gb133]? = some (.cells #[.int .i64 0, .int .i64 0, .string (⟨#[]⟩ : ByteArray)] 23 (0, 0))) := ⟨by rw [← hq_]; exact (by (with_reducible repeat (first | refine blk_drewN ?_ _ | refine blk_drew ?_ | refine blk_alloc ?_ _)); exact BK133.out)⟩; have n1_ : Aside0 (Below w.heap.size w wc) := ⟨by rw [← hq_]; exact (by repeat (first | (with_reducible first | exact HB.out | apply below_alloc | apply pw_below_drewN | apply below_drew1 | refine below_set ?_ GE133.out) | exact HB.out))⟩; clear BK133 HB hq_; have BK133 := n0_; have HB := n1_; clear n0_ n1_))) | ((with_reducible refine gate_dst (N := 7) rfl ?_); refine box_event ?hg (N := 7) ?hd (cs := #[.int .i64 0, .int .i64 0, .string (⟨#[]⟩ : ByteArray)]) (t := 23) ?hr ?_; (case hd => rfl); (case hg => rfl); (case hr => first | (go_simp; done) | (go_simp; rfl)); intro gb138 hg w58 hbox hb; have n0_ := Aside0.mk (blk_below (g := gb133) (o := .cells #[.int .i64 0, .int .i64 0, .string (⟨#[]⟩ : ByteArray)] 23 (0, 0)) (by (with_reducible repeat (first | refine blk_drewN ?_ _ | refine blk_drew ?_ | refine blk_alloc ?_ _)); exact BK133.out) hb); have n1_ := Aside0.mk (below_step (by repeat (first | (with_reducible first | exact HB.out | apply below_alloc | apply pw_below_drewN | apply below_drew1 | refine below_set ?_ GE133.out) | exact HB.out)) hb); have n2_ := Aside0.mk (hbox); have n3_ := Aside0.mk ((by rw [hg]; exact (below_size (by repeat (first | (with_reducible first | exact HB.out | apply below_alloc | apply pw_below_drewN | apply below_drew1 | refine below_set ?_ GE133.out) | exact HB.out))) : w.heap.size ≤ gb138)); have n4_ := Aside0.mk ((by rw [hg]; exact (below_size (by repeat (first | (with_reducible first | exact HB.out | apply below_alloc | apply pw_below_drewN | apply below_drew1 | refine below_set ?_ GE133.out) | exact HB.out))) : w.heap.size ≤ gb138)); have n5_ := Aside0.mk ((by rw [hg]; exact Nat.ne_of_lt (blk_lt (g := gb133) (o := .cells #[.int .i64 0, .int .i64 0, .string (⟨#[]⟩ : ByteArray)] 23 (0, 0)) (by (with_reducible repeat (first | refine blk_drewN ?_ _ | refine blk_drew ?_ | refine blk_alloc ?_ _)); exact BK133.out)) : gb133 ≠ gb138)); have n6_ := Aside0.mk ((by rw [hg]; exact Nat.ne_of_gt (blk_lt (g := gb133) (o := .cells #[.int .i64 0, .int .i64 0, .string (⟨#[]⟩ : ByteArray)] 23 (0, 0)) (by (with_reducible repeat (first | refine blk_drewN ?_ _ | refine blk_drew ?_ | refine blk_alloc ?_ _)); exact BK133.out)) : gb138 ≠ gb133)); clear BK133; clear HB; have BK133 := n0_; have HB := n1_; have BK138 := n2_; have GW138 := n3_; have GE138 := n4_; have NB133_138 := n5_; have NB138_133 := n6_; clear n0_ n1_ n2_ n3_ n4_ n5_ n6_; clear hb hbox hg; have hnb59 := NB138_133.out; have hnc59 := NB133_138.out; have hcz60_0 : w58.cell? ⟨gb138, 0, none⟩ = some (.int .i64 0) := (blk_cell BK138.out 0).trans rfl; have hcz60_1 : w58.cell? ⟨gb138, 1, none⟩ = some (.int .i64 0) := (blk_cell BK138.out 1).trans rfl; have hcz60_2 : w58.cell? ⟨gb138, 2, none⟩ = some (.string (⟨#[]⟩ : ByteArray)) := (blk_cell BK138.out 2).trans rfl; have hfz60_0 := blk_frozen BK138.out 0; have hfz60_1 := blk_frozen BK138.out 1; have hfz60_2 := blk_frozen BK138.out 2) | ((with_reducible refine gate_callee (f := 15) rfl ?_); refine goesL_ (some 28) rfl rfl Tryd.func15 (by kernel_rfl) rfl #[.agg #[.int .i64 (wrap64 (t137 + 1)), .int .i64 0, .string t134]] rfl (by (try simp only [List.map_toArray, List.map_cons, List.map_nil]); first | done | rfl | (simp only [List.length_drop, List.length_take]; rfl)) ?_; (with_reducible refine (sound_Nucleus.calls (wrap64 (t137 + 1)) 0 t134 false _ A11.out).mono ?_); rintro e w61 ⟨rfl, hb⟩; refine ⟨_, rfl, ?_⟩; have n0_ := Aside0.mk (blk_below (g := gb133) (o := .cells #[.int .i64 0, .int .i64 0, .string (⟨#[]⟩ : ByteArray)] 23 (0, 0)) (by (with_reducible repeat (first | refine blk_drewN ?_ _ | refine blk_drew ?_ | refine blk_alloc ?_ _)); refine blk_far ?_ NB133_138.out _; (with_reducible repeat (first | refine blk_drewN ?_ _ | refine blk_drew ?_ | refine blk_alloc ?_ _)); refine blk_far ?_ NB133_138.out _; (with_reducible repeat (first | refine blk_drewN ?_ _ | refine blk_drew ?_ | refine blk_alloc ?_ _)); refine blk_far ?_ NB133_138.out _; (with_reducible repeat (first | refine blk_drewN ?_ _ | refine blk_drew ?_ | refine blk_alloc ?_ _)); exact BK133.out) hb); have n1_ := Aside0.mk (blk_below (g := gb138) (o := .cells #[.int .i64 (wrap64 (t137 + 1)), .int .i64 0, .string t134] 23 (0, 0)) (by (with_reducible repeat (first | refine blk_drewN ?_ _ | refine blk_drew ?_ | refine blk_alloc ?_ _)); refine blk_put (cs := #[.int .i64 (wrap64 (t137 + 1)), .int .i64 0, .string (⟨#[]⟩ : ByteArray)]) ?_ 2 _ rfl; (with_reducible repeat (first | refine blk_drewN ?_ _ | refine blk_drew ?_ | refine blk_alloc ?_ _)); refine blk_put (cs := #[.int .i64 (wrap64 (t137 + 1)), .int .i64 0, .string (⟨#[]⟩ : ByteArray)]) ?_ 1 _ rfl; (with_reducible repeat (first | refine blk_drewN ?_ _ | refine blk_drew ?_ | refine blk_alloc ?_ _)); refine blk_put (cs := #[.int .i64 0, .int .i64 0, .string (⟨#[]⟩ : ByteArray)]) ?_ 0 _ rfl; (with_reducible repeat (first | refine blk_drewN ?_ _ | refine blk_drew ?_ | refine blk_alloc ?_ _)); exact BK138.out) hb); have n2_ := Aside0.mk (below_step (by repeat (first | (with_reducible first | exact HB.out | apply below_alloc | apply pw_below_drewN | apply below_drew1 | refine below_set ?_ GE133.out | refine below_set ?_ GE138.out) | exact HB.out)) hb); clear BK133; clear BK138; clear HB; have BK133 := n0_; have BK138 := n1_; have HB := n2_; clear n0_ n1_ n2_; (try clear hb); (try clear hb2); (try clear hk); (try clear hi); have hcz62_0 : w61.cell? ⟨gb133, 0, none⟩ = some (.int .i64 0) := (blk_cell BK133.out 0).trans rfl; have hcz62_1 : w61.cell? ⟨gb133, 1, none⟩ = some (.int .i64 0) := (blk_cell BK133.out 1).trans rfl; have hcz62_2 : w61.cell? ⟨gb133, 2, none⟩ = some (.string (⟨#[]⟩ : ByteArray)) := (blk_cell BK133.out 2).trans rfl; have hfz62_0 := blk_frozen BK133.out 0; have hfz62_1 := blk_frozen BK133.out 1; have hfz62_2 := blk_frozen BK133.out 2))
              refine bodyPost_ret (results_ct rfl _ _ gb133 23 #[.int .i64 0, .int .i64 0, .string (⟨#[]⟩ : ByteArray)] (0, 0) _ rfl (by (with_reducible repeat (first | refine blk_drewN ?_ _ | refine blk_drew ?_ | refine blk_alloc ?_ _)); refine blk_put (cs := #[.int .i64 0, .int .i64 0, .string (⟨#[]⟩ : ByteArray)]) ?_ 2 _ rfl; (with_reducible repeat (first | refine blk_drewN ?_ _ | refine blk_drew ?_ | refine blk_alloc ?_ _)); refine blk_put (cs := #[.int .i64 0, .int .i64 0, .string (⟨#[]⟩ : ByteArray)]) ?_ 1 _ rfl; (with_reducible repeat (first | refine blk_drewN ?_ _ | refine blk_drew ?_ | refine blk_alloc ?_ _)); refine blk_put (cs := #[.int .i64 0, .int .i64 0, .string (⟨#[]⟩ : ByteArray)]) ?_ 0 _ rfl; (with_reducible repeat (first | refine blk_drewN ?_ _ | refine blk_drew ?_ | refine blk_alloc ?_ _)); exact BK133.out) Tryd.underlying23 rfl (by kernel_rfl)) rfl ?_
              exact ⟨by first | rfl | (simp [errW_none, errW_some] <;> rfl) | (simp [*, errW_none, errW_some] <;> rfl), by repeat (first | (with_reducible first | exact HB.out | apply below_alloc | apply pw_below_drewN | apply below_drew1 | refine below_set ?_ GE133.out | refine below_set ?_ GE138.out) | exact HB.out)⟩
        · rw [if_neg c8] at H
          exact absurd H (by simp)

/-! ### sound_Parse: function 30 -/
def sound_Parse.l0 : Nat → List (S23) → List ByteArray → Int → Int → Option ((List (S23)) × Int)
  | 0, _, _, _, _ => none
  | k + 1, x4, x15, x16, x17 => if x17 < x16 then (if 0 ≤ x17 then (if x17 < (x15.length : Int) then ((sound_read.f k (rdOf ByteArray.empty x15 x17)).bind fun bt146 => (if bt146.2.2.2 = true then (if x4.length < 4398046511104 then (sound_Parse.l0 k (x4 ++ [(⟨bt146.1, bt146.2.1, bt146.2.2.1⟩ : S23)]) x15 x16 (wrap64 (x17 + 1))) else (none)) else (some (([] : List (S23)), 2)))) else (none)) else (none)) else (if (x4.length : Int) > 200 then (some (([] : List (S23)), 2)) else (some (x4, 0)))
def sound_Parse.f (k : Nat) (a0 : ByteArray) : Option ((List (S23)) × Int) := if (a0.size : Int) > 4000 then (some (([] : List (S23)), 3)) else (if a0.toList = ([] : List UInt8) then (some (([] : List (S23)), 0)) else ((strings_Split.f a0 (⟨#[32]⟩ : ByteArray)).bind fun t142 => (sound_Parse.l0 k ([] : List (S23)) t142 (t142.length : Int) 0)))
theorem sound_Parse.mono_l : ∀ k, (∀ y0 y1 y2 y3, LeO (sound_Parse.l0 k y0 y1 y2 y3) (sound_Parse.l0 (k + 1) y0 y1 y2 y3))
  | 0 => fun _ _ _ _ r h => by simp [sound_Parse.l0] at h
  | k + 1 => by
    have ih0 := sound_Parse.mono_l k
    · intro y0 y1 y2 y3
      unfold sound_Parse.l0
      repeat' first
      | (with_reducible exact ih0 _ _ _ _)
      | (with_reducible exact sound_read.mono _ _)
      | (with_reducible exact LeO.refl _)
      | (with_reducible exact LeO.none _)
      | (with_reducible refine LeO.ite ?_ ?_)
      | (with_reducible refine LeO.bind ?_ (fun _ => ?_))
      | exact ih0 _ _ _ _
      | exact sound_read.mono _ _
      | exact LeO.none _
      | refine LeO.ite ?_ ?_
      | refine LeO.bind ?_ (fun _ => ?_)
theorem sound_Parse.mono : ∀ a0 k, LeO (sound_Parse.f k a0) (sound_Parse.f (k + 1) a0) := by
  intro a0 k
  have ih0 := sound_Parse.mono_l k
  unfold sound_Parse.f
  repeat' first
      | (with_reducible exact ih0 _ _ _ _)
      | (with_reducible exact sound_read.mono _ _)
      | (with_reducible exact LeO.refl _)
      | (with_reducible exact LeO.none _)
      | (with_reducible refine LeO.ite ?_ ?_)
      | (with_reducible refine LeO.bind ?_ (fun _ => ?_))
      | exact ih0 _ _ _ _
      | exact sound_read.mono _ _
      | exact LeO.none _
      | refine LeO.ite ?_ ?_
      | refine LeO.bind ?_ (fun _ => ?_)
set_option maxHeartbeats 8000000 in
set_option maxRecDepth 100000 in
theorem sound_Parse.calls (k : Nat) (a0 : ByteArray) (r1 : List (S23)) (r2 : Int) (w : World) (h : sound_Parse.f k a0 = some (r1, r2)) :
    Calls Tryd.prog 30 #[.string a0] w fun e w' => ∃ v0_ : Value, e = .returned (.tuple #[v0_, .int .i64 r2]) ∧ Kd.R k23 23 w' w.heap.size (fun _ => True) v0_ r1 ∧ Below w.heap.size w w' := by
  have hu23 := Tryd.underlying23
  have HB := Aside0.mk (Below.refl w.heap.size w)
  have H : (if (a0.size : Int) > 4000 then (some (([] : List (S23)), 3)) else (if a0.toList = ([] : List UInt8) then (some (([] : List (S23)), 0)) else ((strings_Split.f a0 (⟨#[32]⟩ : ByteArray)).bind fun t142 => (sound_Parse.l0 k ([] : List (S23)) t142 (t142.length : Int) 0)))) = some (r1, r2) := h
  clear h
  by_cases c2 : (a0.size : Int) > 4000
  · rw [if_pos c2] at H
    have c2b0 : decide (4000 < (a0.size : Int)) = true := decide_eq_true c2
    have c2b1 : decide (4000 < a0.size) = true := decide_eq_true (by omega)
    clear c2
    simp only [Option.some.injEq, Prod.mk.injEq] at H
    obtain ⟨rfl, rfl⟩ := H
    go_enter Tryd.func30, Tryd.ntmps30
    go_wp2
    go_ret2
    exact ⟨_, by first | rfl | (simp [errW_none, errW_some] <;> rfl) | (simp [*, errW_none, errW_some] <;> rfl), by first | exact Kd.R_nil _ _ _ _ _ | exact Kd.N_nil _ _ _ _ _ | exact Kd.V_nil _ _ _ _ _ | exact Kd.Q_nil _ _ _ _ _ | exact Kd.S_nil _ _ _ _ _, by repeat (first | (with_reducible first | exact HB.out | apply below_alloc | apply pw_below_drewN | apply below_drew1) | exact HB.out)⟩
  · rw [if_neg c2] at H
    have c2b0 : decide (4000 < (a0.size : Int)) = false := decide_eq_false c2
    have c2b1 : decide (4000 < a0.size) = false := decide_eq_false (by omega)
    clear c2
    by_cases c3 : a0.toList = ([] : List UInt8)
    · rw [if_pos c3] at H
      have c3b0 : (a0.toList == ([] : List UInt8)) = true := beq_iff_eq.mpr c3
      have c3b1 : (a0.toList != ([] : List UInt8)) = false := bne_eq_false_iff_eq.mpr c3
      clear c3
      simp only [Option.some.injEq, Prod.mk.injEq] at H
      obtain ⟨rfl, rfl⟩ := H
      go_enter Tryd.func30, Tryd.ntmps30
      go_wp2
      go_ret2
      exact ⟨_, by first | rfl | (simp [errW_none, errW_some] <;> rfl) | (simp [*, errW_none, errW_some] <;> rfl), by first | exact Kd.R_nil _ _ _ _ _ | exact Kd.N_nil _ _ _ _ _ | exact Kd.V_nil _ _ _ _ _ | exact Kd.Q_nil _ _ _ _ _ | exact Kd.S_nil _ _ _ _ _, by repeat (first | (with_reducible first | exact HB.out | apply below_alloc | apply pw_below_drewN | apply below_drew1) | exact HB.out)⟩
    · rw [if_neg c3] at H
      have c3b0 : (a0.toList == ([] : List UInt8)) = false := beq_eq_false_iff_ne.mpr c3
      have c3b1 : (a0.toList != ([] : List UInt8)) = true := bne_iff_ne.mpr c3
      replace H := Option.bind_eq_some_iff.mp H
      obtain ⟨t142, A40, H⟩ := H
      replace H : (sound_Parse.l0 k ([] : List (S23)) t142 (t142.length : Int) 0) = some (r1, r2) := H
      have A4 := Aside0.mk A40
      clear A40
      have H' := Aside0.mk H
      clear H
      go_enter Tryd.func30, Tryd.ntmps30
      go_wp2_with (first | ((with_reducible refine gate_callee (f := 47) rfl ?_); refine goesL_ (some 15) rfl rfl Tryd.func47 (by kernel_rfl) rfl #[.string a0, .string (⟨#[32]⟩ : ByteArray)] rfl (by (try simp only [List.map_toArray, List.map_cons, List.map_nil]); first | done | rfl | (simp only [List.length_drop, List.length_take]; rfl)) ?_; (with_reducible refine (strings_Split.calls a0 (⟨#[32]⟩ : ByteArray) t142 _ A4.out).mono ?_); rintro e w5 ⟨v143, rfl, ho0, hb⟩; refine ⟨_, rfl, ?_⟩; have n0_ := Aside0.mk (Kd.R_lower ho0 (below_size (by repeat (first | (with_reducible first | exact HB.out | apply below_alloc | apply pw_below_drewN | apply below_drew1) | exact HB.out)))); have n1_ := Aside0.mk (below_step (by repeat (first | (with_reducible first | exact HB.out | apply below_alloc | apply pw_below_drewN | apply below_drew1) | exact HB.out)) hb); clear HB; have HO144 := n0_; have HB := n1_; clear n0_ n1_; (try clear hb); (try clear hb2); (try clear hk); (try clear hi); (try clear ho0); obtain ⟨Ao6, co6, eo6⟩ := Kd.R_slice HO144.out; subst eo6))
      go_loopg [4, 17] k (fun kq v4 v17 w' => ∃ (x4_1 : List (S23)) (x17_1 : Int), v17 = .int .i64 x17_1 ∧ Aside0 (sound_Parse.l0 kq x4_1 t142 (t142.length : Int) x17_1 = some (r1, r2)) ∧ Aside0 (kq ≤ k) ∧ Aside0 (Kd.R k23 23 w' w.heap.size (fun _ => True) v4 x4_1) ∧ Aside0 (Kd.R Kd.string 9 w' w.heap.size (fun _ => True) (.slice Ao6 t142.length co6) t142) ∧ Aside0 (Below w.heap.size w w'))
      case atStart => exact ⟨(([] : List (S23))), (0), (by first | rfl | (simp; done) | (simp [*]; done)), H', ⟨Nat.le_refl _⟩, ⟨by first | exact Kd.R_nil _ _ _ _ _ | exact Kd.N_nil _ _ _ _ _ | exact Kd.V_nil _ _ _ _ _ | exact Kd.Q_nil _ _ _ _ _ | exact Kd.S_nil _ _ _ _ _⟩, ⟨by (with_reducible repeat (first | apply Kd.R_alloc | apply Kd.R_drewN | apply Kd.R_drew)); exact HO144.out⟩, ⟨by repeat (first | (with_reducible first | exact HB.out | apply below_alloc | apply pw_below_drewN | apply below_drew1) | exact HB.out)⟩⟩
      case round =>
        clear H'
        try clear c2
        try clear c2b0
        try clear c2b1
        try clear p2
        try clear c3
        try clear c3b0
        try clear c3b1
        try clear c4
        obtain ⟨x4_1, x17_1, rfl, HA, HK1, HO_4, HO_15, HB⟩ := hrel
        cases gk with
        | zero => exact absurd HA.out (by simp [sound_Parse.l0])
        | succ k1 =>
          have H := HA.out
          clear HA
          simp only [sound_Parse.l0] at H
          by_cases c7 : x17_1 < (t142.length : Int)
          · rw [if_pos c7] at H
            have c7b0 : decide (x17_1 < (t142.length : Int)) = true := decide_eq_true c7
            clear c7
            by_cases c8 : 0 ≤ x17_1
            · rw [if_pos c8] at H
              have c8b0 : decide (0 ≤ x17_1) = true := decide_eq_true c8
              clear c8
              by_cases c9 : x17_1 < (t142.length : Int)
              · rw [if_pos c9] at H
                have c9b0 : decide (x17_1 < (t142.length : Int)) = true := decide_eq_true c9
                clear c9
                replace H := Option.bind_eq_some_iff.mp H
                obtain ⟨⟨t146, t147, t148, t149⟩, A100, H⟩ := H
                replace H : (if t149 = true then (if x4_1.length < 4398046511104 then (sound_Parse.l0 k1 (x4_1 ++ [(⟨t146, t147, t148⟩ : S23)]) t142 (t142.length : Int) (wrap64 (x17_1 + 1))) else (none)) else (some (([] : List (S23)), 2))) = some (r1, r2) := H
                have A10 := Aside0.mk A100
                clear A100
                by_cases c11 : t149 = true
                · subst c11
                  have H1 : (if x4_1.length < 4398046511104 then (sound_Parse.l0 k1 (x4_1 ++ [(⟨t146, t147, t148⟩ : S23)]) t142 (t142.length : Int) (wrap64 (x17_1 + 1))) else (none)) = some (r1, r2) := by rw [if_pos rfl] at H; exact H
                  clear H
                  have H := H1
                  clear H1
                  by_cases c12 : x4_1.length < 4398046511104
                  · rw [if_pos c12] at H
                    have LMc12 := Aside0.mk c12
                    clear c12
                    obtain ⟨y151, hy151⟩ : ∃ y_ : List (S23), y_ = (x4_1 ++ [(⟨t146, t147, t148⟩ : S23)]) := ⟨_, rfl⟩
                    replace H : (sound_Parse.l0 k1 y151 t142 (t142.length : Int) (wrap64 (x17_1 + 1))) = some (r1, r2) := by first | (rw [hy151]; with_reducible exact H) | (have H2_ := (Option.bind_some _ _).symm.trans H; rw [hy151]; with_reducible exact H2_) | (have H2_ := (Option.bind_some _ _).symm.trans H; with_reducible exact H2_) | with_reducible exact H | (rw [hy151]; exact H) | exact H
                    have Ny151 := Aside0.mk hy151
                    clear hy151
                    have H' := Aside0.mk H
                    clear H
                    have p145 : 0 ≤ (x17_1 : Int) := of_decide_eq_true (by first | (with_reducible assumption) | assumption)
                    have q145 : x17_1 < (t142.length : Int) := of_decide_eq_true (by first | (with_reducible assumption) | assumption)
                    obtain ⟨ad145, e145, hx145_0⟩ := Kd.at_string (Kd.R_reads' HO_15.out).2.2 x17_1 p145 q145
                    cases e145
                    replace p145 := eq_true p145
                    replace q145 := eq_true q145
                    go_wp2_with (first | ((with_reducible refine gate_callee (f := 48) rfl ?_); refine goesL_ (some 23) rfl rfl Tryd.func48 (by kernel_rfl) rfl #[.string (rdOf ByteArray.empty t142 x17_1)] rfl (by (try simp only [List.map_toArray, List.map_cons, List.map_nil]); first | done | rfl | (simp only [List.length_drop, List.length_take]; rfl)) ?_; (with_reducible refine (sound_read.calls k1 (rdOf ByteArray.empty t142 x17_1) t146 t147 t148 true _ A10.out).mono ?_); rintro e w13 ⟨rfl, hb⟩; refine ⟨_, rfl, ?_⟩; have n0_ := Aside0.mk (Kd.R_below (by (with_reducible repeat (first | apply Kd.R_alloc | apply Kd.R_drewN | apply Kd.R_drew)); exact HO_4.out) hb); have n1_ := Aside0.mk (Kd.R_below (by (with_reducible repeat (first | apply Kd.R_alloc | apply Kd.R_drewN | apply Kd.R_drew)); exact HO_15.out) hb); have n2_ := Aside0.mk (below_step (by repeat (first | (with_reducible first | exact HB.out | apply below_alloc | apply pw_below_drewN | apply below_drew1) | exact HB.out)) hb); clear HO_4; clear HO_15; clear HB; have HO_4 := n0_; have HO_15 := n1_; have HB := n2_; clear n0_ n1_ n2_; (try clear hb); (try clear hb2); (try clear hk); (try clear hi)) | ((with_reducible refine gate_dst (N := 7) rfl ?_); refine box_event ?hg (N := 7) ?hd (cs := #[.int .i64 0, .int .i64 0, .string (⟨#[]⟩ : ByteArray)]) (t := 23) ?hr ?_; (case hd => rfl); (case hg => rfl); (case hr => first | (go_simp; done) | (go_simp; rfl)); intro gb150 hg w14 hbox hb; have n0_ := Aside0.mk (Kd.R_below (Kd.R_elderB (by (with_reducible repeat (first | apply Kd.R_alloc | apply Kd.R_drewN | apply Kd.R_drew)); exact HO_4.out) gb150 (Nat.le_of_eq hg.symm)) hb); have n1_ := Aside0.mk (Kd.R_below (by (with_reducible repeat (first | apply Kd.R_alloc | apply Kd.R_drewN | apply Kd.R_drew)); exact HO_15.out) hb); have n2_ := Aside0.mk (below_step (by repeat (first | (with_reducible first | exact HB.out | apply below_alloc | apply pw_below_drewN | apply below_drew1) | exact HB.out)) hb); have n3_ := Aside0.mk (hbox); have n4_ := Aside0.mk ((by rw [hg]; exact (below_size (by repeat (first | (with_reducible first | exact HB.out | apply below_alloc | apply pw_below_drewN | apply below_drew1) | exact HB.out))) : w.heap.size ≤ gb150)); have n5_ := Aside0.mk ((by rw [hg]; exact (below_size (by repeat (first | (with_reducible first | exact HB.out | apply below_alloc | apply pw_below_drewN | apply below_drew1) | exact HB.out))) : w.heap.size ≤ gb150)); clear HO_4; clear HO_15; clear HB; have HO_4 := n0_; have HO_15 := n1_; have HB := n2_; have BK150 := n3_; have GW150 := n4_; have GE150 := n5_; clear n0_ n1_ n2_ n3_ n4_ n5_; clear hb hbox hg; have hcz15_0 : w14.cell? ⟨gb150, 0, none⟩ = some (.int .i64 0) := (blk_cell BK150.out 0).trans rfl; have hcz15_1 : w14.cell? ⟨gb150, 1, none⟩ = some (.int .i64 0) := (blk_cell BK150.out 1).trans rfl; have hcz15_2 : w14.cell? ⟨gb150, 2, none⟩ = some (.string (⟨#[]⟩ : ByteArray)) := (blk_cell BK150.out 2).trans rfl; have hfz15_0 := blk_frozen BK150.out 0; have hfz15_1 := blk_frozen BK150.out 1; have hfz15_2 := blk_frozen BK150.out 2) | ((with_reducible refine gate_builtin (b := .append) (xs := #[.tmp 28, .tmp 30]) rfl ?_); at_builtin; refine Kd.R_append k23 (w0 := w) w.heap.size rfl (.tmp 28) (.tmp 30) 26 23 (.agg #[(.int .i64 0), (.int .i64 0), (.string ⟨#[]⟩)]) 32 rfl Tryd.underlying26 info23 rfl (by decide) (by omega) u4 x4_1 (⟨t146, t147, t148⟩ : S23) [.int .i64 t146, .int .i64 t147, .string t148] (fun k_ => k_ ≠ gb150) (fun _ => False) rfl (by first | (go_simp; done) | (go_simp; rfl)) ?aP (fun _ hk => hk.elim) ?aF ?aO ?aB ?aS ?aL ?_; (case aP => exact k23_mkM _ _ _ (⟨t146, t147, t148⟩ : S23)); (case aB => exact (by repeat (first | (with_reducible first | exact HB.out | apply below_alloc | apply pw_below_drewN | apply below_drew1 | refine below_set ?_ GE150.out) | exact HB.out))); (case aF => exact (fun k_ hk => Kd.freshB (g := gb150) (o := .cells #[.int .i64 t146, .int .i64 t147, .string t148] 23 (0, 0)) (by (with_reducible repeat (first | refine blk_drewN ?_ _ | refine blk_drew ?_ | refine blk_alloc ?_ _)); refine blk_put (cs := #[.int .i64 t146, .int .i64 t147, .string (⟨#[]⟩ : ByteArray)]) ?_ 2 _ rfl; (with_reducible repeat (first | refine blk_drewN ?_ _ | refine blk_drew ?_ | refine blk_alloc ?_ _)); refine blk_put (cs := #[.int .i64 t146, .int .i64 0, .string (⟨#[]⟩ : ByteArray)]) ?_ 1 _ rfl; (with_reducible repeat (first | refine blk_drewN ?_ _ | refine blk_drew ?_ | refine blk_alloc ?_ _)); refine blk_put (cs := #[.int .i64 0, .int .i64 0, .string (⟨#[]⟩ : ByteArray)]) ?_ 0 _ rfl; (with_reducible repeat (first | refine blk_drewN ?_ _ | refine blk_drew ?_ | refine blk_alloc ?_ _)); exact BK150.out) k_ hk)); (case aO => exact (by (with_reducible repeat (first | apply Kd.R_alloc | apply Kd.R_drewN | apply Kd.R_drew)); exact Kd.R_mono (Kd.R_far (p := ⟨gb150, 2, none⟩) (Kd.R_far (p := ⟨gb150, 1, none⟩) (Kd.R_far (p := ⟨gb150, 0, none⟩) (Kd.R_mono HO_4.out (fun k_ hk => (⟨hk, hk.2⟩ : _ ∧ k_ ≠ gb150))) (fun _ hk => hk.2) (.int .i64 t146)) (fun _ hk => hk.2) (.int .i64 t147)) (fun _ hk => hk.2) (.string t148)) (fun _ hk => hk.1.2))); (case aS => exact (below_size (by repeat (first | (with_reducible first | exact HB.out | apply below_alloc | apply pw_below_drewN | apply below_drew1 | refine below_set ?_ GE150.out) | exact HB.out)))); (case aL => have := LMc12.out; omega); intro v152 w16 ho hb hg hat; rw [← Ny151.out] at ho; have n0_ := Aside0.mk (Kd.R_over' (by (with_reducible repeat (first | apply Kd.R_alloc | apply Kd.R_drewN | apply Kd.R_drew)); exact (Kd.R_mono (Kd.R_far (p := ⟨gb150, 2, none⟩) (Kd.R_far (p := ⟨gb150, 1, none⟩) (Kd.R_far (p := ⟨gb150, 0, none⟩) (Kd.R_types HO_15.out BK150.out (by decide)) (fun _ hk => hk.2) (.int .i64 t146)) (fun _ hk => hk.2) (.int .i64 t147)) (fun _ hk => hk.2) (.string t148)) (fun _ h_ => h_.1))) (Kd.R_typed (by (with_reducible repeat (first | apply Kd.R_alloc | apply Kd.R_drewN | apply Kd.R_drew)); exact (Kd.R_mono (Kd.R_far (p := ⟨gb150, 2, none⟩) (Kd.R_far (p := ⟨gb150, 1, none⟩) (Kd.R_far (p := ⟨gb150, 0, none⟩) (Kd.R_mono HO_4.out (fun k_ hk => (⟨hk, hk.2⟩ : _ ∧ k_ ≠ gb150))) (fun _ hk => hk.2) (.int .i64 t146)) (fun _ hk => hk.2) (.int .i64 t147)) (fun _ hk => hk.2) (.string t148)) (fun _ h_ => h_.1)))) (by decide) hg); have n1_ := Aside0.mk (blk_grown (g := gb150) (o := .cells #[.int .i64 t146, .int .i64 t147, .string t148] 23 (0, 0)) (by (with_reducible repeat (first | refine blk_drewN ?_ _ | refine blk_drew ?_ | refine blk_alloc ?_ _)); refine blk_put (cs := #[.int .i64 t146, .int .i64 t147, .string (⟨#[]⟩ : ByteArray)]) ?_ 2 _ rfl; (with_reducible repeat (first | refine blk_drewN ?_ _ | refine blk_drew ?_ | refine blk_alloc ?_ _)); refine blk_put (cs := #[.int .i64 t146, .int .i64 0, .string (⟨#[]⟩ : ByteArray)]) ?_ 1 _ rfl; (with_reducible repeat (first | refine blk_drewN ?_ _ | refine blk_drew ?_ | refine blk_alloc ?_ _)); refine blk_put (cs := #[.int .i64 0, .int .i64 0, .string (⟨#[]⟩ : ByteArray)]) ?_ 0 _ rfl; (with_reducible repeat (first | refine blk_drewN ?_ _ | refine blk_drew ?_ | refine blk_alloc ?_ _)); exact BK150.out) hg (Kd.R_away HO_4.out (fun _ hk => hk.2))); have n2_ := Aside0.mk (hb); have n3_ := Aside0.mk (ho); clear HO_15; clear BK150; clear HB; clear HO_4; have HO_15 := n0_; have BK150 := n1_; have HB := n2_; have HO153 := n3_; clear n0_ n1_ n2_ n3_; clear ho hb hg hat))
                    go_roundg k1
                    case measure => have := HK1.out; omega
                    case rel => exact ⟨(y151), (wrap64 (x17_1 + 1)), (by first | rfl | (simp; done) | (simp [*]; done)), H', ⟨by have := HK1.out; omega⟩, ⟨by (with_reducible repeat (first | apply Kd.R_alloc | apply Kd.R_drewN | apply Kd.R_drew)); exact Kd.R_mono HO153.out (fun _ hk => trivial)⟩, ⟨by (with_reducible repeat (first | apply Kd.R_alloc | apply Kd.R_drewN | apply Kd.R_drew)); exact HO_15.out⟩, ⟨by repeat (first | (with_reducible first | exact HB.out | apply below_alloc | apply pw_below_drewN | apply below_drew1 | refine below_set ?_ GE150.out) | exact HB.out)⟩⟩
                  · rw [if_neg c12] at H
                    exact absurd H (by simp)
                · replace c11 := Bool.eq_false_iff.mpr c11
                  subst c11
                  have H1 : (some (([] : List (S23)), 2)) = some (r1, r2) := by rw [if_neg (show ¬ (false = true) by decide)] at H; exact H
                  clear H
                  have H := H1
                  clear H1
                  simp only [Option.some.injEq, Prod.mk.injEq] at H
                  obtain ⟨rfl, rfl⟩ := H
                  have p145 : 0 ≤ (x17_1 : Int) := of_decide_eq_true (by first | (with_reducible assumption) | assumption)
                  have q145 : x17_1 < (t142.length : Int) := of_decide_eq_true (by first | (with_reducible assumption) | assumption)
                  obtain ⟨ad145, e145, hx145_0⟩ := Kd.at_string (Kd.R_reads' HO_15.out).2.2 x17_1 p145 q145
                  cases e145
                  replace p145 := eq_true p145
                  replace q145 := eq_true q145
                  go_wp2_with (first | ((with_reducible refine gate_callee (f := 48) rfl ?_); refine goesL_ (some 23) rfl rfl Tryd.func48 (by kernel_rfl) rfl #[.string (rdOf ByteArray.empty t142 x17_1)] rfl (by (try simp only [List.map_toArray, List.map_cons, List.map_nil]); first | done | rfl | (simp only [List.length_drop, List.length_take]; rfl)) ?_; (with_reducible refine (sound_read.calls k1 (rdOf ByteArray.empty t142 x17_1) t146 t147 t148 false _ A10.out).mono ?_); rintro e w17 ⟨rfl, hb⟩; refine ⟨_, rfl, ?_⟩; have n0_ := Aside0.mk (Kd.R_below (by (with_reducible repeat (first | apply Kd.R_alloc | apply Kd.R_drewN | apply Kd.R_drew)); exact HO_4.out) hb); have n1_ := Aside0.mk (Kd.R_below (by (with_reducible repeat (first | apply Kd.R_alloc | apply Kd.R_drewN | apply Kd.R_drew)); exact HO_15.out) hb); have n2_ := Aside0.mk (below_step (by repeat (first | (with_reducible first | exact HB.out | apply below_alloc | apply pw_below_drewN | apply below_drew1) | exact HB.out)) hb); clear HO_4; clear HO_15; clear HB; have HO_4 := n0_; have HO_15 := n1_; have HB := n2_; clear n0_ n1_ n2_; (try clear hb); (try clear hb2); (try clear hk); (try clear hi)) | ((with_reducible refine gate_dst (N := 7) rfl ?_); refine box_event ?hg (N := 7) ?hd (cs := #[.int .i64 0, .int .i64 0, .string (⟨#[]⟩ : ByteArray)]) (t := 23) ?hr ?_; (case hd => rfl); (case hg => rfl); (case hr => first | (go_simp; done) | (go_simp; rfl)); intro gb150 hg w18 hbox hb; have n0_ := Aside0.mk (Kd.R_below (Kd.R_elderB (by (with_reducible repeat (first | apply Kd.R_alloc | apply Kd.R_drewN | apply Kd.R_drew)); exact HO_4.out) gb150 (Nat.le_of_eq hg.symm)) hb); have n1_ := Aside0.mk (Kd.R_below (by (with_reducible repeat (first | apply Kd.R_alloc | apply Kd.R_drewN | apply Kd.R_drew)); exact HO_15.out) hb); have n2_ := Aside0.mk (below_step (by repeat (first | (with_reducible first | exact HB.out | apply below_alloc | apply pw_below_drewN | apply below_drew1) | exact HB.out)) hb); have n3_ := Aside0.mk (hbox); have n4_ := Aside0.mk ((by rw [hg]; exact (below_size (by repeat (first | (with_reducible first | exact HB.out | apply below_alloc | apply pw_below_drewN | apply below_drew1) | exact HB.out))) : w.heap.size ≤ gb150)); have n5_ := Aside0.mk ((by rw [hg]; exact (below_size (by repeat (first | (with_reducible first | exact HB.out | apply below_alloc | apply pw_below_drewN | apply below_drew1) | exact HB.out))) : w.heap.size ≤ gb150)); clear HO_4; clear HO_15; clear HB; have HO_4 := n0_; have HO_15 := n1_; have HB := n2_; have BK150 := n3_; have GW150 := n4_; have GE150 := n5_; clear n0_ n1_ n2_ n3_ n4_ n5_; clear hb hbox hg; have hcz19_0 : w18.cell? ⟨gb150, 0, none⟩ = some (.int .i64 0) := (blk_cell BK150.out 0).trans rfl; have hcz19_1 : w18.cell? ⟨gb150, 1, none⟩ = some (.int .i64 0) := (blk_cell BK150.out 1).trans rfl; have hcz19_2 : w18.cell? ⟨gb150, 2, none⟩ = some (.string (⟨#[]⟩ : ByteArray)) := (blk_cell BK150.out 2).trans rfl; have hfz19_0 := blk_frozen BK150.out 0; have hfz19_1 := blk_frozen BK150.out 1; have hfz19_2 := blk_frozen BK150.out 2))
                  go_ret2
                  exact ⟨_, by first | rfl | (simp [errW_none, errW_some] <;> rfl) | (simp [*, errW_none, errW_some] <;> rfl), by first | exact Kd.R_nil _ _ _ _ _ | exact Kd.N_nil _ _ _ _ _ | exact Kd.V_nil _ _ _ _ _ | exact Kd.Q_nil _ _ _ _ _ | exact Kd.S_nil _ _ _ _ _, by repeat (first | (with_reducible first | exact HB.out | apply below_alloc | apply pw_below_drewN | apply below_drew1 | refine below_set ?_ GE150.out) | exact HB.out)⟩
              · rw [if_neg c9] at H
                exact absurd H (by simp)
            · rw [if_neg c8] at H
              exact absurd H (by simp)
          · rw [if_neg c7] at H
            have c7b0 : decide (x17_1 < (t142.length : Int)) = false := decide_eq_false c7
            clear c7
            by_cases c20 : (x4_1.length : Int) > 200
            · rw [if_pos c20] at H
              have c20b0 : decide (200 < (x4_1.length : Int)) = true := decide_eq_true c20
              have c20b1 : decide (200 < x4_1.length) = true := decide_eq_true (by omega)
              clear c20
              simp only [Option.some.injEq, Prod.mk.injEq] at H
              obtain ⟨rfl, rfl⟩ := H
              obtain ⟨Ao21, co21, eo21⟩ := Kd.R_slice HO_4.out
              subst eo21
              go_wp2
              go_ret2
              exact ⟨_, by first | rfl | (simp [errW_none, errW_some] <;> rfl) | (simp [*, errW_none, errW_some] <;> rfl), by first | exact Kd.R_nil _ _ _ _ _ | exact Kd.N_nil _ _ _ _ _ | exact Kd.V_nil _ _ _ _ _ | exact Kd.Q_nil _ _ _ _ _ | exact Kd.S_nil _ _ _ _ _, by repeat (first | (with_reducible first | exact HB.out | apply below_alloc | apply pw_below_drewN | apply below_drew1) | exact HB.out)⟩
            · rw [if_neg c20] at H
              have c20b0 : decide (200 < (x4_1.length : Int)) = false := decide_eq_false c20
              have c20b1 : decide (200 < x4_1.length) = false := decide_eq_false (by omega)
              clear c20
              simp only [Option.some.injEq, Prod.mk.injEq] at H
              obtain ⟨rfl, rfl⟩ := H
              obtain ⟨Ao22, co22, eo22⟩ := Kd.R_slice HO_4.out
              subst eo22
              go_wp2
              go_ret2
              exact ⟨_, by first | rfl | (simp [errW_none, errW_some] <;> rfl) | (simp [*, errW_none, errW_some] <;> rfl), by (with_reducible repeat (first | apply Kd.R_alloc | apply Kd.R_drewN | apply Kd.R_drew)); exact HO_4.out, by repeat (first | (with_reducible first | exact HB.out | apply below_alloc | apply pw_below_drewN | apply below_drew1) | exact HB.out)⟩

/-! ### ancepslaw11_awake: function 11 -/
def ancepslaw11_awake.g (k : Nat)  : Option (Bool) := (sound_Parse.f k (⟨#[97, 47, 118, 51, 32, 120, 47, 120, 32, 105, 47, 118, 51, 32, 115, 47, 115]⟩ : ByteArray)).bind fun bt154 => ((sound_Parse.f k (⟨#[97, 101, 47, 100, 50, 32, 104, 47, 98, 32, 111, 47, 118, 49]⟩ : ByteArray)).bind fun bt158 => ((sound_Parse.f k (⟨#[97, 47, 118]⟩ : ByteArray)).bind fun bt162 => ((sound_Parse.f k (⟨#[97, 101, 47, 100, 51]⟩ : ByteArray)).bind fun bt166 => (if bt154.2 = 0 then (if (bt154.1.length : Int) = 4 then ((sound_Nuclei.f k bt154.1).bind fun t170 => ((slices_Equal_int_int.f k t170 (([0, 2] : List Int))).bind fun t176 => (if t176 = true then ((sound_Clusters.f k bt154.1).bind fun t177 => (if (t177.length : Int) = 3 then ((sound_Beats.f k bt154.1).bind fun t180 => (if t180 = 3 then (if bt158.2 = 0 then ((sound_Nuclei.f k bt158.1).bind fun t181 => (if (t181.length : Int) = 2 then ((sound_Beats.f k bt158.1).bind fun t184 => (if t184 = 0 then (if bt162.2 = 2 then (some (bt166.2 == 2)) else (some false)) else (some false))) else (some false))) else (some false)) else (some false))) else (some false))) else (some false)))) else (some false)) else (some false)))))
theorem ancepslaw11_awake.monoG : ∀ k, LeO (ancepslaw11_awake.g k ) (ancepslaw11_awake.g (k + 1) ) := by
  intro  k
  unfold ancepslaw11_awake.g
  repeat' first
      | (with_reducible exact slices_Equal_int_int.mono _ _ _)
      | (with_reducible exact sound_Beats.mono _ _)
      | (with_reducible exact sound_Clusters.mono _ _)
      | (with_reducible exact sound_Nuclei.mono _ _)
      | (with_reducible exact sound_Parse.mono _ _)
      | (with_reducible exact LeO.refl _)
      | (with_reducible exact LeO.none _)
      | (with_reducible refine LeO.ite ?_ ?_)
      | (with_reducible refine LeO.bind ?_ (fun _ => ?_))
      | exact slices_Equal_int_int.mono _ _ _
      | exact sound_Beats.mono _ _
      | exact sound_Clusters.mono _ _
      | exact sound_Nuclei.mono _ _
      | exact sound_Parse.mono _ _
      | exact LeO.none _
      | refine LeO.ite ?_ ?_
      | refine LeO.bind ?_ (fun _ => ?_)
set_option maxHeartbeats 8000000 in
set_option maxRecDepth 100000 in
theorem ancepslaw11_awake.callsT (k : Nat)  (w : World) (h : ancepslaw11_awake.g k  = some true) :
    Calls Tryd.prog 11 #[] w fun e w' => e = .returned (.bool true) ∧ Below w.heap.size w w' := by
  have HB := Aside0.mk (Below.refl w.heap.size w)
  have H : ((sound_Parse.f k (⟨#[97, 47, 118, 51, 32, 120, 47, 120, 32, 105, 47, 118, 51, 32, 115, 47, 115]⟩ : ByteArray)).bind fun bt154 => ((sound_Parse.f k (⟨#[97, 101, 47, 100, 50, 32, 104, 47, 98, 32, 111, 47, 118, 49]⟩ : ByteArray)).bind fun bt158 => ((sound_Parse.f k (⟨#[97, 47, 118]⟩ : ByteArray)).bind fun bt162 => ((sound_Parse.f k (⟨#[97, 101, 47, 100, 51]⟩ : ByteArray)).bind fun bt166 => (if bt154.2 = 0 then (if (bt154.1.length : Int) = 4 then ((sound_Nuclei.f k bt154.1).bind fun t170 => ((slices_Equal_int_int.f k t170 (([0, 2] : List Int))).bind fun t176 => (if t176 = true then ((sound_Clusters.f k bt154.1).bind fun t177 => (if (t177.length : Int) = 3 then ((sound_Beats.f k bt154.1).bind fun t180 => (if t180 = 3 then (if bt158.2 = 0 then ((sound_Nuclei.f k bt158.1).bind fun t181 => (if (t181.length : Int) = 2 then ((sound_Beats.f k bt158.1).bind fun t184 => (if t184 = 0 then (if bt162.2 = 2 then (some (bt166.2 == 2)) else (some false)) else (some false))) else (some false))) else (some false)) else (some false))) else (some false))) else (some false)))) else (some false)) else (some false)))))) = some true := h
  clear h
  replace H := Option.bind_eq_some_iff.mp H
  obtain ⟨⟨t154, t155⟩, A10, H⟩ := H
  replace H : ((sound_Parse.f k (⟨#[97, 101, 47, 100, 50, 32, 104, 47, 98, 32, 111, 47, 118, 49]⟩ : ByteArray)).bind fun bt158 => ((sound_Parse.f k (⟨#[97, 47, 118]⟩ : ByteArray)).bind fun bt162 => ((sound_Parse.f k (⟨#[97, 101, 47, 100, 51]⟩ : ByteArray)).bind fun bt166 => (if t155 = 0 then (if (t154.length : Int) = 4 then ((sound_Nuclei.f k t154).bind fun t170 => ((slices_Equal_int_int.f k t170 (([0, 2] : List Int))).bind fun t176 => (if t176 = true then ((sound_Clusters.f k t154).bind fun t177 => (if (t177.length : Int) = 3 then ((sound_Beats.f k t154).bind fun t180 => (if t180 = 3 then (if bt158.2 = 0 then ((sound_Nuclei.f k bt158.1).bind fun t181 => (if (t181.length : Int) = 2 then ((sound_Beats.f k bt158.1).bind fun t184 => (if t184 = 0 then (if bt162.2 = 2 then (some (bt166.2 == 2)) else (some false)) else (some false))) else (some false))) else (some false)) else (some false))) else (some false))) else (some false)))) else (some false)) else (some false))))) = some true := H
  have A1 := Aside0.mk A10
  clear A10
  replace H := Option.bind_eq_some_iff.mp H
  obtain ⟨⟨t158, t159⟩, A20, H⟩ := H
  replace H : ((sound_Parse.f k (⟨#[97, 47, 118]⟩ : ByteArray)).bind fun bt162 => ((sound_Parse.f k (⟨#[97, 101, 47, 100, 51]⟩ : ByteArray)).bind fun bt166 => (if t155 = 0 then (if (t154.length : Int) = 4 then ((sound_Nuclei.f k t154).bind fun t170 => ((slices_Equal_int_int.f k t170 (([0, 2] : List Int))).bind fun t176 => (if t176 = true then ((sound_Clusters.f k t154).bind fun t177 => (if (t177.length : Int) = 3 then ((sound_Beats.f k t154).bind fun t180 => (if t180 = 3 then (if t159 = 0 then ((sound_Nuclei.f k t158).bind fun t181 => (if (t181.length : Int) = 2 then ((sound_Beats.f k t158).bind fun t184 => (if t184 = 0 then (if bt162.2 = 2 then (some (bt166.2 == 2)) else (some false)) else (some false))) else (some false))) else (some false)) else (some false))) else (some false))) else (some false)))) else (some false)) else (some false)))) = some true := H
  have A2 := Aside0.mk A20
  clear A20
  replace H := Option.bind_eq_some_iff.mp H
  obtain ⟨⟨t162, t163⟩, A30, H⟩ := H
  replace H : ((sound_Parse.f k (⟨#[97, 101, 47, 100, 51]⟩ : ByteArray)).bind fun bt166 => (if t155 = 0 then (if (t154.length : Int) = 4 then ((sound_Nuclei.f k t154).bind fun t170 => ((slices_Equal_int_int.f k t170 (([0, 2] : List Int))).bind fun t176 => (if t176 = true then ((sound_Clusters.f k t154).bind fun t177 => (if (t177.length : Int) = 3 then ((sound_Beats.f k t154).bind fun t180 => (if t180 = 3 then (if t159 = 0 then ((sound_Nuclei.f k t158).bind fun t181 => (if (t181.length : Int) = 2 then ((sound_Beats.f k t158).bind fun t184 => (if t184 = 0 then (if t163 = 2 then (some (bt166.2 == 2)) else (some false)) else (some false))) else (some false))) else (some false)) else (some false))) else (some false))) else (some false)))) else (some false)) else (some false))) = some true := H
  have A3 := Aside0.mk A30
  clear A30
  replace H := Option.bind_eq_some_iff.mp H
  obtain ⟨⟨t166, t167⟩, A40, H⟩ := H
  replace H : (if t155 = 0 then (if (t154.length : Int) = 4 then ((sound_Nuclei.f k t154).bind fun t170 => ((slices_Equal_int_int.f k t170 (([0, 2] : List Int))).bind fun t176 => (if t176 = true then ((sound_Clusters.f k t154).bind fun t177 => (if (t177.length : Int) = 3 then ((sound_Beats.f k t154).bind fun t180 => (if t180 = 3 then (if t159 = 0 then ((sound_Nuclei.f k t158).bind fun t181 => (if (t181.length : Int) = 2 then ((sound_Beats.f k t158).bind fun t184 => (if t184 = 0 then (if t163 = 2 then (some (t167 == 2)) else (some false)) else (some false))) else (some false))) else (some false)) else (some false))) else (some false))) else (some false)))) else (some false)) else (some false)) = some true := H
  have A4 := Aside0.mk A40
  clear A40
  by_cases c5 : t155 = 0
  · rw [if_pos c5] at H
    have c5b0 : (t155 == 0) = true := beq_iff_eq.mpr c5
    have c5b1 : (t155 != 0) = false := bne_eq_false_iff_eq.mpr c5
    clear c5
    by_cases c6 : (t154.length : Int) = 4
    · rw [if_pos c6] at H
      have c6b0 : ((t154.length : Int) == 4) = true := beq_iff_eq.mpr c6
      have c6b1 : ((t154.length : Int) != 4) = false := bne_eq_false_iff_eq.mpr c6
      clear c6
      replace H := Option.bind_eq_some_iff.mp H
      obtain ⟨t170, A70, H⟩ := H
      replace H : ((slices_Equal_int_int.f k t170 (([0, 2] : List Int))).bind fun t176 => (if t176 = true then ((sound_Clusters.f k t154).bind fun t177 => (if (t177.length : Int) = 3 then ((sound_Beats.f k t154).bind fun t180 => (if t180 = 3 then (if t159 = 0 then ((sound_Nuclei.f k t158).bind fun t181 => (if (t181.length : Int) = 2 then ((sound_Beats.f k t158).bind fun t184 => (if t184 = 0 then (if t163 = 2 then (some (t167 == 2)) else (some false)) else (some false))) else (some false))) else (some false)) else (some false))) else (some false))) else (some false))) = some true := H
      have A7 := Aside0.mk A70
      clear A70
      obtain ⟨y173, hy173⟩ : ∃ y_ : List Int, y_ = (([0, 2] : List Int)) := ⟨_, rfl⟩
      replace H : ((slices_Equal_int_int.f k t170 y173).bind fun t176 => (if t176 = true then ((sound_Clusters.f k t154).bind fun t177 => (if (t177.length : Int) = 3 then ((sound_Beats.f k t154).bind fun t180 => (if t180 = 3 then (if t159 = 0 then ((sound_Nuclei.f k t158).bind fun t181 => (if (t181.length : Int) = 2 then ((sound_Beats.f k t158).bind fun t184 => (if t184 = 0 then (if t163 = 2 then (some (t167 == 2)) else (some false)) else (some false))) else (some false))) else (some false)) else (some false))) else (some false))) else (some false))) = some true := by first | (rw [hy173]; with_reducible exact H) | (have H2_ := (Option.bind_some _ _).symm.trans H; rw [hy173]; with_reducible exact H2_) | (have H2_ := (Option.bind_some _ _).symm.trans H; with_reducible exact H2_) | with_reducible exact H | (rw [hy173]; exact H) | exact H
      have Ny173 := Aside0.mk hy173
      clear hy173
      replace H := Option.bind_eq_some_iff.mp H
      obtain ⟨t176, A80, H⟩ := H
      replace H : (if t176 = true then ((sound_Clusters.f k t154).bind fun t177 => (if (t177.length : Int) = 3 then ((sound_Beats.f k t154).bind fun t180 => (if t180 = 3 then (if t159 = 0 then ((sound_Nuclei.f k t158).bind fun t181 => (if (t181.length : Int) = 2 then ((sound_Beats.f k t158).bind fun t184 => (if t184 = 0 then (if t163 = 2 then (some (t167 == 2)) else (some false)) else (some false))) else (some false))) else (some false)) else (some false))) else (some false))) else (some false)) = some true := H
      have A8 := Aside0.mk A80
      clear A80
      by_cases c9 : t176 = true
      · subst c9
        have H1 : ((sound_Clusters.f k t154).bind fun t177 => (if (t177.length : Int) = 3 then ((sound_Beats.f k t154).bind fun t180 => (if t180 = 3 then (if t159 = 0 then ((sound_Nuclei.f k t158).bind fun t181 => (if (t181.length : Int) = 2 then ((sound_Beats.f k t158).bind fun t184 => (if t184 = 0 then (if t163 = 2 then (some (t167 == 2)) else (some false)) else (some false))) else (some false))) else (some false)) else (some false))) else (some false))) = some true := by rw [if_pos rfl] at H; exact H
        clear H
        have H := H1
        clear H1
        replace H := Option.bind_eq_some_iff.mp H
        obtain ⟨t177, A100, H⟩ := H
        replace H : (if (t177.length : Int) = 3 then ((sound_Beats.f k t154).bind fun t180 => (if t180 = 3 then (if t159 = 0 then ((sound_Nuclei.f k t158).bind fun t181 => (if (t181.length : Int) = 2 then ((sound_Beats.f k t158).bind fun t184 => (if t184 = 0 then (if t163 = 2 then (some (t167 == 2)) else (some false)) else (some false))) else (some false))) else (some false)) else (some false))) else (some false)) = some true := H
        have A10 := Aside0.mk A100
        clear A100
        by_cases c11 : (t177.length : Int) = 3
        · rw [if_pos c11] at H
          have c11b0 : ((t177.length : Int) == 3) = true := beq_iff_eq.mpr c11
          have c11b1 : ((t177.length : Int) != 3) = false := bne_eq_false_iff_eq.mpr c11
          clear c11
          replace H := Option.bind_eq_some_iff.mp H
          obtain ⟨t180, A120, H⟩ := H
          replace H : (if t180 = 3 then (if t159 = 0 then ((sound_Nuclei.f k t158).bind fun t181 => (if (t181.length : Int) = 2 then ((sound_Beats.f k t158).bind fun t184 => (if t184 = 0 then (if t163 = 2 then (some (t167 == 2)) else (some false)) else (some false))) else (some false))) else (some false)) else (some false)) = some true := H
          have A12 := Aside0.mk A120
          clear A120
          by_cases c13 : t180 = 3
          · rw [if_pos c13] at H
            have c13b0 : (t180 == 3) = true := beq_iff_eq.mpr c13
            have c13b1 : (t180 != 3) = false := bne_eq_false_iff_eq.mpr c13
            clear c13
            by_cases c14 : t159 = 0
            · rw [if_pos c14] at H
              have c14b0 : (t159 == 0) = true := beq_iff_eq.mpr c14
              have c14b1 : (t159 != 0) = false := bne_eq_false_iff_eq.mpr c14
              clear c14
              replace H := Option.bind_eq_some_iff.mp H
              obtain ⟨t181, A150, H⟩ := H
              replace H : (if (t181.length : Int) = 2 then ((sound_Beats.f k t158).bind fun t184 => (if t184 = 0 then (if t163 = 2 then (some (t167 == 2)) else (some false)) else (some false))) else (some false)) = some true := H
              have A15 := Aside0.mk A150
              clear A150
              by_cases c16 : (t181.length : Int) = 2
              · rw [if_pos c16] at H
                have c16b0 : ((t181.length : Int) == 2) = true := beq_iff_eq.mpr c16
                have c16b1 : ((t181.length : Int) != 2) = false := bne_eq_false_iff_eq.mpr c16
                clear c16
                replace H := Option.bind_eq_some_iff.mp H
                obtain ⟨t184, A170, H⟩ := H
                replace H : (if t184 = 0 then (if t163 = 2 then (some (t167 == 2)) else (some false)) else (some false)) = some true := H
                have A17 := Aside0.mk A170
                clear A170
                by_cases c18 : t184 = 0
                · rw [if_pos c18] at H
                  have c18b0 : (t184 == 0) = true := beq_iff_eq.mpr c18
                  have c18b1 : (t184 != 0) = false := bne_eq_false_iff_eq.mpr c18
                  clear c18
                  by_cases c19 : t163 = 2
                  · rw [if_pos c19] at H
                    have c19b0 : (t163 == 2) = true := beq_iff_eq.mpr c19
                    have c19b1 : (t163 != 2) = false := bne_eq_false_iff_eq.mpr c19
                    clear c19
                    have hR_ := Option.some.inj H
                    go_enter Tryd.func11, Tryd.ntmps11
                    go_wp2_with (first | ((with_reducible refine gate_callee (f := 30) rfl ?_); refine goesL_ (some 10) rfl rfl Tryd.func30 (by kernel_rfl) rfl #[.string (⟨#[97, 47, 118, 51, 32, 120, 47, 120, 32, 105, 47, 118, 51, 32, 115, 47, 115]⟩ : ByteArray)] rfl (by (try simp only [List.map_toArray, List.map_cons, List.map_nil]); first | done | rfl | (simp only [List.length_drop, List.length_take]; rfl)) ?_; (with_reducible refine (sound_Parse.calls k (⟨#[97, 47, 118, 51, 32, 120, 47, 120, 32, 105, 47, 118, 51, 32, 115, 47, 115]⟩ : ByteArray) t154 t155 _ A1.out).mono ?_); rintro e w20 ⟨v156, rfl, ho0, hb⟩; refine ⟨_, rfl, ?_⟩; have n0_ := Aside0.mk (Kd.R_lower ho0 (below_size (by repeat (first | (with_reducible first | exact HB.out | apply below_alloc | apply pw_below_drewN | apply below_drew1) | exact HB.out)))); have n1_ := Aside0.mk (below_step (by repeat (first | (with_reducible first | exact HB.out | apply below_alloc | apply pw_below_drewN | apply below_drew1) | exact HB.out)) hb); clear HB; have HO157 := n0_; have HB := n1_; clear n0_ n1_; (try clear hb); (try clear hb2); (try clear hk); (try clear hi); (try clear ho0)) | ((with_reducible refine gate_callee (f := 30) rfl ?_); refine goesL_ (some 14) rfl rfl Tryd.func30 (by kernel_rfl) rfl #[.string (⟨#[97, 101, 47, 100, 50, 32, 104, 47, 98, 32, 111, 47, 118, 49]⟩ : ByteArray)] rfl (by (try simp only [List.map_toArray, List.map_cons, List.map_nil]); first | done | rfl | (simp only [List.length_drop, List.length_take]; rfl)) ?_; (with_reducible refine (sound_Parse.calls k (⟨#[97, 101, 47, 100, 50, 32, 104, 47, 98, 32, 111, 47, 118, 49]⟩ : ByteArray) t158 t159 _ A2.out).mono ?_); rintro e w21 ⟨v160, rfl, ho0, hb⟩; refine ⟨_, rfl, ?_⟩; have n0_ := Aside0.mk (Kd.R_elder' (by (with_reducible repeat (first | apply Kd.R_alloc | apply Kd.R_drewN | apply Kd.R_drew)); exact HO157.out) (Kd.R_base ho0) hb); have n1_ := Aside0.mk (Kd.R_lower (Kd.R_new' ho0 (Kd.R_lt (by (with_reducible repeat (first | apply Kd.R_alloc | apply Kd.R_drewN | apply Kd.R_drew)); exact HO157.out))) (below_size (by repeat (first | (with_reducible first | exact HB.out | apply below_alloc | apply pw_below_drewN | apply below_drew1) | exact HB.out)))); have n2_ := Aside0.mk (below_step (by repeat (first | (with_reducible first | exact HB.out | apply below_alloc | apply pw_below_drewN | apply below_drew1) | exact HB.out)) hb); clear HO157; clear HB; have HO157 := n0_; have HO161 := n1_; have HB := n2_; clear n0_ n1_ n2_; (try clear hb); (try clear hb2); (try clear hk); (try clear hi); (try clear ho0)) | ((with_reducible refine gate_callee (f := 30) rfl ?_); refine goesL_ (some 18) rfl rfl Tryd.func30 (by kernel_rfl) rfl #[.string (⟨#[97, 47, 118]⟩ : ByteArray)] rfl (by (try simp only [List.map_toArray, List.map_cons, List.map_nil]); first | done | rfl | (simp only [List.length_drop, List.length_take]; rfl)) ?_; (with_reducible refine (sound_Parse.calls k (⟨#[97, 47, 118]⟩ : ByteArray) t162 t163 _ A3.out).mono ?_); rintro e w22 ⟨v164, rfl, ho0, hb⟩; refine ⟨_, rfl, ?_⟩; have n0_ := Aside0.mk (Kd.R_elder' (by (with_reducible repeat (first | apply Kd.R_alloc | apply Kd.R_drewN | apply Kd.R_drew)); exact HO157.out) (Kd.R_base ho0) hb); have n1_ := Aside0.mk (Kd.R_elder' (by (with_reducible repeat (first | apply Kd.R_alloc | apply Kd.R_drewN | apply Kd.R_drew)); exact HO161.out) (Kd.R_base ho0) hb); have n2_ := Aside0.mk (Kd.R_lower (Kd.R_new' (Kd.R_new' ho0 (Kd.R_lt (by (with_reducible repeat (first | apply Kd.R_alloc | apply Kd.R_drewN | apply Kd.R_drew)); exact HO157.out))) (Kd.R_lt (by (with_reducible repeat (first | apply Kd.R_alloc | apply Kd.R_drewN | apply Kd.R_drew)); exact HO161.out))) (below_size (by repeat (first | (with_reducible first | exact HB.out | apply below_alloc | apply pw_below_drewN | apply below_drew1) | exact HB.out)))); have n3_ := Aside0.mk (below_step (by repeat (first | (with_reducible first | exact HB.out | apply below_alloc | apply pw_below_drewN | apply below_drew1) | exact HB.out)) hb); clear HO157; clear HO161; clear HB; have HO157 := n0_; have HO161 := n1_; have HO165 := n2_; have HB := n3_; clear n0_ n1_ n2_ n3_; (try clear hb); (try clear hb2); (try clear hk); (try clear hi); (try clear ho0)) | ((with_reducible refine gate_callee (f := 30) rfl ?_); refine goesL_ (some 22) rfl rfl Tryd.func30 (by kernel_rfl) rfl #[.string (⟨#[97, 101, 47, 100, 51]⟩ : ByteArray)] rfl (by (try simp only [List.map_toArray, List.map_cons, List.map_nil]); first | done | rfl | (simp only [List.length_drop, List.length_take]; rfl)) ?_; (with_reducible refine (sound_Parse.calls k (⟨#[97, 101, 47, 100, 51]⟩ : ByteArray) t166 t167 _ A4.out).mono ?_); rintro e w23 ⟨v168, rfl, ho0, hb⟩; refine ⟨_, rfl, ?_⟩; have n0_ := Aside0.mk (Kd.R_elder' (by (with_reducible repeat (first | apply Kd.R_alloc | apply Kd.R_drewN | apply Kd.R_drew)); exact HO157.out) (Kd.R_base ho0) hb); have n1_ := Aside0.mk (Kd.R_elder' (by (with_reducible repeat (first | apply Kd.R_alloc | apply Kd.R_drewN | apply Kd.R_drew)); exact HO161.out) (Kd.R_base ho0) hb); have n2_ := Aside0.mk (Kd.R_elder' (by (with_reducible repeat (first | apply Kd.R_alloc | apply Kd.R_drewN | apply Kd.R_drew)); exact HO165.out) (Kd.R_base ho0) hb); have n3_ := Aside0.mk (Kd.R_lower (Kd.R_new' (Kd.R_new' (Kd.R_new' ho0 (Kd.R_lt (by (with_reducible repeat (first | apply Kd.R_alloc | apply Kd.R_drewN | apply Kd.R_drew)); exact HO157.out))) (Kd.R_lt (by (with_reducible repeat (first | apply Kd.R_alloc | apply Kd.R_drewN | apply Kd.R_drew)); exact HO161.out))) (Kd.R_lt (by (with_reducible repeat (first | apply Kd.R_alloc | apply Kd.R_drewN | apply Kd.R_drew)); exact HO165.out))) (below_size (by repeat (first | (with_reducible first | exact HB.out | apply below_alloc | apply pw_below_drewN | apply below_drew1) | exact HB.out)))); have n4_ := Aside0.mk (below_step (by repeat (first | (with_reducible first | exact HB.out | apply below_alloc | apply pw_below_drewN | apply below_drew1) | exact HB.out)) hb); clear HO157; clear HO161; clear HO165; clear HB; have HO157 := n0_; have HO161 := n1_; have HO165 := n2_; have HO169 := n3_; have HB := n4_; clear n0_ n1_ n2_ n3_ n4_; (try clear hb); (try clear hb2); (try clear hk); (try clear hi); (try clear ho0); obtain ⟨Ao24, co24, eo24⟩ := Kd.R_slice HO157.out; subst eo24) | (go_at_call 18; (with_reducible refine (sound_Nuclei.calls k _ _ t154 t170 _ ?side1 ?side2 A7.out).mono ?_); (case side1 => repeat (first | exact (Kd.R_reads' HO157.out).2.2 | (with_reducible refine Kd.C_alloc ?_ _) | (with_reducible refine Kd.C_drewN ?_ _) | (with_reducible refine Kd.C_drew ?_))); (case side2 => exact (Kd.R_reads' HO157.out).2.1); (try clear A7); rintro e w25 ⟨v171, rfl, ho0, hb⟩; have n0_ := Aside0.mk (Kd.R_below (by (with_reducible repeat (first | apply Kd.R_alloc | apply Kd.R_drewN | apply Kd.R_drew)); exact HO157.out) hb); have n1_ := Aside0.mk (Kd.R_below (by (with_reducible repeat (first | apply Kd.R_alloc | apply Kd.R_drewN | apply Kd.R_drew)); exact HO161.out) hb); have n2_ := Aside0.mk (Kd.R_below (by (with_reducible repeat (first | apply Kd.R_alloc | apply Kd.R_drewN | apply Kd.R_drew)); exact HO165.out) hb); have n3_ := Aside0.mk (Kd.R_below (by (with_reducible repeat (first | apply Kd.R_alloc | apply Kd.R_drewN | apply Kd.R_drew)); exact HO169.out) hb); have n4_ := Aside0.mk (Kd.R_lower ho0 (below_size (by repeat (first | (with_reducible first | exact HB.out | apply below_alloc | apply pw_below_drewN | apply below_drew1) | exact HB.out)))); have n5_ := Aside0.mk (below_step (by repeat (first | (with_reducible first | exact HB.out | apply below_alloc | apply pw_below_drewN | apply below_drew1) | exact HB.out)) hb); clear HO157; clear HO161; clear HO165; clear HO169; clear HB; have HO157 := n0_; have HO161 := n1_; have HO165 := n2_; have HO169 := n3_; have HO172 := n4_; have HB := n5_; clear n0_ n1_ n2_ n3_ n4_ n5_; (try clear hb); (try clear hb2); (try clear hk); (try clear hi); (try clear ho0)) | ((with_reducible refine gate_dst (N := 35) rfl ?_); (try (refine gate_guard (by rfl) ?_; dsimp only)); refine Kd.R_lit (Kd.int .i64) _ 3 ?hg (N := 35) ?hd (xs := ([0, 2] : List Int)) (inner := [.int .i64 0, .int .i64 2]) (ok := fun _ => True) (okp := fun _ => True) ?hr ?hp (fun _ hk => hk) trivial (Below.refl _ _) (Nat.le_refl _) (by simp) ?_; (case hd => rfl); (case hg => rfl); (case hr => first | (go_simp; done) | (go_simp; rfl)); (case hp => exact (Reps.one (show Kd.M (Kd.int .i64) _ _ _ 0 [.int .i64 0] from rfl) (Reps.one (show Kd.M (Kd.int .i64) _ _ _ 2 [.int .i64 2] from rfl) (Reps.none _ _)))); intro v174 w26 ho27 hb hg_ hnew_; clear hg_ hnew_; (first | rw [← Ny173.out] at ho27 | (simp only [Int.reduceToNat] at ho27; rw [← Ny173.out] at ho27)); have n0_ := Aside0.mk (Kd.R_below (by (with_reducible repeat (first | apply Kd.R_alloc | apply Kd.R_drewN | apply Kd.R_drew)); exact HO157.out) hb); have n1_ := Aside0.mk (Kd.R_below (by (with_reducible repeat (first | apply Kd.R_alloc | apply Kd.R_drewN | apply Kd.R_drew)); exact HO161.out) hb); have n2_ := Aside0.mk (Kd.R_below (by (with_reducible repeat (first | apply Kd.R_alloc | apply Kd.R_drewN | apply Kd.R_drew)); exact HO165.out) hb); have n3_ := Aside0.mk (Kd.R_below (by (with_reducible repeat (first | apply Kd.R_alloc | apply Kd.R_drewN | apply Kd.R_drew)); exact HO169.out) hb); have n4_ := Aside0.mk (Kd.R_elder' (by (with_reducible repeat (first | apply Kd.R_alloc | apply Kd.R_drewN | apply Kd.R_drew)); exact HO172.out) (Kd.R_base ho27) hb); have n5_ := Aside0.mk (Kd.R_lower (Kd.R_new' ho27 (Kd.R_lt (by (with_reducible repeat (first | apply Kd.R_alloc | apply Kd.R_drewN | apply Kd.R_drew)); exact HO172.out))) (below_size (by repeat (first | (with_reducible first | exact HB.out | apply below_alloc | apply pw_below_drewN | apply below_drew1) | exact HB.out)))); have n6_ := Aside0.mk (below_step (by repeat (first | (with_reducible first | exact HB.out | apply below_alloc | apply pw_below_drewN | apply below_drew1) | exact HB.out)) hb); clear HO157; clear HO161; clear HO165; clear HO169; clear HO172; clear HB; have HO157 := n0_; have HO161 := n1_; have HO165 := n2_; have HO169 := n3_; have HO172 := n4_; have HO175 := n5_; have HB := n6_; clear n0_ n1_ n2_ n3_ n4_ n5_ n6_; clear hb ho27; obtain ⟨Ao28, co28, eo28⟩ := Kd.R_slice HO172.out; subst eo28; obtain ⟨Ao29, co29, eo29⟩ := Kd.R_slice HO175.out; subst eo29) | (go_at_call 24; (with_reducible refine (slices_Equal_int_int.calls k _ _ t170 _ _ y173 true _ ?side1 ?side2 ?side3 ?side4 A8.out).mono ?_); (case side1 => repeat (first | exact (Kd.R_reads' HO172.out).2.2 | (with_reducible refine Kd.C_alloc ?_ _) | (with_reducible refine Kd.C_drewN ?_ _) | (with_reducible refine Kd.C_drew ?_))); (case side2 => exact (Kd.R_reads' HO172.out).2.1); (case side3 => repeat (first | exact (Kd.R_reads' HO175.out).2.2 | (with_reducible refine Kd.C_alloc ?_ _) | (with_reducible refine Kd.C_drewN ?_ _) | (with_reducible refine Kd.C_drew ?_))); (case side4 => exact (Kd.R_reads' HO175.out).2.1); rintro e w' ⟨rfl, ⟨nd, rfl⟩⟩) | (go_at_call 19; (with_reducible refine (sound_Clusters.calls k _ _ t154 t177 _ ?side1 ?side2 A10.out).mono ?_); (case side1 => repeat (first | exact (Kd.R_reads' HO157.out).2.2 | (with_reducible refine Kd.C_alloc ?_ _) | (with_reducible refine Kd.C_drewN ?_ _) | (with_reducible refine Kd.C_drew ?_))); (case side2 => exact (Kd.R_reads' HO157.out).2.1); rintro e w30 ⟨v178, rfl, ho0, hb⟩; have n0_ := Aside0.mk (Kd.R_below (by (with_reducible repeat (first | apply Kd.R_alloc | apply Kd.R_drewN | apply Kd.R_drew)); exact HO157.out) hb); have n1_ := Aside0.mk (Kd.R_below (by (with_reducible repeat (first | apply Kd.R_alloc | apply Kd.R_drewN | apply Kd.R_drew)); exact HO161.out) hb); have n2_ := Aside0.mk (Kd.R_below (by (with_reducible repeat (first | apply Kd.R_alloc | apply Kd.R_drewN | apply Kd.R_drew)); exact HO165.out) hb); have n3_ := Aside0.mk (Kd.R_below (by (with_reducible repeat (first | apply Kd.R_alloc | apply Kd.R_drewN | apply Kd.R_drew)); exact HO169.out) hb); have n4_ := Aside0.mk (Kd.R_below (by (with_reducible repeat (first | apply Kd.R_alloc | apply Kd.R_drewN | apply Kd.R_drew)); exact HO172.out) hb); have n5_ := Aside0.mk (Kd.R_below (by (with_reducible repeat (first | apply Kd.R_alloc | apply Kd.R_drewN | apply Kd.R_drew)); exact HO175.out) hb); have n6_ := Aside0.mk (Kd.S_lower (Kd.S_new' (Kd.S_new' (Kd.S_new' (Kd.S_new' ho0 (Kd.R_lt (by (with_reducible repeat (first | apply Kd.R_alloc | apply Kd.R_drewN | apply Kd.R_drew)); exact HO157.out))) (Kd.R_lt (by (with_reducible repeat (first | apply Kd.R_alloc | apply Kd.R_drewN | apply Kd.R_drew)); exact HO161.out))) (Kd.R_lt (by (with_reducible repeat (first | apply Kd.R_alloc | apply Kd.R_drewN | apply Kd.R_drew)); exact HO165.out))) (Kd.R_lt (by (with_reducible repeat (first | apply Kd.R_alloc | apply Kd.R_drewN | apply Kd.R_drew)); exact HO169.out))) (below_size (by repeat (first | (with_reducible first | exact HB.out | apply below_alloc | apply pw_below_drewN | apply below_drew1) | exact HB.out)))); have n7_ := Aside0.mk (below_step (by repeat (first | (with_reducible first | exact HB.out | apply below_alloc | apply pw_below_drewN | apply below_drew1) | exact HB.out)) hb); clear HO157; clear HO161; clear HO165; clear HO169; clear HO172; clear HO175; clear HB; have HO157 := n0_; have HO161 := n1_; have HO165 := n2_; have HO169 := n3_; have HO172 := n4_; have HO175 := n5_; have HO179 := n6_; have HB := n7_; clear n0_ n1_ n2_ n3_ n4_ n5_ n6_ n7_; (try clear hb); (try clear hb2); (try clear hk); (try clear hi); (try clear ho0); obtain ⟨Ao31, co31, eo31⟩ := Kd.S_slice HO179.out; subst eo31) | (go_at_call 20; (with_reducible refine (sound_Beats.calls k _ _ t154 t180 _ ?side1 ?side2 A12.out).mono ?_); (case side1 => repeat (first | exact (Kd.R_reads' HO157.out).2.2 | (with_reducible refine Kd.C_alloc ?_ _) | (with_reducible refine Kd.C_drewN ?_ _) | (with_reducible refine Kd.C_drew ?_))); (case side2 => exact (Kd.R_reads' HO157.out).2.1); (try clear A12); rintro e w32 ⟨rfl, hb⟩; have n0_ := Aside0.mk (Kd.R_below (by (with_reducible repeat (first | apply Kd.R_alloc | apply Kd.R_drewN | apply Kd.R_drew)); exact HO157.out) hb); have n1_ := Aside0.mk (Kd.R_below (by (with_reducible repeat (first | apply Kd.R_alloc | apply Kd.R_drewN | apply Kd.R_drew)); exact HO161.out) hb); have n2_ := Aside0.mk (Kd.R_below (by (with_reducible repeat (first | apply Kd.R_alloc | apply Kd.R_drewN | apply Kd.R_drew)); exact HO165.out) hb); have n3_ := Aside0.mk (Kd.R_below (by (with_reducible repeat (first | apply Kd.R_alloc | apply Kd.R_drewN | apply Kd.R_drew)); exact HO169.out) hb); have n4_ := Aside0.mk (Kd.R_below (by (with_reducible repeat (first | apply Kd.R_alloc | apply Kd.R_drewN | apply Kd.R_drew)); exact HO172.out) hb); have n5_ := Aside0.mk (Kd.R_below (by (with_reducible repeat (first | apply Kd.R_alloc | apply Kd.R_drewN | apply Kd.R_drew)); exact HO175.out) hb); have n6_ := Aside0.mk (Kd.S_below (by (with_reducible repeat (first | apply Kd.S_alloc | apply Kd.S_drewN | apply Kd.S_drew)); exact HO179.out) hb); have n7_ := Aside0.mk (below_step (by repeat (first | (with_reducible first | exact HB.out | apply below_alloc | apply pw_below_drewN | apply below_drew1) | exact HB.out)) hb); clear HO157; clear HO161; clear HO165; clear HO169; clear HO172; clear HO175; clear HO179; clear HB; have HO157 := n0_; have HO161 := n1_; have HO165 := n2_; have HO169 := n3_; have HO172 := n4_; have HO175 := n5_; have HO179 := n6_; have HB := n7_; clear n0_ n1_ n2_ n3_ n4_ n5_ n6_ n7_; (try clear hb); (try clear hb2); (try clear hk); (try clear hi); obtain ⟨Ao33, co33, eo33⟩ := Kd.R_slice HO161.out; subst eo33) | (go_at_call 18; (with_reducible refine (sound_Nuclei.calls k _ _ t158 t181 _ ?side1 ?side2 A15.out).mono ?_); (case side1 => repeat (first | exact (Kd.R_reads' HO161.out).2.2 | (with_reducible refine Kd.C_alloc ?_ _) | (with_reducible refine Kd.C_drewN ?_ _) | (with_reducible refine Kd.C_drew ?_))); (case side2 => exact (Kd.R_reads' HO161.out).2.1); (try clear A15); rintro e w34 ⟨v182, rfl, ho0, hb⟩; have n0_ := Aside0.mk (Kd.R_below (by (with_reducible repeat (first | apply Kd.R_alloc | apply Kd.R_drewN | apply Kd.R_drew)); exact HO157.out) hb); have n1_ := Aside0.mk (Kd.R_below (by (with_reducible repeat (first | apply Kd.R_alloc | apply Kd.R_drewN | apply Kd.R_drew)); exact HO161.out) hb); have n2_ := Aside0.mk (Kd.R_below (by (with_reducible repeat (first | apply Kd.R_alloc | apply Kd.R_drewN | apply Kd.R_drew)); exact HO165.out) hb); have n3_ := Aside0.mk (Kd.R_below (by (with_reducible repeat (first | apply Kd.R_alloc | apply Kd.R_drewN | apply Kd.R_drew)); exact HO169.out) hb); have n4_ := Aside0.mk (Kd.R_elder' (by (with_reducible repeat (first | apply Kd.R_alloc | apply Kd.R_drewN | apply Kd.R_drew)); exact HO172.out) (Kd.R_base ho0) hb); have n5_ := Aside0.mk (Kd.R_elder' (by (with_reducible repeat (first | apply Kd.R_alloc | apply Kd.R_drewN | apply Kd.R_drew)); exact HO175.out) (Kd.R_base ho0) hb); have n6_ := Aside0.mk (Kd.S_below (by (with_reducible repeat (first | apply Kd.S_alloc | apply Kd.S_drewN | apply Kd.S_drew)); exact HO179.out) hb); have n7_ := Aside0.mk (Kd.R_lower (Kd.R_new' (Kd.R_new' ho0 (Kd.R_lt (by (with_reducible repeat (first | apply Kd.R_alloc | apply Kd.R_drewN | apply Kd.R_drew)); exact HO172.out))) (Kd.R_lt (by (with_reducible repeat (first | apply Kd.R_alloc | apply Kd.R_drewN | apply Kd.R_drew)); exact HO175.out))) (below_size (by repeat (first | (with_reducible first | exact HB.out | apply below_alloc | apply pw_below_drewN | apply below_drew1) | exact HB.out)))); have n8_ := Aside0.mk (below_step (by repeat (first | (with_reducible first | exact HB.out | apply below_alloc | apply pw_below_drewN | apply below_drew1) | exact HB.out)) hb); clear HO157; clear HO161; clear HO165; clear HO169; clear HO172; clear HO175; clear HO179; clear HB; have HO157 := n0_; have HO161 := n1_; have HO165 := n2_; have HO169 := n3_; have HO172 := n4_; have HO175 := n5_; have HO179 := n6_; have HO183 := n7_; have HB := n8_; clear n0_ n1_ n2_ n3_ n4_ n5_ n6_ n7_ n8_; (try clear hb); (try clear hb2); (try clear hk); (try clear hi); (try clear ho0); obtain ⟨Ao35, co35, eo35⟩ := Kd.R_slice HO183.out; subst eo35) | (go_at_call 20; (with_reducible refine (sound_Beats.calls k _ _ t158 t184 _ ?side1 ?side2 A17.out).mono ?_); (case side1 => repeat (first | exact (Kd.R_reads' HO161.out).2.2 | (with_reducible refine Kd.C_alloc ?_ _) | (with_reducible refine Kd.C_drewN ?_ _) | (with_reducible refine Kd.C_drew ?_))); (case side2 => exact (Kd.R_reads' HO161.out).2.1); (try clear A17); rintro e w36 ⟨rfl, hb⟩; have n0_ := Aside0.mk (Kd.R_below (by (with_reducible repeat (first | apply Kd.R_alloc | apply Kd.R_drewN | apply Kd.R_drew)); exact HO157.out) hb); have n1_ := Aside0.mk (Kd.R_below (by (with_reducible repeat (first | apply Kd.R_alloc | apply Kd.R_drewN | apply Kd.R_drew)); exact HO161.out) hb); have n2_ := Aside0.mk (Kd.R_below (by (with_reducible repeat (first | apply Kd.R_alloc | apply Kd.R_drewN | apply Kd.R_drew)); exact HO165.out) hb); have n3_ := Aside0.mk (Kd.R_below (by (with_reducible repeat (first | apply Kd.R_alloc | apply Kd.R_drewN | apply Kd.R_drew)); exact HO169.out) hb); have n4_ := Aside0.mk (Kd.R_below (by (with_reducible repeat (first | apply Kd.R_alloc | apply Kd.R_drewN | apply Kd.R_drew)); exact HO172.out) hb); have n5_ := Aside0.mk (Kd.R_below (by (with_reducible repeat (first | apply Kd.R_alloc | apply Kd.R_drewN | apply Kd.R_drew)); exact HO175.out) hb); have n6_ := Aside0.mk (Kd.S_below (by (with_reducible repeat (first | apply Kd.S_alloc | apply Kd.S_drewN | apply Kd.S_drew)); exact HO179.out) hb); have n7_ := Aside0.mk (Kd.R_below (by (with_reducible repeat (first | apply Kd.R_alloc | apply Kd.R_drewN | apply Kd.R_drew)); exact HO183.out) hb); have n8_ := Aside0.mk (below_step (by repeat (first | (with_reducible first | exact HB.out | apply below_alloc | apply pw_below_drewN | apply below_drew1) | exact HB.out)) hb); clear HO157; clear HO161; clear HO165; clear HO169; clear HO172; clear HO175; clear HO179; clear HO183; clear HB; have HO157 := n0_; have HO161 := n1_; have HO165 := n2_; have HO169 := n3_; have HO172 := n4_; have HO175 := n5_; have HO179 := n6_; have HO183 := n7_; have HB := n8_; clear n0_ n1_ n2_ n3_ n4_ n5_ n6_ n7_ n8_; (try clear hb); (try clear hb2); (try clear hk); (try clear hi)))
                    go_ret
                    exact ⟨by first | rfl | (simp [errW_none, errW_some] <;> rfl) | (simp [*, errW_none, errW_some] <;> rfl), by repeat (first | (with_reducible first | exact HB.out | apply below_alloc | apply pw_below_drewN | apply below_drew1) | exact HB.out)⟩
                  · rw [if_neg c19] at H
                    have c19b0 : (t163 == 2) = false := beq_eq_false_iff_ne.mpr c19
                    have c19b1 : (t163 != 2) = true := bne_iff_ne.mpr c19
                    exact absurd (Option.some.inj H) (by decide)
                · rw [if_neg c18] at H
                  have c18b0 : (t184 == 0) = false := beq_eq_false_iff_ne.mpr c18
                  have c18b1 : (t184 != 0) = true := bne_iff_ne.mpr c18
                  exact absurd (Option.some.inj H) (by decide)
              · rw [if_neg c16] at H
                have c16b0 : ((t181.length : Int) == 2) = false := beq_eq_false_iff_ne.mpr c16
                have c16b1 : ((t181.length : Int) != 2) = true := bne_iff_ne.mpr c16
                exact absurd (Option.some.inj H) (by decide)
            · rw [if_neg c14] at H
              have c14b0 : (t159 == 0) = false := beq_eq_false_iff_ne.mpr c14
              have c14b1 : (t159 != 0) = true := bne_iff_ne.mpr c14
              exact absurd (Option.some.inj H) (by decide)
          · rw [if_neg c13] at H
            have c13b0 : (t180 == 3) = false := beq_eq_false_iff_ne.mpr c13
            have c13b1 : (t180 != 3) = true := bne_iff_ne.mpr c13
            exact absurd (Option.some.inj H) (by decide)
        · rw [if_neg c11] at H
          have c11b0 : ((t177.length : Int) == 3) = false := beq_eq_false_iff_ne.mpr c11
          have c11b1 : ((t177.length : Int) != 3) = true := bne_iff_ne.mpr c11
          exact absurd (Option.some.inj H) (by decide)
      · replace c9 := Bool.eq_false_iff.mpr c9
        subst c9
        have H1 : (some false) = some true := by rw [if_neg (show ¬ (false = true) by decide)] at H; exact H
        clear H
        have H := H1
        clear H1
        exact absurd (Option.some.inj H) (by decide)
    · rw [if_neg c6] at H
      have c6b0 : ((t154.length : Int) == 4) = false := beq_eq_false_iff_ne.mpr c6
      have c6b1 : ((t154.length : Int) != 4) = true := bne_iff_ne.mpr c6
      exact absurd (Option.some.inj H) (by decide)
  · rw [if_neg c5] at H
    have c5b0 : (t155 == 0) = false := beq_eq_false_iff_ne.mpr c5
    have c5b1 : (t155 != 0) = true := bne_iff_ne.mpr c5
    exact absurd (Option.some.inj H) (by decide)
def ancepslaw11_awake.f (k : Nat)  : Option (Bool) := (ancepslaw11_awake.g k).bind fun b => if b = true then some true else none
theorem ancepslaw11_awake.mono : ∀ k, LeO (ancepslaw11_awake.f k) (ancepslaw11_awake.f (k + 1)) := by
  intro k
  unfold ancepslaw11_awake.f
  exact LeO.bind (ancepslaw11_awake.monoG k) (fun _ => LeO.refl _)
theorem ancepslaw11_awake.calls (k : Nat)  (r : Bool) (w : World) (h : ancepslaw11_awake.f k  = some r) :
    Calls Tryd.prog 11 #[] w fun e w' => e = .returned (.bool r) ∧ Below w.heap.size w w' := by
  unfold ancepslaw11_awake.f at h
  obtain ⟨b, h1, h2⟩ := Option.bind_eq_some_iff.mp h
  cases b with
  | true =>
    rw [if_pos rfl] at h2
    obtain rfl := Option.some.inj h2
    exact ancepslaw11_awake.callsT k w h1
  | false => simp at h2

/-! ### ancepsref11_Made: function 41 -/
def ancepsref11_Made.f (a0 : Int) : Option (Int × Int × ByteArray) := (some (([(⟨1, 3, (⟨#[97]⟩ : ByteArray)⟩ : S23), (⟨1, 1, (⟨#[101]⟩ : ByteArray)⟩ : S23), (⟨1, 2, (⟨#[111]⟩ : ByteArray)⟩ : S23), (⟨1, 3, (⟨#[105]⟩ : ByteArray)⟩ : S23), (⟨2, 2, (⟨#[97, 101]⟩ : ByteArray)⟩ : S23), (⟨3, 0, (⟨#[116]⟩ : ByteArray)⟩ : S23), (⟨3, 0, (⟨#[98]⟩ : ByteArray)⟩ : S23), (⟨4, 0, (⟨#[114]⟩ : ByteArray)⟩ : S23), (⟨4, 0, (⟨#[108]⟩ : ByteArray)⟩ : S23), (⟨5, 0, (⟨#[109]⟩ : ByteArray)⟩ : S23), (⟨5, 0, (⟨#[110]⟩ : ByteArray)⟩ : S23), (⟨6, 0, (⟨#[115]⟩ : ByteArray)⟩ : S23), (⟨7, 0, (⟨#[120]⟩ : ByteArray)⟩ : S23), (⟨8, 0, (⟨#[118]⟩ : ByteArray)⟩ : S23), (⟨9, 0, (⟨#[104]⟩ : ByteArray)⟩ : S23), (⟨1, 3, (⟨#[117]⟩ : ByteArray)⟩ : S23)] : List (S23)) : List (S23))).bind fun y186 => (if (y186.length : Int) = 0 then (none) else (if 0 ≤ (Int.tmod (wrap64 (a0)) (y186.length : Int)) then (if (Int.tmod (wrap64 (a0)) (y186.length : Int)) < (y186.length : Int) then (some ((rd_T23 y186 (Int.tmod (wrap64 (a0)) (y186.length : Int))).f0, (rd_T23 y186 (Int.tmod (wrap64 (a0)) (y186.length : Int))).f1, (rd_T23 y186 (Int.tmod (wrap64 (a0)) (y186.length : Int))).f2)) else (none)) else (none)))
set_option maxHeartbeats 8000000 in
set_option maxRecDepth 100000 in
theorem ancepsref11_Made.calls (a0 : Int) (r1 : Int) (r2 : Int) (r3 : ByteArray) (w : World) (h : ancepsref11_Made.f a0 = some (r1, r2, r3)) :
    Calls Tryd.prog 41 #[.int .u8 a0] w fun e w' => e = .returned (.agg #[.int .i64 r1, .int .i64 r2, .string r3]) ∧ Below w.heap.size w w' := by
  have hu23 := Tryd.underlying23
  have HB := Aside0.mk (Below.refl w.heap.size w)
  have H : ((some (([(⟨1, 3, (⟨#[97]⟩ : ByteArray)⟩ : S23), (⟨1, 1, (⟨#[101]⟩ : ByteArray)⟩ : S23), (⟨1, 2, (⟨#[111]⟩ : ByteArray)⟩ : S23), (⟨1, 3, (⟨#[105]⟩ : ByteArray)⟩ : S23), (⟨2, 2, (⟨#[97, 101]⟩ : ByteArray)⟩ : S23), (⟨3, 0, (⟨#[116]⟩ : ByteArray)⟩ : S23), (⟨3, 0, (⟨#[98]⟩ : ByteArray)⟩ : S23), (⟨4, 0, (⟨#[114]⟩ : ByteArray)⟩ : S23), (⟨4, 0, (⟨#[108]⟩ : ByteArray)⟩ : S23), (⟨5, 0, (⟨#[109]⟩ : ByteArray)⟩ : S23), (⟨5, 0, (⟨#[110]⟩ : ByteArray)⟩ : S23), (⟨6, 0, (⟨#[115]⟩ : ByteArray)⟩ : S23), (⟨7, 0, (⟨#[120]⟩ : ByteArray)⟩ : S23), (⟨8, 0, (⟨#[118]⟩ : ByteArray)⟩ : S23), (⟨9, 0, (⟨#[104]⟩ : ByteArray)⟩ : S23), (⟨1, 3, (⟨#[117]⟩ : ByteArray)⟩ : S23)] : List (S23)) : List (S23))).bind fun y186 => (if (y186.length : Int) = 0 then (none) else (if 0 ≤ (Int.tmod (wrap64 (a0)) (y186.length : Int)) then (if (Int.tmod (wrap64 (a0)) (y186.length : Int)) < (y186.length : Int) then (some ((rd_T23 y186 (Int.tmod (wrap64 (a0)) (y186.length : Int))).f0, (rd_T23 y186 (Int.tmod (wrap64 (a0)) (y186.length : Int))).f1, (rd_T23 y186 (Int.tmod (wrap64 (a0)) (y186.length : Int))).f2)) else (none)) else (none)))) = some (r1, r2, r3) := h
  clear h
  obtain ⟨y186, hy186⟩ : ∃ y_ : List (S23), y_ = (([(⟨1, 3, (⟨#[97]⟩ : ByteArray)⟩ : S23), (⟨1, 1, (⟨#[101]⟩ : ByteArray)⟩ : S23), (⟨1, 2, (⟨#[111]⟩ : ByteArray)⟩ : S23), (⟨1, 3, (⟨#[105]⟩ : ByteArray)⟩ : S23), (⟨2, 2, (⟨#[97, 101]⟩ : ByteArray)⟩ : S23), (⟨3, 0, (⟨#[116]⟩ : ByteArray)⟩ : S23), (⟨3, 0, (⟨#[98]⟩ : ByteArray)⟩ : S23), (⟨4, 0, (⟨#[114]⟩ : ByteArray)⟩ : S23), (⟨4, 0, (⟨#[108]⟩ : ByteArray)⟩ : S23), (⟨5, 0, (⟨#[109]⟩ : ByteArray)⟩ : S23), (⟨5, 0, (⟨#[110]⟩ : ByteArray)⟩ : S23), (⟨6, 0, (⟨#[115]⟩ : ByteArray)⟩ : S23), (⟨7, 0, (⟨#[120]⟩ : ByteArray)⟩ : S23), (⟨8, 0, (⟨#[118]⟩ : ByteArray)⟩ : S23), (⟨9, 0, (⟨#[104]⟩ : ByteArray)⟩ : S23), (⟨1, 3, (⟨#[117]⟩ : ByteArray)⟩ : S23)] : List (S23))) := ⟨_, rfl⟩
  replace H : (if (y186.length : Int) = 0 then (none) else (if 0 ≤ (Int.tmod (wrap64 (a0)) (y186.length : Int)) then (if (Int.tmod (wrap64 (a0)) (y186.length : Int)) < (y186.length : Int) then (some ((rd_T23 y186 (Int.tmod (wrap64 (a0)) (y186.length : Int))).f0, (rd_T23 y186 (Int.tmod (wrap64 (a0)) (y186.length : Int))).f1, (rd_T23 y186 (Int.tmod (wrap64 (a0)) (y186.length : Int))).f2)) else (none)) else (none))) = some (r1, r2, r3) := by first | (rw [hy186]; with_reducible exact H) | (have H2_ := (Option.bind_some _ _).symm.trans H; rw [hy186]; with_reducible exact H2_) | (have H2_ := (Option.bind_some _ _).symm.trans H; with_reducible exact H2_) | with_reducible exact H | (rw [hy186]; exact H) | exact H
  have Ny186 := Aside0.mk hy186
  clear hy186
  by_cases c2 : (y186.length : Int) = 0
  · rw [if_pos c2] at H
    exact absurd H (by simp)
  · rw [if_neg c2] at H
    have c2b0 : ((y186.length : Int) == 0) = false := beq_eq_false_iff_ne.mpr c2
    have c2b1 : ((y186.length : Int) != 0) = true := bne_iff_ne.mpr c2
    have c2b2 : ¬ (y186 = []) := fun h_ => c2 (by rw [h_]; rfl)
    obtain ⟨ji3, hji3⟩ : ∃ j_ : Int, (Int.tmod (wrap64 (a0)) (y186.length : Int)) = j_ := ⟨_, rfl⟩
    replace H : (if 0 ≤ (ji3) then (if (ji3) < (y186.length : Int) then (some ((rd_T23 y186 (ji3)).f0, (rd_T23 y186 (ji3)).f1, (rd_T23 y186 (ji3)).f2)) else (none)) else (none)) = some (r1, r2, r3) := by first | (rw [hji3] at H; exact H) | (simp only [hji3] at H ⊢; exact H)
    by_cases c4 : 0 ≤ (ji3)
    · rw [if_pos c4] at H
      have c4b0 : decide (0 ≤ (ji3)) = true := decide_eq_true c4
      clear c4
      by_cases c5 : (ji3) < (y186.length : Int)
      · rw [if_pos c5] at H
        have c5b0 : decide ((ji3) < (y186.length : Int)) = true := decide_eq_true c5
        clear c5
        simp only [Option.some.injEq, Prod.mk.injEq] at H
        obtain ⟨rfl, rfl, rfl⟩ := H
        go_enter Tryd.func41, Tryd.ntmps41
        go_wp2_with (first | ((with_reducible refine gate_dst (N := 2) rfl ?_); refine box_event ?hg (N := 2) ?hd (cs := #[.int .i64 0, .int .i64 0, .string (⟨#[]⟩ : ByteArray)]) (t := 23) ?hr ?_; (case hd => rfl); (case hg => rfl); (case hr => first | (go_simp; done) | (go_simp; rfl)); intro gb185 hg w6 hbox hb; have n0_ := Aside0.mk (below_step (by repeat (first | (with_reducible first | exact HB.out | apply below_alloc | apply pw_below_drewN | apply below_drew1) | exact HB.out)) hb); have n1_ := Aside0.mk (hbox); have n2_ := Aside0.mk ((by rw [hg]; exact (below_size (by repeat (first | (with_reducible first | exact HB.out | apply below_alloc | apply pw_below_drewN | apply below_drew1) | exact HB.out))) : w.heap.size ≤ gb185)); have n3_ := Aside0.mk ((by rw [hg]; exact (below_size (by repeat (first | (with_reducible first | exact HB.out | apply below_alloc | apply pw_below_drewN | apply below_drew1) | exact HB.out))) : w.heap.size ≤ gb185)); clear HB; have HB := n0_; have BK185 := n1_; have GW185 := n2_; have GE185 := n3_; clear n0_ n1_ n2_ n3_; clear hb hbox hg) | ((with_reducible refine gate_dst (N := 20) rfl ?_); refine Kd.R_lit k23 _ 23 ?hg (N := 20) ?hd (xs := ([(⟨1, 3, (⟨#[97]⟩ : ByteArray)⟩ : S23), (⟨1, 1, (⟨#[101]⟩ : ByteArray)⟩ : S23), (⟨1, 2, (⟨#[111]⟩ : ByteArray)⟩ : S23), (⟨1, 3, (⟨#[105]⟩ : ByteArray)⟩ : S23), (⟨2, 2, (⟨#[97, 101]⟩ : ByteArray)⟩ : S23), (⟨3, 0, (⟨#[116]⟩ : ByteArray)⟩ : S23), (⟨3, 0, (⟨#[98]⟩ : ByteArray)⟩ : S23), (⟨4, 0, (⟨#[114]⟩ : ByteArray)⟩ : S23), (⟨4, 0, (⟨#[108]⟩ : ByteArray)⟩ : S23), (⟨5, 0, (⟨#[109]⟩ : ByteArray)⟩ : S23), (⟨5, 0, (⟨#[110]⟩ : ByteArray)⟩ : S23), (⟨6, 0, (⟨#[115]⟩ : ByteArray)⟩ : S23), (⟨7, 0, (⟨#[120]⟩ : ByteArray)⟩ : S23), (⟨8, 0, (⟨#[118]⟩ : ByteArray)⟩ : S23), (⟨9, 0, (⟨#[104]⟩ : ByteArray)⟩ : S23), (⟨1, 3, (⟨#[117]⟩ : ByteArray)⟩ : S23)] : List (S23))) (inner := [.int .i64 1, .int .i64 3, .string (⟨#[97]⟩ : ByteArray), .int .i64 1, .int .i64 1, .string (⟨#[101]⟩ : ByteArray), .int .i64 1, .int .i64 2, .string (⟨#[111]⟩ : ByteArray), .int .i64 1, .int .i64 3, .string (⟨#[105]⟩ : ByteArray), .int .i64 2, .int .i64 2, .string (⟨#[97, 101]⟩ : ByteArray), .int .i64 3, .int .i64 0, .string (⟨#[116]⟩ : ByteArray), .int .i64 3, .int .i64 0, .string (⟨#[98]⟩ : ByteArray), .int .i64 4, .int .i64 0, .string (⟨#[114]⟩ : ByteArray), .int .i64 4, .int .i64 0, .string (⟨#[108]⟩ : ByteArray), .int .i64 5, .int .i64 0, .string (⟨#[109]⟩ : ByteArray), .int .i64 5, .int .i64 0, .string (⟨#[110]⟩ : ByteArray), .int .i64 6, .int .i64 0, .string (⟨#[115]⟩ : ByteArray), .int .i64 7, .int .i64 0, .string (⟨#[120]⟩ : ByteArray), .int .i64 8, .int .i64 0, .string (⟨#[118]⟩ : ByteArray), .int .i64 9, .int .i64 0, .string (⟨#[104]⟩ : ByteArray), .int .i64 1, .int .i64 3, .string (⟨#[117]⟩ : ByteArray)]) (ok := fun _ => True) (okp := fun _ => True) ?hr ?hp (fun _ hk => hk) trivial (Below.refl _ _) (Nat.le_refl _) (by simp) ?_; (case hd => rfl); (case hg => rfl); (case hr => first | (go_simp; done) | (go_simp; rfl)); (case hp => exact (Reps.c3 (show Kd.M k23 _ _ _ (⟨1, 3, (⟨#[97]⟩ : ByteArray)⟩ : S23) [.int .i64 1, .int .i64 3, .string (⟨#[97]⟩ : ByteArray)] from (k23_mkM _ _ _ (⟨1, 3, (⟨#[97]⟩ : ByteArray)⟩ : S23) )) (Reps.c3 (show Kd.M k23 _ _ _ (⟨1, 1, (⟨#[101]⟩ : ByteArray)⟩ : S23) [.int .i64 1, .int .i64 1, .string (⟨#[101]⟩ : ByteArray)] from (k23_mkM _ _ _ (⟨1, 1, (⟨#[101]⟩ : ByteArray)⟩ : S23) )) (Reps.c3 (show Kd.M k23 _ _ _ (⟨1, 2, (⟨#[111]⟩ : ByteArray)⟩ : S23) [.int .i64 1, .int .i64 2, .string (⟨#[111]⟩ : ByteArray)] from (k23_mkM _ _ _ (⟨1, 2, (⟨#[111]⟩ : ByteArray)⟩ : S23) )) (Reps.c3 (show Kd.M k23 _ _ _ (⟨1, 3, (⟨#[105]⟩ : ByteArray)⟩ : S23) [.int .i64 1, .int .i64 3, .string (⟨#[105]⟩ : ByteArray)] from (k23_mkM _ _ _ (⟨1, 3, (⟨#[105]⟩ : ByteArray)⟩ : S23) )) (Reps.c3 (show Kd.M k23 _ _ _ (⟨2, 2, (⟨#[97, 101]⟩ : ByteArray)⟩ : S23) [.int .i64 2, .int .i64 2, .string (⟨#[97, 101]⟩ : ByteArray)] from (k23_mkM _ _ _ (⟨2, 2, (⟨#[97, 101]⟩ : ByteArray)⟩ : S23) )) (Reps.c3 (show Kd.M k23 _ _ _ (⟨3, 0, (⟨#[116]⟩ : ByteArray)⟩ : S23) [.int .i64 3, .int .i64 0, .string (⟨#[116]⟩ : ByteArray)] from (k23_mkM _ _ _ (⟨3, 0, (⟨#[116]⟩ : ByteArray)⟩ : S23) )) (Reps.c3 (show Kd.M k23 _ _ _ (⟨3, 0, (⟨#[98]⟩ : ByteArray)⟩ : S23) [.int .i64 3, .int .i64 0, .string (⟨#[98]⟩ : ByteArray)] from (k23_mkM _ _ _ (⟨3, 0, (⟨#[98]⟩ : ByteArray)⟩ : S23) )) (Reps.c3 (show Kd.M k23 _ _ _ (⟨4, 0, (⟨#[114]⟩ : ByteArray)⟩ : S23) [.int .i64 4, .int .i64 0, .string (⟨#[114]⟩ : ByteArray)] from (k23_mkM _ _ _ (⟨4, 0, (⟨#[114]⟩ : ByteArray)⟩ : S23) )) (Reps.c3 (show Kd.M k23 _ _ _ (⟨4, 0, (⟨#[108]⟩ : ByteArray)⟩ : S23) [.int .i64 4, .int .i64 0, .string (⟨#[108]⟩ : ByteArray)] from (k23_mkM _ _ _ (⟨4, 0, (⟨#[108]⟩ : ByteArray)⟩ : S23) )) (Reps.c3 (show Kd.M k23 _ _ _ (⟨5, 0, (⟨#[109]⟩ : ByteArray)⟩ : S23) [.int .i64 5, .int .i64 0, .string (⟨#[109]⟩ : ByteArray)] from (k23_mkM _ _ _ (⟨5, 0, (⟨#[109]⟩ : ByteArray)⟩ : S23) )) (Reps.c3 (show Kd.M k23 _ _ _ (⟨5, 0, (⟨#[110]⟩ : ByteArray)⟩ : S23) [.int .i64 5, .int .i64 0, .string (⟨#[110]⟩ : ByteArray)] from (k23_mkM _ _ _ (⟨5, 0, (⟨#[110]⟩ : ByteArray)⟩ : S23) )) (Reps.c3 (show Kd.M k23 _ _ _ (⟨6, 0, (⟨#[115]⟩ : ByteArray)⟩ : S23) [.int .i64 6, .int .i64 0, .string (⟨#[115]⟩ : ByteArray)] from (k23_mkM _ _ _ (⟨6, 0, (⟨#[115]⟩ : ByteArray)⟩ : S23) )) (Reps.c3 (show Kd.M k23 _ _ _ (⟨7, 0, (⟨#[120]⟩ : ByteArray)⟩ : S23) [.int .i64 7, .int .i64 0, .string (⟨#[120]⟩ : ByteArray)] from (k23_mkM _ _ _ (⟨7, 0, (⟨#[120]⟩ : ByteArray)⟩ : S23) )) (Reps.c3 (show Kd.M k23 _ _ _ (⟨8, 0, (⟨#[118]⟩ : ByteArray)⟩ : S23) [.int .i64 8, .int .i64 0, .string (⟨#[118]⟩ : ByteArray)] from (k23_mkM _ _ _ (⟨8, 0, (⟨#[118]⟩ : ByteArray)⟩ : S23) )) (Reps.c3 (show Kd.M k23 _ _ _ (⟨9, 0, (⟨#[104]⟩ : ByteArray)⟩ : S23) [.int .i64 9, .int .i64 0, .string (⟨#[104]⟩ : ByteArray)] from (k23_mkM _ _ _ (⟨9, 0, (⟨#[104]⟩ : ByteArray)⟩ : S23) )) (Reps.c3 (show Kd.M k23 _ _ _ (⟨1, 3, (⟨#[117]⟩ : ByteArray)⟩ : S23) [.int .i64 1, .int .i64 3, .string (⟨#[117]⟩ : ByteArray)] from (k23_mkM _ _ _ (⟨1, 3, (⟨#[117]⟩ : ByteArray)⟩ : S23) )) (Reps.none _ _)))))))))))))))))); intro v187 w7 ho8 hb hg_ hnew_; clear hg_ hnew_; (first | rw [← Ny186.out] at ho8 | (simp only [Int.reduceToNat] at ho8; rw [← Ny186.out] at ho8)); have n0_ := Aside0.mk (Kd.R_lower (Kd.R_newB ho8 (g := gb185) (o := .cells #[.int .i64 0, .int .i64 0, .string (⟨#[]⟩ : ByteArray)] 23 (0, 0)) (by (with_reducible repeat (first | refine blk_drewN ?_ _ | refine blk_drew ?_ | refine blk_alloc ?_ _)); exact BK185.out)) (below_size (by repeat (first | (with_reducible first | exact HB.out | apply below_alloc | apply pw_below_drewN | apply below_drew1 | refine below_set ?_ GE185.out) | exact HB.out)))); have n1_ := Aside0.mk (blk_below (g := gb185) (o := .cells #[.int .i64 0, .int .i64 0, .string (⟨#[]⟩ : ByteArray)] 23 (0, 0)) (by (with_reducible repeat (first | refine blk_drewN ?_ _ | refine blk_drew ?_ | refine blk_alloc ?_ _)); exact BK185.out) hb); have n2_ := Aside0.mk (below_step (by repeat (first | (with_reducible first | exact HB.out | apply below_alloc | apply pw_below_drewN | apply below_drew1 | refine below_set ?_ GE185.out) | exact HB.out)) hb); clear BK185; clear HB; have HO188 := n0_; have BK185 := n1_; have HB := n2_; clear n0_ n1_ n2_; clear hb ho8; obtain ⟨Ao9, co9, eo9⟩ := Kd.R_slice HO188.out; subst eo9; have p189 : 0 ≤ ((ji3) : Int) := of_decide_eq_true (by first | (with_reducible assumption) | assumption); have q189 : (ji3) < (y186.length : Int) := of_decide_eq_true (by first | (with_reducible assumption) | assumption); obtain ⟨ad189, e189, hx189_0, hx189_1, hx189_2⟩ := at_T23 (Kd.R_reads' HO188.out).2.2 (ji3) p189 q189; cases e189; replace p189 := eq_true p189; replace q189 := eq_true q189; have hcz10_0 : w7.cell? ⟨gb185, 0, none⟩ = some (.int .i64 0) := (blk_cell BK185.out 0).trans rfl; have hcz10_1 : w7.cell? ⟨gb185, 1, none⟩ = some (.int .i64 0) := (blk_cell BK185.out 1).trans rfl; have hcz10_2 : w7.cell? ⟨gb185, 2, none⟩ = some (.string (⟨#[]⟩ : ByteArray)) := (blk_cell BK185.out 2).trans rfl; have hfz10_0 := blk_frozen BK185.out 0; have hfz10_1 := blk_frozen BK185.out 1; have hfz10_2 := blk_frozen BK185.out 2))
        refine bodyPost_ret (results_cell_row rfl _ _ gb185 23 #[.int .i64 ((rd_T23 y186 (ji3)).f0), .int .i64 ((rd_T23 y186 (ji3)).f1), .string ((rd_T23 y186 (ji3)).f2)] (0, 0) _ rfl (by (with_reducible repeat (first | refine blk_drewN ?_ _ | refine blk_drew ?_ | refine blk_alloc ?_ _)); refine blk_put (cs := #[.int .i64 ((rd_T23 y186 (ji3)).f0), .int .i64 ((rd_T23 y186 (ji3)).f1), .string (⟨#[]⟩ : ByteArray)]) ?_ 2 _ rfl; (with_reducible repeat (first | refine blk_drewN ?_ _ | refine blk_drew ?_ | refine blk_alloc ?_ _)); refine blk_put (cs := #[.int .i64 ((rd_T23 y186 (ji3)).f0), .int .i64 0, .string (⟨#[]⟩ : ByteArray)]) ?_ 1 _ rfl; (with_reducible repeat (first | refine blk_drewN ?_ _ | refine blk_drew ?_ | refine blk_alloc ?_ _)); refine blk_put (cs := #[.int .i64 0, .int .i64 0, .string (⟨#[]⟩ : ByteArray)]) ?_ 0 _ rfl; (with_reducible repeat (first | refine blk_drewN ?_ _ | refine blk_drew ?_ | refine blk_alloc ?_ _)); exact BK185.out) Tryd.underlying23 rfl (by kernel_rfl)) rfl ?_
        exact ⟨by first | rfl | (simp [errW_none, errW_some] <;> rfl) | (simp only [← hji3]; first | rfl | (simp [errW_none, errW_some] <;> rfl)) | (simp [*, errW_none, errW_some] <;> rfl), by repeat (first | (with_reducible first | exact HB.out | apply below_alloc | apply pw_below_drewN | apply below_drew1 | refine below_set ?_ GE185.out) | exact HB.out)⟩
      · rw [if_neg c5] at H
        exact absurd H (by simp)
    · rw [if_neg c4] at H
      exact absurd H (by simp)

end Go.Proofs.YtnjiniegpjfemaaDoor.X
