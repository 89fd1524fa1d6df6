-- printed by this session's xprint.py: out of the translation, by the kit's print with additions; Lean checks it
import Derived.Test.YtnjiniegpjfemaaDoorWN
import Derived.Test.YtnjiniegpjfemaaDoorWShare
import Derived.Test.YtnjiniegpjfemaaDoorWRepsOne
import Derived.Test.YtnjiniegpjfemaaDoorX0
namespace Go.Proofs.YtnjiniegpjfemaaDoor.X
open Go.RowKit Go.Proofs.YtnjiniegpjfemaaDoorW.PrintWords Go.Proofs.YtnjiniegpjfemaaDoorW.PrintLast Go.Proofs.YtnjiniegpjfemaaDoorW.PrintMore
attribute [local go_sem] max2_int min2_int max_two min_two max_three min_three max_four min_four isSome_setCell binOp_gtr_str binOp_leq_str   -- for this text's walks alone
set_option linter.unusedVariables false
set_option linter.unusedSimpArgs false

/-! ### ancepsref11_Made: function 41 -/
def ancepsref11_Made.f (a0 : Int) : Option (Int × Int × ByteArray) := (some (([(⟨1, 3, (⟨#[97]⟩ : ByteArray)⟩ : S23), (⟨1, 1, (⟨#[101]⟩ : ByteArray)⟩ : S23), (⟨1, 2, (⟨#[111]⟩ : ByteArray)⟩ : S23), (⟨1, 3, (⟨#[105]⟩ : ByteArray)⟩ : S23), (⟨2, 2, (⟨#[97, 101]⟩ : ByteArray)⟩ : S23), (⟨3, 0, (⟨#[116]⟩ : ByteArray)⟩ : S23), (⟨3, 0, (⟨#[98]⟩ : ByteArray)⟩ : S23), (⟨4, 0, (⟨#[114]⟩ : ByteArray)⟩ : S23), (⟨4, 0, (⟨#[108]⟩ : ByteArray)⟩ : S23), (⟨5, 0, (⟨#[109]⟩ : ByteArray)⟩ : S23), (⟨5, 0, (⟨#[110]⟩ : ByteArray)⟩ : S23), (⟨6, 0, (⟨#[115]⟩ : ByteArray)⟩ : S23), (⟨7, 0, (⟨#[120]⟩ : ByteArray)⟩ : S23), (⟨8, 0, (⟨#[118]⟩ : ByteArray)⟩ : S23), (⟨9, 0, (⟨#[104]⟩ : ByteArray)⟩ : S23), (⟨1, 3, (⟨#[117]⟩ : ByteArray)⟩ : S23)] : List (S23)) : List (S23))).bind fun y201 => (if (y201.length : Int) = 0 then (none) else (if 0 ≤ (Int.tmod (wrap64 (a0)) (y201.length : Int)) then (if (Int.tmod (wrap64 (a0)) (y201.length : Int)) < (y201.length : Int) then (some ((rd_T23 y201 (Int.tmod (wrap64 (a0)) (y201.length : Int))).f0, (rd_T23 y201 (Int.tmod (wrap64 (a0)) (y201.length : Int))).f1, (rd_T23 y201 (Int.tmod (wrap64 (a0)) (y201.length : Int))).f2)) else (none)) else (none)))
set_option maxHeartbeats 8000000 in
set_option maxRecDepth 100000 in
theorem ancepsref11_Made.calls (a0 : Int) (r1 : Int) (r2 : Int) (r3 : ByteArray) (w : World) (h : ancepsref11_Made.f a0 = some (r1, r2, r3)) :
    Calls Tryd.prog 41 #[.int .u8 a0] w fun e w' => e = .returned (.agg #[.int .i64 r1, .int .i64 r2, .string r3]) ∧ Below w.heap.size w w' := by
  have hu23 := Tryd.underlying23
  have HB := Aside0.mk (Below.refl w.heap.size w)
  have H : ((some (([(⟨1, 3, (⟨#[97]⟩ : ByteArray)⟩ : S23), (⟨1, 1, (⟨#[101]⟩ : ByteArray)⟩ : S23), (⟨1, 2, (⟨#[111]⟩ : ByteArray)⟩ : S23), (⟨1, 3, (⟨#[105]⟩ : ByteArray)⟩ : S23), (⟨2, 2, (⟨#[97, 101]⟩ : ByteArray)⟩ : S23), (⟨3, 0, (⟨#[116]⟩ : ByteArray)⟩ : S23), (⟨3, 0, (⟨#[98]⟩ : ByteArray)⟩ : S23), (⟨4, 0, (⟨#[114]⟩ : ByteArray)⟩ : S23), (⟨4, 0, (⟨#[108]⟩ : ByteArray)⟩ : S23), (⟨5, 0, (⟨#[109]⟩ : ByteArray)⟩ : S23), (⟨5, 0, (⟨#[110]⟩ : ByteArray)⟩ : S23), (⟨6, 0, (⟨#[115]⟩ : ByteArray)⟩ : S23), (⟨7, 0, (⟨#[120]⟩ : ByteArray)⟩ : S23), (⟨8, 0, (⟨#[118]⟩ : ByteArray)⟩ : S23), (⟨9, 0, (⟨#[104]⟩ : ByteArray)⟩ : S23), (⟨1, 3, (⟨#[117]⟩ : ByteArray)⟩ : S23)] : List (S23)) : List (S23))).bind fun y201 => (if (y201.length : Int) = 0 then (none) else (if 0 ≤ (Int.tmod (wrap64 (a0)) (y201.length : Int)) then (if (Int.tmod (wrap64 (a0)) (y201.length : Int)) < (y201.length : Int) then (some ((rd_T23 y201 (Int.tmod (wrap64 (a0)) (y201.length : Int))).f0, (rd_T23 y201 (Int.tmod (wrap64 (a0)) (y201.length : Int))).f1, (rd_T23 y201 (Int.tmod (wrap64 (a0)) (y201.length : Int))).f2)) else (none)) else (none)))) = some (r1, r2, r3) := h
  clear h
  obtain ⟨y201, hy201⟩ : ∃ y_ : List (S23), y_ = (([(⟨1, 3, (⟨#[97]⟩ : ByteArray)⟩ : S23), (⟨1, 1, (⟨#[101]⟩ : ByteArray)⟩ : S23), (⟨1, 2, (⟨#[111]⟩ : ByteArray)⟩ : S23), (⟨1, 3, (⟨#[105]⟩ : ByteArray)⟩ : S23), (⟨2, 2, (⟨#[97, 101]⟩ : ByteArray)⟩ : S23), (⟨3, 0, (⟨#[116]⟩ : ByteArray)⟩ : S23), (⟨3, 0, (⟨#[98]⟩ : ByteArray)⟩ : S23), (⟨4, 0, (⟨#[114]⟩ : ByteArray)⟩ : S23), (⟨4, 0, (⟨#[108]⟩ : ByteArray)⟩ : S23), (⟨5, 0, (⟨#[109]⟩ : ByteArray)⟩ : S23), (⟨5, 0, (⟨#[110]⟩ : ByteArray)⟩ : S23), (⟨6, 0, (⟨#[115]⟩ : ByteArray)⟩ : S23), (⟨7, 0, (⟨#[120]⟩ : ByteArray)⟩ : S23), (⟨8, 0, (⟨#[118]⟩ : ByteArray)⟩ : S23), (⟨9, 0, (⟨#[104]⟩ : ByteArray)⟩ : S23), (⟨1, 3, (⟨#[117]⟩ : ByteArray)⟩ : S23)] : List (S23))) := ⟨_, rfl⟩
  replace H : (if (y201.length : Int) = 0 then (none) else (if 0 ≤ (Int.tmod (wrap64 (a0)) (y201.length : Int)) then (if (Int.tmod (wrap64 (a0)) (y201.length : Int)) < (y201.length : Int) then (some ((rd_T23 y201 (Int.tmod (wrap64 (a0)) (y201.length : Int))).f0, (rd_T23 y201 (Int.tmod (wrap64 (a0)) (y201.length : Int))).f1, (rd_T23 y201 (Int.tmod (wrap64 (a0)) (y201.length : Int))).f2)) else (none)) else (none))) = some (r1, r2, r3) := by first | (rw [hy201]; with_reducible exact H) | (have H2_ := (Option.bind_some _ _).symm.trans H; rw [hy201]; with_reducible exact H2_) | (have H2_ := (Option.bind_some _ _).symm.trans H; with_reducible exact H2_) | with_reducible exact H | (rw [hy201]; exact H) | exact H
  have Ny201 := Aside0.mk hy201
  clear hy201
  by_cases c2 : (y201.length : Int) = 0
  · rw [if_pos c2] at H
    exact absurd H (by simp)
  · rw [if_neg c2] at H
    have c2b0 : ((y201.length : Int) == 0) = false := beq_eq_false_iff_ne.mpr c2
    have c2b1 : ((y201.length : Int) != 0) = true := bne_iff_ne.mpr c2
    have c2b2 : ¬ (y201 = []) := fun h_ => c2 (by rw [h_]; rfl)
    obtain ⟨ji3, hji3⟩ : ∃ j_ : Int, (Int.tmod (wrap64 (a0)) (y201.length : Int)) = j_ := ⟨_, rfl⟩
    replace H : (if 0 ≤ (ji3) then (if (ji3) < (y201.length : Int) then (some ((rd_T23 y201 (ji3)).f0, (rd_T23 y201 (ji3)).f1, (rd_T23 y201 (ji3)).f2)) else (none)) else (none)) = some (r1, r2, r3) := by first | (rw [hji3] at H; exact H) | (simp only [hji3] at H ⊢; exact H)
    by_cases c4 : 0 ≤ (ji3)
    · rw [if_pos c4] at H
      have c4b0 : decide (0 ≤ (ji3)) = true := decide_eq_true c4
      clear c4
      by_cases c5 : (ji3) < (y201.length : Int)
      · rw [if_pos c5] at H
        have c5b0 : decide ((ji3) < (y201.length : Int)) = true := decide_eq_true c5
        clear c5
        simp only [Option.some.injEq, Prod.mk.injEq] at H
        obtain ⟨rfl, rfl, rfl⟩ := H
        go_enter Tryd.func41, Tryd.ntmps41
        go_wp2_with (first | ((with_reducible refine gate_dst (N := 2) rfl ?_); refine box_event ?hg (N := 2) ?hd (cs := #[.int .i64 0, .int .i64 0, .string (⟨#[]⟩ : ByteArray)]) (t := 23) ?hr ?_; (case hd => rfl); (case hg => rfl); (case hr => first | (go_simp; done) | (go_simp; rfl)); intro gb200 hg w6 hbox hb; have n0_ := Aside0.mk (below_step (by repeat (first | (with_reducible first | exact HB.out | apply below_alloc | apply pw_below_drewN | apply below_drew1) | exact HB.out)) hb); have n1_ := Aside0.mk (hbox); have n2_ := Aside0.mk ((by rw [hg]; exact (below_size (by repeat (first | (with_reducible first | exact HB.out | apply below_alloc | apply pw_below_drewN | apply below_drew1) | exact HB.out))) : w.heap.size ≤ gb200)); have n3_ := Aside0.mk ((by rw [hg]; exact (below_size (by repeat (first | (with_reducible first | exact HB.out | apply below_alloc | apply pw_below_drewN | apply below_drew1) | exact HB.out))) : w.heap.size ≤ gb200)); clear HB; have HB := n0_; have BK200 := n1_; have GW200 := n2_; have GE200 := n3_; clear n0_ n1_ n2_ n3_; clear hb hbox hg) | ((with_reducible refine gate_dst (N := 20) rfl ?_); refine Kd.R_lit k23 _ 23 ?hg (N := 20) ?hd (xs := ([(⟨1, 3, (⟨#[97]⟩ : ByteArray)⟩ : S23), (⟨1, 1, (⟨#[101]⟩ : ByteArray)⟩ : S23), (⟨1, 2, (⟨#[111]⟩ : ByteArray)⟩ : S23), (⟨1, 3, (⟨#[105]⟩ : ByteArray)⟩ : S23), (⟨2, 2, (⟨#[97, 101]⟩ : ByteArray)⟩ : S23), (⟨3, 0, (⟨#[116]⟩ : ByteArray)⟩ : S23), (⟨3, 0, (⟨#[98]⟩ : ByteArray)⟩ : S23), (⟨4, 0, (⟨#[114]⟩ : ByteArray)⟩ : S23), (⟨4, 0, (⟨#[108]⟩ : ByteArray)⟩ : S23), (⟨5, 0, (⟨#[109]⟩ : ByteArray)⟩ : S23), (⟨5, 0, (⟨#[110]⟩ : ByteArray)⟩ : S23), (⟨6, 0, (⟨#[115]⟩ : ByteArray)⟩ : S23), (⟨7, 0, (⟨#[120]⟩ : ByteArray)⟩ : S23), (⟨8, 0, (⟨#[118]⟩ : ByteArray)⟩ : S23), (⟨9, 0, (⟨#[104]⟩ : ByteArray)⟩ : S23), (⟨1, 3, (⟨#[117]⟩ : ByteArray)⟩ : S23)] : List (S23))) (inner := [.int .i64 1, .int .i64 3, .string (⟨#[97]⟩ : ByteArray), .int .i64 1, .int .i64 1, .string (⟨#[101]⟩ : ByteArray), .int .i64 1, .int .i64 2, .string (⟨#[111]⟩ : ByteArray), .int .i64 1, .int .i64 3, .string (⟨#[105]⟩ : ByteArray), .int .i64 2, .int .i64 2, .string (⟨#[97, 101]⟩ : ByteArray), .int .i64 3, .int .i64 0, .string (⟨#[116]⟩ : ByteArray), .int .i64 3, .int .i64 0, .string (⟨#[98]⟩ : ByteArray), .int .i64 4, .int .i64 0, .string (⟨#[114]⟩ : ByteArray), .int .i64 4, .int .i64 0, .string (⟨#[108]⟩ : ByteArray), .int .i64 5, .int .i64 0, .string (⟨#[109]⟩ : ByteArray), .int .i64 5, .int .i64 0, .string (⟨#[110]⟩ : ByteArray), .int .i64 6, .int .i64 0, .string (⟨#[115]⟩ : ByteArray), .int .i64 7, .int .i64 0, .string (⟨#[120]⟩ : ByteArray), .int .i64 8, .int .i64 0, .string (⟨#[118]⟩ : ByteArray), .int .i64 9, .int .i64 0, .string (⟨#[104]⟩ : ByteArray), .int .i64 1, .int .i64 3, .string (⟨#[117]⟩ : ByteArray)]) (ok := fun _ => True) (okp := fun _ => True) ?hr ?hp (fun _ hk => hk) trivial (Below.refl _ _) (Nat.le_refl _) (by simp) ?_; (case hd => rfl); (case hg => rfl); (case hr => first | (go_simp; done) | (go_simp; rfl)); (case hp => exact (Reps.c3 (show Kd.M k23 _ _ _ (⟨1, 3, (⟨#[97]⟩ : ByteArray)⟩ : S23) [.int .i64 1, .int .i64 3, .string (⟨#[97]⟩ : ByteArray)] from (k23_mkM _ _ _ (⟨1, 3, (⟨#[97]⟩ : ByteArray)⟩ : S23) )) (Reps.c3 (show Kd.M k23 _ _ _ (⟨1, 1, (⟨#[101]⟩ : ByteArray)⟩ : S23) [.int .i64 1, .int .i64 1, .string (⟨#[101]⟩ : ByteArray)] from (k23_mkM _ _ _ (⟨1, 1, (⟨#[101]⟩ : ByteArray)⟩ : S23) )) (Reps.c3 (show Kd.M k23 _ _ _ (⟨1, 2, (⟨#[111]⟩ : ByteArray)⟩ : S23) [.int .i64 1, .int .i64 2, .string (⟨#[111]⟩ : ByteArray)] from (k23_mkM _ _ _ (⟨1, 2, (⟨#[111]⟩ : ByteArray)⟩ : S23) )) (Reps.c3 (show Kd.M k23 _ _ _ (⟨1, 3, (⟨#[105]⟩ : ByteArray)⟩ : S23) [.int .i64 1, .int .i64 3, .string (⟨#[105]⟩ : ByteArray)] from (k23_mkM _ _ _ (⟨1, 3, (⟨#[105]⟩ : ByteArray)⟩ : S23) )) (Reps.c3 (show Kd.M k23 _ _ _ (⟨2, 2, (⟨#[97, 101]⟩ : ByteArray)⟩ : S23) [.int .i64 2, .int .i64 2, .string (⟨#[97, 101]⟩ : ByteArray)] from (k23_mkM _ _ _ (⟨2, 2, (⟨#[97, 101]⟩ : ByteArray)⟩ : S23) )) (Reps.c3 (show Kd.M k23 _ _ _ (⟨3, 0, (⟨#[116]⟩ : ByteArray)⟩ : S23) [.int .i64 3, .int .i64 0, .string (⟨#[116]⟩ : ByteArray)] from (k23_mkM _ _ _ (⟨3, 0, (⟨#[116]⟩ : ByteArray)⟩ : S23) )) (Reps.c3 (show Kd.M k23 _ _ _ (⟨3, 0, (⟨#[98]⟩ : ByteArray)⟩ : S23) [.int .i64 3, .int .i64 0, .string (⟨#[98]⟩ : ByteArray)] from (k23_mkM _ _ _ (⟨3, 0, (⟨#[98]⟩ : ByteArray)⟩ : S23) )) (Reps.c3 (show Kd.M k23 _ _ _ (⟨4, 0, (⟨#[114]⟩ : ByteArray)⟩ : S23) [.int .i64 4, .int .i64 0, .string (⟨#[114]⟩ : ByteArray)] from (k23_mkM _ _ _ (⟨4, 0, (⟨#[114]⟩ : ByteArray)⟩ : S23) )) (Reps.c3 (show Kd.M k23 _ _ _ (⟨4, 0, (⟨#[108]⟩ : ByteArray)⟩ : S23) [.int .i64 4, .int .i64 0, .string (⟨#[108]⟩ : ByteArray)] from (k23_mkM _ _ _ (⟨4, 0, (⟨#[108]⟩ : ByteArray)⟩ : S23) )) (Reps.c3 (show Kd.M k23 _ _ _ (⟨5, 0, (⟨#[109]⟩ : ByteArray)⟩ : S23) [.int .i64 5, .int .i64 0, .string (⟨#[109]⟩ : ByteArray)] from (k23_mkM _ _ _ (⟨5, 0, (⟨#[109]⟩ : ByteArray)⟩ : S23) )) (Reps.c3 (show Kd.M k23 _ _ _ (⟨5, 0, (⟨#[110]⟩ : ByteArray)⟩ : S23) [.int .i64 5, .int .i64 0, .string (⟨#[110]⟩ : ByteArray)] from (k23_mkM _ _ _ (⟨5, 0, (⟨#[110]⟩ : ByteArray)⟩ : S23) )) (Reps.c3 (show Kd.M k23 _ _ _ (⟨6, 0, (⟨#[115]⟩ : ByteArray)⟩ : S23) [.int .i64 6, .int .i64 0, .string (⟨#[115]⟩ : ByteArray)] from (k23_mkM _ _ _ (⟨6, 0, (⟨#[115]⟩ : ByteArray)⟩ : S23) )) (Reps.c3 (show Kd.M k23 _ _ _ (⟨7, 0, (⟨#[120]⟩ : ByteArray)⟩ : S23) [.int .i64 7, .int .i64 0, .string (⟨#[120]⟩ : ByteArray)] from (k23_mkM _ _ _ (⟨7, 0, (⟨#[120]⟩ : ByteArray)⟩ : S23) )) (Reps.c3 (show Kd.M k23 _ _ _ (⟨8, 0, (⟨#[118]⟩ : ByteArray)⟩ : S23) [.int .i64 8, .int .i64 0, .string (⟨#[118]⟩ : ByteArray)] from (k23_mkM _ _ _ (⟨8, 0, (⟨#[118]⟩ : ByteArray)⟩ : S23) )) (Reps.c3 (show Kd.M k23 _ _ _ (⟨9, 0, (⟨#[104]⟩ : ByteArray)⟩ : S23) [.int .i64 9, .int .i64 0, .string (⟨#[104]⟩ : ByteArray)] from (k23_mkM _ _ _ (⟨9, 0, (⟨#[104]⟩ : ByteArray)⟩ : S23) )) (Reps.c3 (show Kd.M k23 _ _ _ (⟨1, 3, (⟨#[117]⟩ : ByteArray)⟩ : S23) [.int .i64 1, .int .i64 3, .string (⟨#[117]⟩ : ByteArray)] from (k23_mkM _ _ _ (⟨1, 3, (⟨#[117]⟩ : ByteArray)⟩ : S23) )) (Reps.none _ _)))))))))))))))))); intro v202 w7 ho8 hb hg_ hnew_; clear hg_ hnew_; (first | rw [← Ny201.out] at ho8 | (simp only [Int.reduceToNat] at ho8; rw [← Ny201.out] at ho8)); have n0_ := Aside0.mk (Kd.R_lower (Kd.R_newB ho8 (g := gb200) (o := .cells #[.int .i64 0, .int .i64 0, .string (⟨#[]⟩ : ByteArray)] 23 (0, 0)) (by (with_reducible repeat (first | refine blk_drewN ?_ _ | refine blk_drew ?_ | refine blk_alloc ?_ _)); exact BK200.out)) (below_size (by repeat (first | (with_reducible first | exact HB.out | apply below_alloc | apply pw_below_drewN | apply below_drew1 | refine below_set ?_ GE200.out) | exact HB.out)))); have n1_ := Aside0.mk (blk_below (g := gb200) (o := .cells #[.int .i64 0, .int .i64 0, .string (⟨#[]⟩ : ByteArray)] 23 (0, 0)) (by (with_reducible repeat (first | refine blk_drewN ?_ _ | refine blk_drew ?_ | refine blk_alloc ?_ _)); exact BK200.out) hb); have n2_ := Aside0.mk (below_step (by repeat (first | (with_reducible first | exact HB.out | apply below_alloc | apply pw_below_drewN | apply below_drew1 | refine below_set ?_ GE200.out) | exact HB.out)) hb); clear BK200; clear HB; have HO203 := n0_; have BK200 := n1_; have HB := n2_; clear n0_ n1_ n2_; clear hb ho8; obtain ⟨Ao9, co9, eo9⟩ := Kd.R_slice HO203.out; subst eo9; have p204 : 0 ≤ ((ji3) : Int) := of_decide_eq_true (by first | (with_reducible assumption) | assumption); have q204 : (ji3) < (y201.length : Int) := of_decide_eq_true (by first | (with_reducible assumption) | assumption); obtain ⟨ad204, e204, hx204_0, hx204_1, hx204_2⟩ := at_T23 (Kd.R_reads' HO203.out).2.2 (ji3) p204 q204; cases e204; replace p204 := eq_true p204; replace q204 := eq_true q204; have hcz10_0 : w7.cell? ⟨gb200, 0, none⟩ = some (.int .i64 0) := (blk_cell BK200.out 0).trans rfl; have hcz10_1 : w7.cell? ⟨gb200, 1, none⟩ = some (.int .i64 0) := (blk_cell BK200.out 1).trans rfl; have hcz10_2 : w7.cell? ⟨gb200, 2, none⟩ = some (.string (⟨#[]⟩ : ByteArray)) := (blk_cell BK200.out 2).trans rfl; have hfz10_0 := blk_frozen BK200.out 0; have hfz10_1 := blk_frozen BK200.out 1; have hfz10_2 := blk_frozen BK200.out 2))
        refine bodyPost_ret (results_cell_row rfl _ _ gb200 23 #[.int .i64 ((rd_T23 y201 (ji3)).f0), .int .i64 ((rd_T23 y201 (ji3)).f1), .string ((rd_T23 y201 (ji3)).f2)] (0, 0) _ rfl (by (with_reducible repeat (first | refine blk_drewN ?_ _ | refine blk_drew ?_ | refine blk_alloc ?_ _)); refine blk_put (cs := #[.int .i64 ((rd_T23 y201 (ji3)).f0), .int .i64 ((rd_T23 y201 (ji3)).f1), .string (⟨#[]⟩ : ByteArray)]) ?_ 2 _ rfl; (with_reducible repeat (first | refine blk_drewN ?_ _ | refine blk_drew ?_ | refine blk_alloc ?_ _)); refine blk_put (cs := #[.int .i64 ((rd_T23 y201 (ji3)).f0), .int .i64 0, .string (⟨#[]⟩ : ByteArray)]) ?_ 1 _ rfl; (with_reducible repeat (first | refine blk_drewN ?_ _ | refine blk_drew ?_ | refine blk_alloc ?_ _)); refine blk_put (cs := #[.int .i64 0, .int .i64 0, .string (⟨#[]⟩ : ByteArray)]) ?_ 0 _ rfl; (with_reducible repeat (first | refine blk_drewN ?_ _ | refine blk_drew ?_ | refine blk_alloc ?_ _)); exact BK200.out) Tryd.underlying23 rfl (by kernel_rfl)) rfl ?_
        exact ⟨by first | rfl | (simp [errW_none, errW_some] <;> rfl) | (simp only [← hji3]; first | rfl | (simp [errW_none, errW_some] <;> rfl)) | (simp [*, errW_none, errW_some] <;> rfl), by repeat (first | (with_reducible first | exact HB.out | apply below_alloc | apply pw_below_drewN | apply below_drew1 | refine below_set ?_ GE200.out) | exact HB.out)⟩
      · rw [if_neg c5] at H
        exact absurd H (by simp)
    · rw [if_neg c4] at H
      exact absurd H (by simp)

/-! ### ancepsref11_All: function 17 -/
def ancepsref11_All.l0 : Nat → List Int → List (S23) → Int → Option ((List (S23)))
  | 0, _, _, _ => none
  | k + 1, x0, x3, x4 => if x4 < (x0.length : Int) then (if 0 ≤ x4 then ((ancepsref11_Made.f (rd x0 x4)).bind fun bt206 => (if x3.length < 4398046511104 then (ancepsref11_All.l0 k x0 (x3 ++ [(⟨bt206.1, bt206.2.1, bt206.2.2⟩ : S23)]) (wrap64 (x4 + 1))) else (none))) else (none)) else (some x3)
def ancepsref11_All.f (k : Nat) (l0 : List Int) : Option ((List (S23))) := ancepsref11_All.l0 k l0 ([] : List (S23)) 0
theorem ancepsref11_All.mono_l : ∀ k, (∀ y0 y1 y2, LeO (ancepsref11_All.l0 k y0 y1 y2) (ancepsref11_All.l0 (k + 1) y0 y1 y2))
  | 0 => fun _ _ _ r h => by simp [ancepsref11_All.l0] at h
  | k + 1 => by
    have ih0 := ancepsref11_All.mono_l k
    · intro y0 y1 y2
      unfold ancepsref11_All.l0
      repeat' first
      | (with_reducible exact ih0 _ _ _)
      | (with_reducible exact LeO.refl _)
      | (with_reducible exact LeO.none _)
      | (with_reducible refine LeO.ite ?_ ?_)
      | (with_reducible refine LeO.bind ?_ (fun _ => ?_))
      | exact ih0 _ _ _
      | exact LeO.none _
      | refine LeO.ite ?_ ?_
      | refine LeO.bind ?_ (fun _ => ?_)
theorem ancepsref11_All.mono : ∀ a0 k, LeO (ancepsref11_All.f k a0) (ancepsref11_All.f (k + 1) a0) := by
  intro a0 k
  have ih0 := ancepsref11_All.mono_l k
  unfold ancepsref11_All.f
  repeat' first
      | (with_reducible exact ih0 _ _ _)
      | (with_reducible exact LeO.refl _)
      | (with_reducible exact LeO.none _)
      | (with_reducible refine LeO.ite ?_ ?_)
      | (with_reducible refine LeO.bind ?_ (fun _ => ?_))
      | exact ih0 _ _ _
      | exact LeO.none _
      | refine LeO.ite ?_ ?_
      | refine LeO.bind ?_ (fun _ => ?_)
set_option maxHeartbeats 8000000 in
set_option maxRecDepth 100000 in
theorem ancepsref11_All.calls (k : Nat) (A0 : Option Addr) (c0 : Nat) (l0 : List Int) (r : List (S23)) (w : World) (hr0 : Kd.C (Kd.int .u8) w A0 l0.length l0) (hc0 : l0.length ≤ c0) (h : ancepsref11_All.f k l0 = some r) :
    Calls Tryd.prog 17 #[.slice A0 l0.length c0] w fun e w' => ∃ v0_ : Value, e = .returned (v0_) ∧ Kd.R k23 23 w' w.heap.size (fun _ => True) v0_ r ∧ Below w.heap.size w w' := by
  have HR0 := Aside0.mk hr0
  have HC0 := Aside0.mk hc0
  clear hr0 hc0
  have HB := Aside0.mk (Below.refl w.heap.size w)
  have H : (ancepsref11_All.l0 k l0 ([] : List (S23)) 0) = some r := h
  clear h
  have H' := Aside0.mk H
  clear H
  go_enter Tryd.func17, Tryd.ntmps17
  go_wp2
  go_loopg [3, 4] k (fun kq v3 v4 w' => ∃ (x3_1 : List (S23)) (x4_1 : Int), v4 = .int .i64 x4_1 ∧ Aside0 (ancepsref11_All.l0 kq l0 x3_1 x4_1 = some r) ∧ Aside0 (kq ≤ k) ∧ Aside0 (Kd.R k23 23 w' w.heap.size (fun _ => True) v3 x3_1) ∧ Aside0 (Below w.heap.size w w'))
  case atStart => exact ⟨(([] : List (S23))), (0), (by first | rfl | (simp; done) | (simp [*]; done)), H', ⟨Nat.le_refl _⟩, ⟨by first | exact Kd.R_nil _ _ _ _ _ | exact Kd.N_nil _ _ _ _ _ | exact Kd.V_nil _ _ _ _ _ | exact Kd.Q_nil _ _ _ _ _ | exact Kd.S_nil _ _ _ _ _⟩, ⟨by repeat (first | (with_reducible first | exact HB.out | apply below_alloc | apply pw_below_drewN | apply below_drew1) | exact HB.out)⟩⟩
  case round =>
    clear H'
    try clear c1
    obtain ⟨x3_1, x4_1, rfl, HA, HK1, HO_3, HB⟩ := hrel
    cases gk with
    | zero => exact absurd HA.out (by simp [ancepsref11_All.l0])
    | succ k1 =>
      have H := HA.out
      clear HA
      simp only [ancepsref11_All.l0] at H
      by_cases c2 : x4_1 < (l0.length : Int)
      · rw [if_pos c2] at H
        have c2b0 : decide (x4_1 < (l0.length : Int)) = true := decide_eq_true c2
        clear c2
        by_cases c3 : 0 ≤ x4_1
        · rw [if_pos c3] at H
          have c3b0 : decide (0 ≤ x4_1) = true := decide_eq_true c3
          clear c3
          replace H := Option.bind_eq_some_iff.mp H
          obtain ⟨⟨t206, t207, t208⟩, A40, H⟩ := H
          replace H : (if x3_1.length < 4398046511104 then (ancepsref11_All.l0 k1 l0 (x3_1 ++ [(⟨t206, t207, t208⟩ : S23)]) (wrap64 (x4_1 + 1))) else (none)) = some r := H
          have A4 := Aside0.mk A40
          clear A40
          by_cases c5 : x3_1.length < 4398046511104
          · rw [if_pos c5] at H
            have LMc5 := Aside0.mk c5
            clear c5
            obtain ⟨y209, hy209⟩ : ∃ y_ : List (S23), y_ = (x3_1 ++ [(⟨t206, t207, t208⟩ : S23)]) := ⟨_, rfl⟩
            replace H : (ancepsref11_All.l0 k1 l0 y209 (wrap64 (x4_1 + 1))) = some r := by first | (rw [hy209]; with_reducible exact H) | (have H2_ := (Option.bind_some _ _).symm.trans H; rw [hy209]; with_reducible exact H2_) | (have H2_ := (Option.bind_some _ _).symm.trans H; with_reducible exact H2_) | with_reducible exact H | (rw [hy209]; exact H) | exact H
            have Ny209 := Aside0.mk hy209
            clear hy209
            have H' := Aside0.mk H
            clear H
            have p205 : 0 ≤ (x4_1 : Int) := of_decide_eq_true (by first | (with_reducible assumption) | assumption)
            have q205 : x4_1 < (l0.length : Int) := of_decide_eq_true (by first | (with_reducible assumption) | assumption)
            obtain ⟨ad205, e205, hx205_0⟩ := Kd.at_int HR0.out x4_1 p205 q205
            cases e205
            replace hx205_0 := (HB.out.cell (World.block_lt_of_cell? w _ hx205_0)).trans hx205_0
            replace p205 := eq_true p205
            replace q205 := eq_true q205
            go_wp2_with (first | ((with_reducible refine gate_callee (f := 41) rfl ?_); refine goesL_ (some 16) rfl rfl Tryd.func41 (by kernel_rfl) rfl #[.int .u8 (rd l0 x4_1)] rfl (by (try simp only [List.map_toArray, List.map_cons, List.map_nil]); first | done | rfl | (simp only [List.length_drop, List.length_take]; rfl)) ?_; (with_reducible refine (ancepsref11_Made.calls (rd l0 x4_1) t206 t207 t208 _ A4.out).mono ?_); rintro e w6 ⟨rfl, hb⟩; refine ⟨_, rfl, ?_⟩; have n0_ := Aside0.mk (Kd.R_below (by (with_reducible repeat (first | apply Kd.R_alloc | apply Kd.R_drewN | apply Kd.R_drew)); exact HO_3.out) hb); have n1_ := Aside0.mk (below_step (by repeat (first | (with_reducible first | exact HB.out | apply below_alloc | apply pw_below_drewN | apply below_drew1) | exact HB.out)) hb); clear HO_3; clear HB; have HO_3 := n0_; have HB := n1_; clear n0_ n1_; (try clear hb); (try clear hb2); (try clear hk); (try clear hi)) | ((with_reducible refine gate_builtin (b := .append) (xs := #[.tmp 11, .tmp 17]) rfl ?_); at_builtin; refine Kd.R_append k23 (w0 := w) w.heap.size rfl (.tmp 11) (.tmp 17) 26 23 (.agg #[(.int .i64 0), (.int .i64 0), (.string ⟨#[]⟩)]) 32 rfl Tryd.underlying26 info23 rfl (by decide) (by omega) u3 x3_1 (⟨t206, t207, t208⟩ : S23) [.int .i64 t206, .int .i64 t207, .string t208] (fun _ => True) (fun _ => False) rfl rfl ?aP (fun _ hk => hk.elim) ?aF ?aO ?aB ?aS ?aL ?_; (case aP => exact k23_mkM _ _ _ (⟨t206, t207, t208⟩ : S23)); (case aB => exact (by repeat (first | (with_reducible first | exact HB.out | apply below_alloc | apply pw_below_drewN | apply below_drew1) | exact HB.out))); (case aF => exact (fun _ _ => trivial)); (case aO => exact (by (with_reducible repeat (first | apply Kd.R_alloc | apply Kd.R_drewN | apply Kd.R_drew)); exact HO_3.out)); (case aS => exact (below_size (by repeat (first | (with_reducible first | exact HB.out | apply below_alloc | apply pw_below_drewN | apply below_drew1) | exact HB.out)))); (case aL => have := LMc5.out; omega); intro v210 w7 ho hb hg hat; rw [← Ny209.out] at ho; have n0_ := Aside0.mk (hb); have n1_ := Aside0.mk (ho); clear HB; clear HO_3; have HB := n0_; have HO211 := n1_; clear n0_ n1_; clear ho hb hg hat))
            go_roundg k1
            case measure => have := HK1.out; omega
            case rel => exact ⟨(y209), (wrap64 (x4_1 + 1)), (by first | rfl | (simp; done) | (simp [*]; done)), H', ⟨by have := HK1.out; omega⟩, ⟨by (with_reducible repeat (first | apply Kd.R_alloc | apply Kd.R_drewN | apply Kd.R_drew)); exact HO211.out⟩, ⟨by repeat (first | (with_reducible first | exact HB.out | apply below_alloc | apply pw_below_drewN | apply below_drew1) | exact HB.out)⟩⟩
          · rw [if_neg c5] at H
            exact absurd H (by simp)
        · rw [if_neg c3] at H
          exact absurd H (by simp)
      · rw [if_neg c2] at H
        have c2b0 : decide (x4_1 < (l0.length : Int)) = false := decide_eq_false c2
        clear c2
        obtain rfl := Option.some.inj H
        go_wp2
        go_ret
        exact ⟨_, by first | rfl | (simp [errW_none, errW_some] <;> rfl) | (simp [*, errW_none, errW_some] <;> rfl), by (with_reducible repeat (first | apply Kd.R_alloc | apply Kd.R_drewN | apply Kd.R_drew)); exact HO_3.out, by repeat (first | (with_reducible first | exact HB.out | apply below_alloc | apply pw_below_drewN | apply below_drew1) | exact HB.out)⟩

end Go.Proofs.YtnjiniegpjfemaaDoor.X
