-- and more
-- shortened
-- thinned
-- halved indents
-- printed by this session's xprint.py: out of the translation, by the kit's print with additions; Lean checks it
import Derived.Test.YtdaooagikacboaaXE
import Derived.Test.YtdaooagikacboaaXC
import Derived.Test.YtdaooagikacboaaWN
import Derived.Test.YtdaooagikacboaaWShare
import Derived.Test.YtdaooagikacboaaWRepsOne
import Derived.Test.YtdaooagikacboaaX0
import Derived.Test.YtdaooagikacboaaXA
namespace Go.Proofs.Ytdaooagikacboaa.X
open Go.RowKit Go.Proofs.YtdaooagikacboaaW.PrintWords Go.Proofs.YtdaooagikacboaaW.PrintLast Go.Proofs.YtdaooagikacboaaW.PrintMore
attribute [local go_sem] max2_int min2_int max_two min_two max_three min_three max_four min_four isSome_setCell binOp_gtr_str binOp_leq_str binOp_geq_str   -- for this text's walks alone
set_option linter.unusedVariables false
set_option linter.unusedSimpArgs false

/-! ### ancepsref54_spell: function 44 -/
mutual
def ancepsref54_spell.j0 : Nat → List (S46) → Int → List Int → List ByteArray → Option (List ByteArray)
 | 0, _, _, _, _ => none
 | k + 1, x0, x1, x2, x7 => ancepsref54_spell.l0 k x0 x1 x2 x7 0
def ancepsref54_spell.l0 : Nat → List (S46) → Int → List Int → List ByteArray → Int → Option (List ByteArray)
 | 0, _, _, _, _, _ => none
 | k + 1, x0, x1, x2, x7, x8 => if 0 ≤ x1 then (if x1 < (x0.length : Int) then (if x8 < (((rd_T46 x0 x1).f2).length : Int) then (if 0 ≤ x8 then ((some (([] : List Int) : List Int)).bind fun y258 => (if y258.length + x2.length < 140737488355328 then ((some (y258 ++ x2 : List Int)).bind fun y261 => (if 0 ≤ (rd ((rd_T46 x0 x1).f2) x8) then (if (rd ((rd_T46 x0 x1).f2) x8) < (x0.length : Int) then ((some (([((rd_T46 x0 (rd ((rd_T46 x0 x1).f2) x8)).f0) % 256] : List Int) : List Int)).bind fun y265 => (if y261.length + y265.length < 140737488355328 then ((ancepsref54_spell.f k x0 (rd ((rd_T46 x0 x1).f2) x8) (y261 ++ y265)).bind fun t271 => (if x7.length + t271.length < 8796093022208 then (ancepsref54_spell.l0 k x0 x1 x2 (x7 ++ t271) (wrap64 (x8 + 1))) else (none))) else (none))) else (none)) else (none))) else (none))) else (none)) else (some x7)) else (none)) else (none)
def ancepsref54_spell.f : Nat → List (S46) → Int → List Int → Option (List ByteArray)
 | 0, _, _, _ => none
 | k + 1, l0, a1, l2 => if 0 ≤ a1 then (if a1 < (l0.length : Int) then (if (rd_T46 l0 a1).f1 = true then ((some (([strOfNums l2] : List ByteArray) : List ByteArray)).bind fun y249 => (if ([] : List ByteArray).length + y249.length < 8796093022208 then (ancepsref54_spell.j0 k l0 a1 l2 (([] : List ByteArray) ++ y249)) else (none))) else (ancepsref54_spell.j0 k l0 a1 l2 ([] : List ByteArray))) else (none)) else (none)
end
theorem ancepsref54_spell.mono_l : ∀ k, (∀ y0 y1 y2, LeO (ancepsref54_spell.f k y0 y1 y2) (ancepsref54_spell.f (k + 1) y0 y1 y2)) ∧ (∀ y0 y1 y2 y3, LeO (ancepsref54_spell.j0 k y0 y1 y2 y3) (ancepsref54_spell.j0 (k + 1) y0 y1 y2 y3)) ∧ (∀ y0 y1 y2 y3 y4, LeO (ancepsref54_spell.l0 k y0 y1 y2 y3 y4) (ancepsref54_spell.l0 (k + 1) y0 y1 y2 y3 y4))
 | 0 => ⟨fun _ _ _ r h => by simp [ancepsref54_spell.f] at h, fun _ _ _ _ r h => by simp [ancepsref54_spell.j0] at h, fun _ _ _ _ _ r h => by simp [ancepsref54_spell.l0] at h⟩
 | k + 1 => by
  obtain ⟨ih0, ih1, ih2⟩ := ancepsref54_spell.mono_l k
  refine ⟨?_, ?_, ?_⟩
  ·intro y0 y1 y2
   unfold ancepsref54_spell.f
   repeat' first
   | (with_reducible exact ih0 _ _ _)
   | (with_reducible exact ih1 _ _ _ _)
   | (with_reducible exact ih2 _ _ _ _ _)
   | (with_reducible exact LeO.refl _)
   | (with_reducible exact LeO.none _)
   | (with_reducible refine LeO.ite ?_ ?_)
   | (with_reducible refine LeO.bind ?_ (fun _ => ?_))
   | exact ih0 _ _ _
   | exact ih1 _ _ _ _
   | exact ih2 _ _ _ _ _
   | exact LeO.none _
   | refine LeO.ite ?_ ?_
   | refine LeO.bind ?_ (fun _ => ?_)
  ·intro y0 y1 y2 y3
   unfold ancepsref54_spell.j0
   repeat' first
   | (with_reducible exact ih0 _ _ _)
   | (with_reducible exact ih1 _ _ _ _)
   | (with_reducible exact ih2 _ _ _ _ _)
   | (with_reducible exact LeO.refl _)
   | (with_reducible exact LeO.none _)
   | (with_reducible refine LeO.ite ?_ ?_)
   | (with_reducible refine LeO.bind ?_ (fun _ => ?_))
   | exact ih0 _ _ _
   | exact ih1 _ _ _ _
   | exact ih2 _ _ _ _ _
   | exact LeO.none _
   | refine LeO.ite ?_ ?_
   | refine LeO.bind ?_ (fun _ => ?_)
  ·intro y0 y1 y2 y3 y4
   unfold ancepsref54_spell.l0
   repeat' first
   | (with_reducible exact ih0 _ _ _)
   | (with_reducible exact ih1 _ _ _ _)
   | (with_reducible exact ih2 _ _ _ _ _)
   | (with_reducible exact LeO.refl _)
   | (with_reducible exact LeO.none _)
   | (with_reducible refine LeO.ite ?_ ?_)
   | (with_reducible refine LeO.bind ?_ (fun _ => ?_))
   | exact ih0 _ _ _
   | exact ih1 _ _ _ _
   | exact ih2 _ _ _ _ _
   | exact LeO.none _
   | refine LeO.ite ?_ ?_
   | refine LeO.bind ?_ (fun _ => ?_)
theorem ancepsref54_spell.mono : ∀ a0 a1 a2 k, LeO (ancepsref54_spell.f k a0 a1 a2) (ancepsref54_spell.f (k + 1) a0 a1 a2) := by
 intro a0 a1 a2 k
 obtain ⟨ih0, ih1, ih2⟩ := ancepsref54_spell.mono_l k
 exact ih0 a0 a1 a2
def ancepsref54_spell.T8 : Bool × List (List Nat × List Nat) := (true, [([], []), ([], []), ([], []), ([], []), ([], []), ([3, 4], [3, 4]), ([], []), ([], []), ([6, 7], [6, 7]), ([8], [8]), ([9], [9]), ([10], [10]), ([11], [11]), ([5, 12, 5], [5, 12]), ([1, 2, 13, 13], [1, 2, 13]), ([0, 14, 14], [0, 14]), ([15, 15, 0, 1, 2, 3, 4, 5, 6, 7, 8, 9, 10, 11, 12, 13, 14, 15], [0, 15])])
def ancepsref54_spell.B8 : List Nat := [0, 0, 0, 0, 0, 24, 0, 0, 192, 448, 960, 1984, 4032, 8184, 16382, 32767, 65535]
theorem ancepsref54_spell.tab8 : rtab .any (opsOf Try.f44 8) = ancepsref54_spell.T8 := by kernel_rfl
theorem ancepsref54_spell.bits8 : waitsOk ancepsref54_spell.T8.2 ancepsref54_spell.B8 = true := by kernel_rfl
set_option maxHeartbeats 8000000 in
set_option maxRecDepth 100000 in
theorem ancepsref54_spell.calls (k : Nat) : ∀ (A0 : Option Addr) (c0 : Nat) (l0 : List (S46)) (a1 : Int) (A2 : Option Addr) (c2 : Nat) (l2 : List Int) (r : List ByteArray) (w : World) (hr0 : Kd.C k46 w A0 l0.length l0) (hc0 : l0.length ≤ c0) (hr2 : Kd.C (Kd.int .u8) w A2 l2.length l2) (hc2 : l2.length ≤ c2) (h : ancepsref54_spell.f k l0 a1 l2 = some r),
  Calls Try.prog 44 #[.slice A0 l0.length c0, .int .i64 a1, .slice A2 l2.length c2] w fun e w' => ∃ v0_ : Value, e = .returned (v0_) ∧ Kd.R Kd.string 9 w' w.heap.size (fun _ => True) v0_ r ∧ Below w.heap.size w w' := by
 induction k using Nat.strongRecOn with
 | _ k ih =>
 intro A0 c0 l0 a1 A2 c2 l2 r w hr0 hc0 hr2 hc2 h
 cases k with
 | zero => exact absurd h (by simp [ancepsref54_spell.f])
 | succ k =>
 simp only [ancepsref54_spell.f] at h
 have HR0 := Aside0.mk hr0
 have HC0 := Aside0.mk hc0
 clear hr0 hc0
 have HR2 := Aside0.mk hr2
 have HC2 := Aside0.mk hc2
 clear hr2 hc2
 have HB := Aside0.mk (Below.refl w.heap.size w)
 have H : (if 0 ≤ a1 then (if a1 < (l0.length : Int) then (if (rd_T46 l0 a1).f1 = true then ((some (([strOfNums l2] : List ByteArray) : List ByteArray)).bind fun y249 => (if ([] : List ByteArray).length + y249.length < 8796093022208 then (ancepsref54_spell.j0 k l0 a1 l2 (([] : List ByteArray) ++ y249)) else (none))) else (ancepsref54_spell.j0 k l0 a1 l2 ([] : List ByteArray))) else (none)) else (none)) = some r := h
 clear h
 by_cases c4 : 0 ≤ a1
 ·rw [if_pos c4] at H
  have c4b0 : decide (0 ≤ a1) = true := decide_eq_true c4
  clear c4
  by_cases c5 : a1 < (l0.length : Int)
  ·rw [if_pos c5] at H
   have c5b0 : decide (a1 < (l0.length : Int)) = true := decide_eq_true c5
   clear c5
   have HC6 := Aside0.mk H
   clear H
   have p248 := oD (0 ≤ (a1 : Int))
   have q248 := oD (a1 < (l0.length : Int))
   obtain ⟨ad248, A248_2, c248_2, e248, hx248_0, hx248_1, hx248_2, hl248_2, hi248_2⟩ := at_T46 HR0.out a1 p248 q248
   cases e248
   have HR248_2 := Aside0.mk hi248_2
   have HC248_2 := Aside0.mk hl248_2
   clear hi248_2 hl248_2
   replace p248 := eq_true p248
   replace q248 := eq_true q248
   go_enter Try.func44, Try.ntmps44
   go_upto_if 14 with (fail)
   go_cut [7] (fun v7 wc => ∃ (kq : Nat) (x7_5 : List ByteArray), Aside0 (ancepsref54_spell.j0 kq l0 a1 l2 x7_5 = some r) ∧ Aside0 (kq ≤ k) ∧ Aside0 (Kd.R Kd.string 9 wc w.heap.size (fun _ => True) v7 x7_5) ∧ Aside0 (Below w.heap.size w wc))
   case first =>
    have H := HC6.out
    clear HC6
    obtain ⟨bq7, hbq7⟩ : ∃ b_ : Bool, b_ = ((rd_T46 l0 a1).f1) := ⟨_, rfl⟩
    replace H : (if bq7 = true then ((some (([strOfNums l2] : List ByteArray) : List ByteArray)).bind fun y249 => (if ([] : List ByteArray).length + y249.length < 8796093022208 then (ancepsref54_spell.j0 k l0 a1 l2 (([] : List ByteArray) ++ y249)) else (none))) else (ancepsref54_spell.j0 k l0 a1 l2 ([] : List ByteArray))) = some r := by rw [← hbq7] at H; exact H
    have Nbq7 := Aside0.mk hbq7
    clear hbq7
    (try rw [← Nbq7.out])
    by_cases c8 : bq7 = true
    ·subst c8
     have H1 : ((some (([strOfNums l2] : List ByteArray) : List ByteArray)).bind fun y249 => (if ([] : List ByteArray).length + y249.length < 8796093022208 then (ancepsref54_spell.j0 k l0 a1 l2 (([] : List ByteArray) ++ y249)) else (none))) = some r := by rw [if_pos rfl] at H; exact H
     clear H
     have H := H1
     clear H1
     obtain ⟨y249, hy249⟩ : ∃ y_ : List ByteArray, y_ = (([strOfNums l2] : List ByteArray)) := ⟨_, rfl⟩
     replace H : (if ([] : List ByteArray).length + y249.length < 8796093022208 then (ancepsref54_spell.j0 k l0 a1 l2 (([] : List ByteArray) ++ y249)) else (none)) = some r := by first | (rw [hy249]; with_reducible exact H) | (have H2_ := (Option.bind_some _ _).symm.trans H; rw [hy249]; with_reducible exact H2_) | (have H2_ := (Option.bind_some _ _).symm.trans H; with_reducible exact H2_) | with_reducible exact H | (rw [hy249]; exact H) | exact H
     have Ny249 := Aside0.mk hy249
     clear hy249
     by_cases c9 : ([] : List ByteArray).length + y249.length < 8796093022208
     ·rw [if_pos c9] at H
      have LMc9 := Aside0.mk c9
      clear c9
      obtain ⟨y252, hy252⟩ : ∃ y_ : List ByteArray, y_ = (([] : List ByteArray) ++ y249) := ⟨_, rfl⟩
      replace H : (ancepsref54_spell.j0 k l0 a1 l2 y252) = some r := by first | (rw [hy252]; with_reducible exact H) | (have H2_ := (Option.bind_some _ _).symm.trans H; rw [hy252]; with_reducible exact H2_) | (have H2_ := (Option.bind_some _ _).symm.trans H; with_reducible exact H2_) | with_reducible exact H | (rw [hy252]; exact H) | exact H
      have Ny252 := Aside0.mk hy252
      clear hy252
      have H' := Aside0.mk H
      clear H
      have hcv10 := Kd.C_string (P := Try.prog) (A := A2) (c := c2) Try.underlying22 Try.underlying5 Try.underlying9 (Kd.C_below HR2.out HB.out)
      go_wp2_with (first | ((with_reducible refine gate_dst (N := 18) rfl ?_); refine Kd.R_lit Kd.string _ 9 ?hg (N := 18) ?hd (xs := ([strOfNums l2] : List ByteArray)) (inner := [.string (strOfNums l2)]) (ok := fun _ => True) (okp := fun _ => True) ?hr ?hp (fun _ hk => hk) trivial (Below.refl _ _) (Nat.le_refl _) (by simp) ?_; (case hd | hg => rfl); (case hr => first | (go_simp; done) | (go_simp; rfl)); (case hp => exact (Reps.one (show Kd.M Kd.string _ _ _ (strOfNums l2) [.string (strOfNums l2)] from rfl) (Reps.none _ _))); intro v250 w11 ho12 hb hg_ hnew_; clear hg_ hnew_; (first | rw [← Ny249.out] at ho12 | (simp only [Int.reduceToNat] at ho12; rw [← Ny249.out] at ho12)); have n0_ := Aside0.mk (Kd.R_lower ho12 (below_size (iL HB))); have n1_ := jL HB hb; clear HB; have HO251 := n0_; have HB := n1_; clear n0_ n1_; clear hb ho12; obtain ⟨Ao14, co14, eo14⟩ := Kd.R_slice HO251.out; subst eo14) | ((with_reducible refine gate_builtin (b := .append) (xs := #[.tmp 15, .tmp 18]) rfl ?_); at_builtin; refine Kd.R_append_rows Kd.string (w0 := w) w.heap.size rfl (.tmp 15) (.tmp 18) 24 9 (.string ⟨#[]⟩) 16 rfl Try.underlying24 info9 rfl (by decide) (by omega) (.slice none 0 0) ([] : List ByteArray) y249 _ _ _ (fun k_ => some k_ ≠ (.slice Ao14 y249.length co14 : Value).ownBlock) (fun _ => False) rfl rfl ?aO ?aR (fun _ _ h => h) (fun _ h => h.elim) ?aF ?aB ?aS ?aL ?_; (case aR => repeat (first | exact (Kd.R_reads' HO251.out).2.2 | (with_reducible refine Kd.C_alloc ?_ _) | (with_reducible refine Kd.C_drewN ?_ _) | (with_reducible refine Kd.C_drew ?_))); (case aB => exact (iL HB)); (case aF => exact (fun k_ hk => Kd.fresh' (Kd.R_lt (iR HO251)) k_ hk)); (case aO => exact ((Kd.R_nil _ _ _ _ (fun k_ => some k_ ≠ (.slice Ao14 y249.length co14 : Value).ownBlock)))); (case aS => exact (below_size (iL HB))); (case aL => have := LMc9.out; omega); intro v253 w13 ho hb hg hat; rw [← Ny252.out] at ho; have n0_ := Aside0.mk (Kd.R_after (Kd.R_apart_nil (iR HO251)) hg hat); have n1_ := Aside0.mk (hb); have n2_ := Aside0.mk (ho); clear HO251; clear HB; have HO251 := n0_; have HB := n1_; have HO254 := n2_; clear n0_ n1_ n2_; clear ho hb hg hat))
      go_meet
      case rel => exact ⟨_, (y252), H', ⟨by first | omega | exact Nat.le_refl _⟩, ⟨by (with_reducible repeat (first | apply Kd.R_alloc | apply Kd.R_drewN | apply Kd.R_drew)); exact Kd.R_mono HO254.out (fun _ hk => trivial)⟩, ⟨iL HB⟩⟩
     ·rw [if_neg c9] at H
      exact absurd H (by simp)
    ·replace c8 := Bool.eq_false_iff.mpr c8
     subst c8
     have H1 : (ancepsref54_spell.j0 k l0 a1 l2 ([] : List ByteArray)) = some r := by rw [if_neg (show ¬ (false = true) by decide)] at H; exact H
     clear H
     have H := H1
     clear H1
     have H' := Aside0.mk H
     clear H
     go_wp2
     go_meet
     case rel => exact ⟨_, (([] : List ByteArray)), H', ⟨by first | omega | exact Nat.le_refl _⟩, ⟨by first | exact Kd.R_nil _ _ _ _ _ | exact Kd.N_nil _ _ _ _ _ | exact Kd.V_nil _ _ _ _ _ | exact Kd.Q_nil _ _ _ _ _ | exact Kd.S_nil _ _ _ _ _⟩, ⟨iL HB⟩⟩
   case rest =>
    clear HC6
    (try clear hcv1); (try clear c2); (try clear p2); (try clear q2); (try clear hx2); (try clear c4); (try clear c4b0); (try clear c5); (try clear c5b0); (try clear q7); (try clear c8); (try clear c9); (try clear hcv10); (try clear hx248_0); (try clear hx248_1); (try clear hx248_2); (try clear p248); (try clear q248)
    obtain ⟨kq, x7_5, HA, HJ5, HO_7, HB⟩ := hcut
    cases kq with
    | zero => exact absurd HA.out (by simp [ancepsref54_spell.j0])
    | succ kj5 =>
     have H := HA.out
     clear HA
     simp only [ancepsref54_spell.j0] at H
     have H' := Aside0.mk H
     clear H
     go_wp2
     go_loopg [7, 8] kj5 (fun kq v7 v8 w' => ∃ (x7_2 : List ByteArray) (x8_2 : Int), v8 = .int .i64 x8_2 ∧ Aside0 (ancepsref54_spell.l0 kq l0 a1 l2 x7_2 x8_2 = some r) ∧ Aside0 (kq ≤ kj5) ∧ Aside0 (Kd.R Kd.string 9 w' w.heap.size (fun _ => True) v7 x7_2) ∧ Aside0 (Below w.heap.size w w'))
     case atStart => exact ⟨(x7_5), (0), eV, H', ⟨Nat.le_refl _⟩, ⟨iR HO_7⟩, ⟨iL HB⟩⟩
     case round =>
      clear H'
      (try clear hcv1); (try clear c2); (try clear p2); (try clear q2); (try clear hx2); (try clear c4); (try clear c4b0); (try clear c5); (try clear c5b0); (try clear q7); (try clear c8); (try clear c9); (try clear hcv10); (try clear hx248_0); (try clear hx248_1); (try clear hx248_2); (try clear p2); (try clear p248); (try clear q2); (try clear q248); (try clear q7)
      obtain ⟨x7_2, x8_2, rfl, HA, HK2, HO_7, HB⟩ := hrel
      cases gk with
      | zero => exact absurd HA.out (by simp [ancepsref54_spell.l0])
      | succ k2 =>
       have H := HA.out
       clear HA
       simp only [ancepsref54_spell.l0] at H
       by_cases c15 : 0 ≤ a1
       ·rw [if_pos c15] at H
        have c15b0 : decide (0 ≤ a1) = true := decide_eq_true c15
        clear c15
        by_cases c16 : a1 < (l0.length : Int)
        ·rw [if_pos c16] at H
         have c16b0 : decide (a1 < (l0.length : Int)) = true := decide_eq_true c16
         clear c16
         by_cases c17 : x8_2 < (((rd_T46 l0 a1).f2).length : Int)
         ·rw [if_pos c17] at H
          have c17b0 : decide (x8_2 < (((rd_T46 l0 a1).f2).length : Int)) = true := decide_eq_true c17
          clear c17
          by_cases c18 : 0 ≤ x8_2
          ·rw [if_pos c18] at H
           have c18b0 : decide (0 ≤ x8_2) = true := decide_eq_true c18
           clear c18
           obtain ⟨y258, hy258⟩ : ∃ y_ : List Int, y_ = (([] : List Int)) := ⟨_, rfl⟩
           replace H : (if y258.length + l2.length < 140737488355328 then ((some (y258 ++ l2 : List Int)).bind fun y261 => (if 0 ≤ (rd ((rd_T46 l0 a1).f2) x8_2) then (if (rd ((rd_T46 l0 a1).f2) x8_2) < (l0.length : Int) then ((some (([((rd_T46 l0 (rd ((rd_T46 l0 a1).f2) x8_2)).f0) % 256] : List Int) : List Int)).bind fun y265 => (if y261.length + y265.length < 140737488355328 then ((ancepsref54_spell.f k2 l0 (rd ((rd_T46 l0 a1).f2) x8_2) (y261 ++ y265)).bind fun t271 => (if x7_2.length + t271.length < 8796093022208 then (ancepsref54_spell.l0 k2 l0 a1 l2 (x7_2 ++ t271) (wrap64 (x8_2 + 1))) else (none))) else (none))) else (none)) else (none))) else (none)) = some r := by first | (rw [hy258]; with_reducible exact H) | (have H2_ := (Option.bind_some _ _).symm.trans H; rw [hy258]; with_reducible exact H2_) | (have H2_ := (Option.bind_some _ _).symm.trans H; with_reducible exact H2_) | with_reducible exact H | (rw [hy258]; exact H) | exact H
           have Ny258 := Aside0.mk hy258
           clear hy258
           by_cases c19 : y258.length + l2.length < 140737488355328
           ·rw [if_pos c19] at H
            have LMc19 := Aside0.mk c19
            clear c19
            obtain ⟨y261, hy261⟩ : ∃ y_ : List Int, y_ = (y258 ++ l2) := ⟨_, rfl⟩
            replace H : (if 0 ≤ (rd ((rd_T46 l0 a1).f2) x8_2) then (if (rd ((rd_T46 l0 a1).f2) x8_2) < (l0.length : Int) then ((some (([((rd_T46 l0 (rd ((rd_T46 l0 a1).f2) x8_2)).f0) % 256] : List Int) : List Int)).bind fun y265 => (if y261.length + y265.length < 140737488355328 then ((ancepsref54_spell.f k2 l0 (rd ((rd_T46 l0 a1).f2) x8_2) (y261 ++ y265)).bind fun t271 => (if x7_2.length + t271.length < 8796093022208 then (ancepsref54_spell.l0 k2 l0 a1 l2 (x7_2 ++ t271) (wrap64 (x8_2 + 1))) else (none))) else (none))) else (none)) else (none)) = some r := by first | (rw [hy261]; with_reducible exact H) | (have H2_ := (Option.bind_some _ _).symm.trans H; rw [hy261]; with_reducible exact H2_) | (have H2_ := (Option.bind_some _ _).symm.trans H; with_reducible exact H2_) | with_reducible exact H | (rw [hy261]; exact H) | exact H
            have Ny261 := Aside0.mk hy261
            clear hy261
            by_cases c20 : 0 ≤ (rd ((rd_T46 l0 a1).f2) x8_2)
            ·rw [if_pos c20] at H
             have c20b0 : decide (0 ≤ (rd ((rd_T46 l0 a1).f2) x8_2)) = true := decide_eq_true c20
             clear c20
             by_cases c21 : (rd ((rd_T46 l0 a1).f2) x8_2) < (l0.length : Int)
             ·rw [if_pos c21] at H
              have c21b0 : decide ((rd ((rd_T46 l0 a1).f2) x8_2) < (l0.length : Int)) = true := decide_eq_true c21
              clear c21
              obtain ⟨y265, hy265⟩ : ∃ y_ : List Int, y_ = (([((rd_T46 l0 (rd ((rd_T46 l0 a1).f2) x8_2)).f0) % 256] : List Int)) := ⟨_, rfl⟩
              replace H : (if y261.length + y265.length < 140737488355328 then ((ancepsref54_spell.f k2 l0 (rd ((rd_T46 l0 a1).f2) x8_2) (y261 ++ y265)).bind fun t271 => (if x7_2.length + t271.length < 8796093022208 then (ancepsref54_spell.l0 k2 l0 a1 l2 (x7_2 ++ t271) (wrap64 (x8_2 + 1))) else (none))) else (none)) = some r := by first | (rw [hy265]; with_reducible exact H) | (have H2_ := (Option.bind_some _ _).symm.trans H; rw [hy265]; with_reducible exact H2_) | (have H2_ := (Option.bind_some _ _).symm.trans H; with_reducible exact H2_) | with_reducible exact H | (rw [hy265]; exact H) | exact H
              have Ny265 := Aside0.mk hy265
              clear hy265
              by_cases c22 : y261.length + y265.length < 140737488355328
              ·rw [if_pos c22] at H
               have LMc22 := Aside0.mk c22
               clear c22
               obtain ⟨y268, hy268⟩ : ∃ y_ : List Int, y_ = (y261 ++ y265) := ⟨_, rfl⟩
               replace H : ((ancepsref54_spell.f k2 l0 (rd ((rd_T46 l0 a1).f2) x8_2) y268).bind fun t271 => (if x7_2.length + t271.length < 8796093022208 then (ancepsref54_spell.l0 k2 l0 a1 l2 (x7_2 ++ t271) (wrap64 (x8_2 + 1))) else (none))) = some r := by first | (rw [hy268]; with_reducible exact H) | (have H2_ := (Option.bind_some _ _).symm.trans H; rw [hy268]; with_reducible exact H2_) | (have H2_ := (Option.bind_some _ _).symm.trans H; with_reducible exact H2_) | with_reducible exact H | (rw [hy268]; exact H) | exact H
               have Ny268 := Aside0.mk hy268
               clear hy268
               replace H := Option.bind_eq_some_iff.mp H
               obtain ⟨t271, A230, H⟩ := H
               try dsimp only at H
               have A23 := Aside0.mk A230
               clear A230
               by_cases c24 : x7_2.length + t271.length < 8796093022208
               ·rw [if_pos c24] at H
                have LMc24 := Aside0.mk c24
                clear c24
                obtain ⟨y274, hy274⟩ : ∃ y_ : List ByteArray, y_ = (x7_2 ++ t271) := ⟨_, rfl⟩
                replace H : (ancepsref54_spell.l0 k2 l0 a1 l2 y274 (wrap64 (x8_2 + 1))) = some r := by first | (rw [hy274]; with_reducible exact H) | (have H2_ := (Option.bind_some _ _).symm.trans H; rw [hy274]; with_reducible exact H2_) | (have H2_ := (Option.bind_some _ _).symm.trans H; with_reducible exact H2_) | with_reducible exact H | (rw [hy274]; exact H) | exact H
                have Ny274 := Aside0.mk hy274
                clear hy274
                have H' := Aside0.mk H
                clear H
                have p255 := oD (0 ≤ (a1 : Int))
                have q255 := oD (a1 < (l0.length : Int))
                obtain ⟨ad255, A255_2, c255_2, e255, hx255_0, hx255_1, hx255_2, hl255_2, hi255_2⟩ := at_T46 HR0.out a1 p255 q255
                obtain rfl : ad248 = ad255 := (by injection e255)
                replace hx255_0 := (HB.out.cell (World.block_lt_of_cell? w _ hx255_0)).trans hx255_0
                replace hx255_1 := (HB.out.cell (World.block_lt_of_cell? w _ hx255_1)).trans hx255_1
                replace hx255_2 := (HB.out.cell (World.block_lt_of_cell? w _ hx255_2)).trans hx255_2
                have HR255_2 := Aside0.mk hi255_2
                have HC255_2 := Aside0.mk hl255_2
                clear hi255_2 hl255_2
                replace p255 := eq_true p255
                replace q255 := eq_true q255
                have p256 := oD (0 ≤ (a1 : Int))
                have q256 := oD (a1 < (l0.length : Int))
                obtain ⟨ad256, A256_2, c256_2, e256, hx256_0, hx256_1, hx256_2, hl256_2, hi256_2⟩ := at_T46 HR0.out a1 p256 q256
                obtain rfl : ad248 = ad256 := (by injection e256)
                replace hx256_0 := (HB.out.cell (World.block_lt_of_cell? w _ hx256_0)).trans hx256_0
                replace hx256_1 := (HB.out.cell (World.block_lt_of_cell? w _ hx256_1)).trans hx256_1
                replace hx256_2 := (HB.out.cell (World.block_lt_of_cell? w _ hx256_2)).trans hx256_2
                have HR256_2 := Aside0.mk hi256_2
                have HC256_2 := Aside0.mk hl256_2
                clear hi256_2 hl256_2
                replace p256 := eq_true p256
                replace q256 := eq_true q256
                have ea_ := Option.some.inj (hx255_2.symm.trans hx256_2)
                injection ea_ with ea_ en_ ec_
                subst ea_
                subst ec_
                clear en_
                have p257 := oD (0 ≤ (x8_2 : Int))
                have q257 := oD (x8_2 < (((rd_T46 l0 a1).f2).length : Int))
                obtain ⟨ad257, e257, hx257_0⟩ := Kd.at_int HR256_2.out x8_2 p257 q257
                cases e257
                replace hx257_0 := (HB.out.cell (World.block_lt_of_cell? w _ hx257_0)).trans hx257_0
                replace p257 := eq_true p257
                replace q257 := eq_true q257
                obtain ⟨Ao25, co25, eo25⟩ := Kd.R_slice HO_7.out
                subst eo25
                try go_wp2
                have n0_ := Aside0.mk (Kd.R_drew HO_7.out)
                have n1_ := Aside0.mk (below_drew1 HB.out)
                clear HO_7
                clear HB
                have HO_7 := n0_
                have HB := n1_
                clear n0_ n1_
                have p264 := oD (0 ≤ ((rd ((rd_T46 l0 a1).f2) x8_2) : Int))
                have q264 := oD ((rd ((rd_T46 l0 a1).f2) x8_2) < (l0.length : Int))
                obtain ⟨ad264, A264_2, c264_2, e264, hx264_0, hx264_1, hx264_2, hl264_2, hi264_2⟩ := at_T46 HR0.out (rd ((rd_T46 l0 a1).f2) x8_2) p264 q264
                have hw264_2 := hx264_2
                have hw264_1 := hx264_1
                have hw264_0 := hx264_0
                obtain rfl : ad248 = ad264 := (by injection e264)
                replace hx264_0 := (HB.out.cell (World.block_lt_of_cell? w _ hx264_0)).trans hx264_0
                replace hx264_1 := (HB.out.cell (World.block_lt_of_cell? w _ hx264_1)).trans hx264_1
                replace hx264_2 := (HB.out.cell (World.block_lt_of_cell? w _ hx264_2)).trans hx264_2
                have HR264_2 := Aside0.mk hi264_2
                have HC264_2 := Aside0.mk hl264_2
                clear hi264_2 hl264_2
                replace p264 := eq_true p264
                replace q264 := eq_true q264
                refine start_ (n := 17) (S := fun w' => w'.cell? (ad248.add (((rd ((rd_T46 l0 a1).f2) x8_2)).toNat * 3)) = some (.int .i64 ((rd_T46 l0 (rd ((rd_T46 l0 a1).f2) x8_2)).f0)) ∧ w'.cell? ⟨(ad248.add (((rd ((rd_T46 l0 a1).f2) x8_2)).toNat * 3)).block, (ad248.add (((rd ((rd_T46 l0 a1).f2) x8_2)).toNat * 3)).off + 1, none⟩ = some (.bool ((rd_T46 l0 (rd ((rd_T46 l0 a1).f2) x8_2)).f1)) ∧ w'.cell? ⟨(ad248.add (((rd ((rd_T46 l0 a1).f2) x8_2)).toNat * 3)).block, (ad248.add (((rd ((rd_T46 l0 a1).f2) x8_2)).toNat * 3)).off + 2, none⟩ = some (.slice A264_2 ((rd_T46 l0 (rd ((rd_T46 l0 a1).f2) x8_2)).f2).length c264_2)) (ds := []) #[false, false, false, false, false, false, false, false, false, false, false, false, false, false, false, false, false] (by kernel_rfl) rfl rfl ⟨((HB.out.cell (World.block_lt_of_cell? w _ hw264_0)).trans hw264_0), ((HB.out.cell (World.block_lt_of_cell? w _ hw264_1)).trans hw264_1), ((HB.out.cell (World.block_lt_of_cell? w _ hw264_2)).trans hw264_2)⟩ (fun hHeld => ?_); refine with_tabW ancepsref54_spell.tab8 ancepsref54_spell.bits8 (fun HT_ HW_ => ?_)
                generalize wr.drew = w26 at HO_7 HB HR264_2 hx264_0 hx264_1 hx264_2 hHeld ⊢
                refine pv_ 0 (some 38) HT_ ?_
                refine pv_ 1 (some 39) HT_ ?_
                refine pv_ 2 (some 40) HT_ ?_
                refine pv_ 4 (some 42) HT_ ?_
                refine pv_ 6 (some 44) HT_ ?_
                refine pv_ 7 (some 45) HT_ ?_
                refine pv_ 8 (some 46) HT_ ?_
                refine pv_ 9 (some 47) HT_ ?_
                refine tw_ 10 (some 48) HT_ HW_ hHeld ?_
                refine pv_ 11 (some 49) HT_ ?_
                refine join_ (σ := Value × Value × Value) 4 #[true, true, true, true, true, true, true, true, true, true, true, true, true, false, false, false, false] (fun s_ => [(41, s_.1), (43, s_.2.1), (50, s_.2.2)]) (fun s_ w' => (w'.cell? (ad248.add (((rd ((rd_T46 l0 a1).f2) x8_2)).toNat * 3)) = some (.int .i64 ((rd_T46 l0 (rd ((rd_T46 l0 a1).f2) x8_2)).f0)) ∧ w'.cell? ⟨(ad248.add (((rd ((rd_T46 l0 a1).f2) x8_2)).toNat * 3)).block, (ad248.add (((rd ((rd_T46 l0 a1).f2) x8_2)).toNat * 3)).off + 1, none⟩ = some (.bool ((rd_T46 l0 (rd ((rd_T46 l0 a1).f2) x8_2)).f1)) ∧ w'.cell? ⟨(ad248.add (((rd ((rd_T46 l0 a1).f2) x8_2)).toNat * 3)).block, (ad248.add (((rd ((rd_T46 l0 a1).f2) x8_2)).toNat * 3)).off + 2, none⟩ = some (.slice A264_2 ((rd_T46 l0 (rd ((rd_T46 l0 a1).f2) x8_2)).f2).length c264_2)) ∧ (Kd.R (Kd.int .u8) 5 w' w.heap.size (fun k_ => some k_ ≠ (s_.2.2 : Value).ownBlock) s_.2.1 y261) ∧ (Kd.R (Kd.int .u8) 5 w' w.heap.size (fun k_ => some k_ ≠ (s_.2.1 : Value).ownBlock) s_.2.2 y265) ∧ (Kd.R Kd.string 9 w' w.heap.size (fun _ => True) (.slice Ao25 x7_2.length co25) x7_2) ∧ (Below w.heap.size w w')) ?_ ?_
                rotate_left
                ·intro hCont
                 refine two_ (i := 3) (j := 12) (Ni := some 41) (Nj := some 50) #[true, true, true, true, true, false, true, true, true, true, true, true, false, false, false, false, false] #[true, true, true, false, true, false, true, true, true, true, true, true, true, false, false, false, false] rfl rfl rfl rfl (two_of HT_.out (by kernel_rfl)) (by decide) (by decide) (fun K hK => ?_) (fun K hK => ?_)
                 ·skip
                  refine Kd.R_lit_step (Kd.int .u8) _ 5 ?hg (N := 41) ?hd (xs := ([] : List Int)) (inner := []) (ok := fun _ => True) (okp := fun _ => True) ?hr ?hp (fun _ hk => hk) trivial (Below.refl _ _) (Nat.le_refl _) (by simp) ?_; (case hd | hg => rfl); (case hr => first | (go_simp; done) | (go_simp; rfl)); (case hp => exact (Reps.none _ _))
                  intro v259 w27 ho28 hb hg_ hnew_
                  clear hg_ hnew_
                  (first | rw [← Ny258.out] at ho28 | (simp only [Int.reduceToNat] at ho28; rw [← Ny258.out] at ho28))
                  have n0_ := jR HO_7 hb
                  have n1_ := Aside0.mk (Kd.R_lower ho28 (below_size (iL HB)))
                  have n2_ := jL HB hb
                  clear HO_7
                  clear HB
                  have HO_7 := n0_
                  have HO260 := n1_
                  have HB := n2_
                  clear n0_ n1_ n2_
                  clear hb ho28
                  refine hK.out _ _ ⟨((HB.out.cell (World.block_lt_of_cell? w _ hw264_0)).trans hw264_0), ((HB.out.cell (World.block_lt_of_cell? w _ hw264_1)).trans hw264_1), ((HB.out.cell (World.block_lt_of_cell? w _ hw264_2)).trans hw264_2)⟩ (fun hHeld => ?_)
                  clear hK K
                  refine norm_ (a' := ?_) ?_ ?_
                  rotate_left
                  ·show Act.put _ (some 41) _ = _
                   simp only [Act.put, List.setIfInBounds_toArray, List.set_cons_zero, List.set_cons_succ, i64_w, i32_w]
                   rfl
                  refine two_ (i := 5) (j := 12) (Ni := some 43) (Nj := some 50) #[true, true, true, true, true, true, true, true, true, true, true, true, false, false, false, false, false] #[true, true, true, true, true, false, true, true, true, true, true, true, true, false, false, false, false] rfl rfl rfl rfl (two_of HT_.out (by kernel_rfl)) (by decide) (by decide) (fun K hK => ?_) (fun K hK => ?_)
                  ·skip
                   refine Kd.R_append_rows_step (Kd.int .u8) (w0 := w) w.heap.size (by rfl) (.tmp 41) (.tmp 42) 22 5 (.int .u8 0) 1 rfl Try.underlying22 info5 rfl (by decide) (by omega) v259 y258 l2 _ _ _ (fun _ => True) (fun _ => False) rfl rfl ?aO ?aR (fun _ _ h => h) (fun _ h => h.elim) ?aF ?aB ?aS ?aL ?_
                   (case aR => exact iC HR2 HB)
                   (case aB => exact (iL HB))
                   (case aF => exact (fun _ _ => trivial))
                   (case aO => exact (iR HO260))
                   (case aS => exact (below_size (iL HB)))
                   (case aL => have := LMc19.out; omega)
                   intro v262 w29 ho hb hg hat
                   rw [← Ny261.out] at ho
                   have n0_ := Aside0.mk (Kd.R_over' (iR HO_7) (Kd.R_typed (iR HO260)) (by decide) hg)
                   have n1_ := Aside0.mk (hb)
                   have n2_ := Aside0.mk (ho)
                   clear HO_7
                   clear HB
                   clear HO260
                   have HO_7 := n0_
                   have HB := n1_
                   have HO263 := n2_
                   clear n0_ n1_ n2_
                   clear ho hb hg hat
                   refine hK.out _ _ ⟨((HB.out.cell (World.block_lt_of_cell? w _ hw264_0)).trans hw264_0), ((HB.out.cell (World.block_lt_of_cell? w _ hw264_1)).trans hw264_1), ((HB.out.cell (World.block_lt_of_cell? w _ hw264_2)).trans hw264_2)⟩ (fun hHeld => ?_)
                   clear hK K
                   refine norm_ (a' := ?_) ?_ ?_
                   rotate_left
                   ·show Act.put _ (some 43) _ = _
                    simp only [Act.put, List.setIfInBounds_toArray, List.set_cons_zero, List.set_cons_succ, i64_w, i32_w]
                    rfl
                   refine one_ (i := 12) (N := some 50) #[true, true, true, true, true, true, true, true, true, true, true, true, true, false, false, false, false] rfl rfl (one_of HT_.out (by kernel_rfl)) (by decide) (fun K hK => ?_)
                   refine Kd.R_lit_step (Kd.int .u8) _ 5 ?hg (N := 50) ?hd (xs := ([((rd_T46 l0 (rd ((rd_T46 l0 a1).f2) x8_2)).f0) % 256] : List Int)) (inner := [.int .u8 (((rd_T46 l0 (rd ((rd_T46 l0 a1).f2) x8_2)).f0) % 256)]) (ok := fun _ => True) (okp := fun _ => True) ?hr ?hp (fun _ hk => hk) trivial (Below.refl _ _) (Nat.le_refl _) (by simp) ?_; (case hd | hg => rfl); (case hr => first | (go_simp; done) | (go_simp; rfl)); (case hp => exact (Reps.one (show Kd.M (Kd.int .u8) _ _ _ (((rd_T46 l0 (rd ((rd_T46 l0 a1).f2) x8_2)).f0) % 256) [.int .u8 (((rd_T46 l0 (rd ((rd_T46 l0 a1).f2) x8_2)).f0) % 256)] from rfl) (Reps.none _ _)))
                   intro v266 w30 ho31 hb hg_ hnew_
                   clear hg_ hnew_
                   (first | rw [← Ny265.out] at ho31 | (simp only [Int.reduceToNat] at ho31; rw [← Ny265.out] at ho31))
                   have n0_ := jR HO_7 hb
                   have n1_ := Aside0.mk (Kd.R_elder' (iR HO263) (Kd.R_base ho31) hb)
                   have n2_ := Aside0.mk (Kd.R_lower (Kd.R_new' ho31 (Kd.R_lt (iR HO263))) (below_size (iL HB)))
                   have n3_ := jL HB hb
                   clear HO_7
                   clear HO263
                   clear HB
                   have HO_7 := n0_
                   have HO263 := n1_
                   have HO267 := n2_
                   have HB := n3_
                   clear n0_ n1_ n2_ n3_
                   clear hb ho31
                   refine hK.out _ _ ⟨((HB.out.cell (World.block_lt_of_cell? w _ hw264_0)).trans hw264_0), ((HB.out.cell (World.block_lt_of_cell? w _ hw264_1)).trans hw264_1), ((HB.out.cell (World.block_lt_of_cell? w _ hw264_2)).trans hw264_2)⟩ (fun hHeld => ?_)
                   clear hK K
                   refine norm_ (a' := ?_) ?_ ?_
                   rotate_left
                   ·show Act.put _ (some 50) _ = _
                    simp only [Act.put, List.setIfInBounds_toArray, List.set_cons_zero, List.set_cons_succ, i64_w, i32_w]
                    rfl
                   exact norm_ (by simp only [putAll, Act.put, List.setIfInBounds_toArray, List.set_cons_zero, List.set_cons_succ]) (hCont (v259, v262, v266) _ ⟨hHeld, (by (with_reducible repeat (first | apply Kd.R_alloc | apply Kd.R_drewN | apply Kd.R_drew)); exact Kd.R_mono HO263.out (fun _ hk => hk.2)), (by (with_reducible repeat (first | apply Kd.R_alloc | apply Kd.R_drewN | apply Kd.R_drew)); exact Kd.R_mono HO267.out (fun _ hk => hk.2)), (iR HO_7), (iL HB)⟩)
                  ·skip
                   refine Kd.R_lit_step (Kd.int .u8) _ 5 ?hg (N := 50) ?hd (xs := ([((rd_T46 l0 (rd ((rd_T46 l0 a1).f2) x8_2)).f0) % 256] : List Int)) (inner := [.int .u8 (((rd_T46 l0 (rd ((rd_T46 l0 a1).f2) x8_2)).f0) % 256)]) (ok := fun _ => True) (okp := fun _ => True) ?hr ?hp (fun _ hk => hk) trivial (Below.refl _ _) (Nat.le_refl _) (by simp) ?_; (case hd | hg => rfl); (case hr => first | (go_simp; done) | (go_simp; rfl)); (case hp => exact (Reps.one (show Kd.M (Kd.int .u8) _ _ _ (((rd_T46 l0 (rd ((rd_T46 l0 a1).f2) x8_2)).f0) % 256) [.int .u8 (((rd_T46 l0 (rd ((rd_T46 l0 a1).f2) x8_2)).f0) % 256)] from rfl) (Reps.none _ _)))
                   intro v266 w29 ho30 hb hg_ hnew_
                   clear hg_ hnew_
                   (first | rw [← Ny265.out] at ho30 | (simp only [Int.reduceToNat] at ho30; rw [← Ny265.out] at ho30))
                   have n0_ := jR HO_7 hb
                   have n1_ := Aside0.mk (Kd.R_elder' (iR HO260) (Kd.R_base ho30) hb)
                   have n2_ := Aside0.mk (Kd.R_lower (Kd.R_new' ho30 (Kd.R_lt (iR HO260))) (below_size (iL HB)))
                   have n3_ := jL HB hb
                   clear HO_7
                   clear HO260
                   clear HB
                   have HO_7 := n0_
                   have HO260 := n1_
                   have HO267 := n2_
                   have HB := n3_
                   clear n0_ n1_ n2_ n3_
                   clear hb ho30
                   refine hK.out _ _ ⟨((HB.out.cell (World.block_lt_of_cell? w _ hw264_0)).trans hw264_0), ((HB.out.cell (World.block_lt_of_cell? w _ hw264_1)).trans hw264_1), ((HB.out.cell (World.block_lt_of_cell? w _ hw264_2)).trans hw264_2)⟩ (fun hHeld => ?_)
                   clear hK K
                   refine norm_ (a' := ?_) ?_ ?_
                   rotate_left
                   ·show Act.put _ (some 50) _ = _
                    simp only [Act.put, List.setIfInBounds_toArray, List.set_cons_zero, List.set_cons_succ, i64_w, i32_w]
                    rfl
                   refine one_ (i := 5) (N := some 43) #[true, true, true, true, true, true, true, true, true, true, true, true, true, false, false, false, false] rfl rfl (one_of HT_.out (by kernel_rfl)) (by decide) (fun K hK => ?_)
                   refine Kd.R_append_rows_step (Kd.int .u8) (w0 := w) w.heap.size (by rfl) (.tmp 41) (.tmp 42) 22 5 (.int .u8 0) 1 rfl Try.underlying22 info5 rfl (by decide) (by omega) v259 y258 l2 _ _ _ (fun k_ => some k_ ≠ (v266 : Value).ownBlock) (fun _ => False) rfl rfl ?aO ?aR (fun _ _ h => h) (fun _ h => h.elim) ?aF ?aB ?aS ?aL ?_
                   (case aR => exact iC HR2 HB)
                   (case aB => exact (iL HB))
                   (case aF => exact (fun k_ hk => Kd.fresh' (Kd.R_lt (iR HO267)) k_ hk))
                   (case aO => exact (by (with_reducible repeat (first | apply Kd.R_alloc | apply Kd.R_drewN | apply Kd.R_drew)); exact Kd.R_mono HO260.out (fun _ hk => hk.2)))
                   (case aS => exact (below_size (iL HB)))
                   (case aL => have := LMc19.out; omega)
                   intro v262 w31 ho hb hg hat
                   rw [← Ny261.out] at ho
                   have n0_ := Aside0.mk (Kd.R_over' (iR HO_7) (Kd.R_typed (iR HO260)) (by decide) hg)
                   have n1_ := Aside0.mk (Kd.R_after (ok := (fun _ => True)) (iR HO267) hg hat)
                   have n2_ := Aside0.mk (hb)
                   have n3_ := Aside0.mk (ho)
                   clear HO_7
                   clear HO267
                   clear HB
                   clear HO260
                   have HO_7 := n0_
                   have HO267 := n1_
                   have HB := n2_
                   have HO263 := n3_
                   clear n0_ n1_ n2_ n3_
                   clear ho hb hg hat
                   refine hK.out _ _ ⟨((HB.out.cell (World.block_lt_of_cell? w _ hw264_0)).trans hw264_0), ((HB.out.cell (World.block_lt_of_cell? w _ hw264_1)).trans hw264_1), ((HB.out.cell (World.block_lt_of_cell? w _ hw264_2)).trans hw264_2)⟩ (fun hHeld => ?_)
                   clear hK K
                   refine norm_ (a' := ?_) ?_ ?_
                   rotate_left
                   ·show Act.put _ (some 43) _ = _
                    simp only [Act.put, List.setIfInBounds_toArray, List.set_cons_zero, List.set_cons_succ, i64_w, i32_w]
                    rfl
                   exact norm_ (by simp only [putAll, Act.put, List.setIfInBounds_toArray, List.set_cons_zero, List.set_cons_succ]) (hCont (v259, v262, v266) _ ⟨hHeld, (iR HO263), (by (with_reducible repeat (first | apply Kd.R_alloc | apply Kd.R_drewN | apply Kd.R_drew)); exact Kd.R_mono HO267.out (fun _ hk => hk.2)), (iR HO_7), (iL HB)⟩)
                 ·skip
                  refine Kd.R_lit_step (Kd.int .u8) _ 5 ?hg (N := 50) ?hd (xs := ([((rd_T46 l0 (rd ((rd_T46 l0 a1).f2) x8_2)).f0) % 256] : List Int)) (inner := [.int .u8 (((rd_T46 l0 (rd ((rd_T46 l0 a1).f2) x8_2)).f0) % 256)]) (ok := fun _ => True) (okp := fun _ => True) ?hr ?hp (fun _ hk => hk) trivial (Below.refl _ _) (Nat.le_refl _) (by simp) ?_; (case hd | hg => rfl); (case hr => first | (go_simp; done) | (go_simp; rfl)); (case hp => exact (Reps.one (show Kd.M (Kd.int .u8) _ _ _ (((rd_T46 l0 (rd ((rd_T46 l0 a1).f2) x8_2)).f0) % 256) [.int .u8 (((rd_T46 l0 (rd ((rd_T46 l0 a1).f2) x8_2)).f0) % 256)] from rfl) (Reps.none _ _)))
                  intro v266 w27 ho28 hb hg_ hnew_
                  clear hg_ hnew_
                  (first | rw [← Ny265.out] at ho28 | (simp only [Int.reduceToNat] at ho28; rw [← Ny265.out] at ho28))
                  have n0_ := jR HO_7 hb
                  have n1_ := Aside0.mk (Kd.R_lower ho28 (below_size (iL HB)))
                  have n2_ := jL HB hb
                  clear HO_7
                  clear HB
                  have HO_7 := n0_
                  have HO267 := n1_
                  have HB := n2_
                  clear n0_ n1_ n2_
                  clear hb ho28
                  refine hK.out _ _ ⟨((HB.out.cell (World.block_lt_of_cell? w _ hw264_0)).trans hw264_0), ((HB.out.cell (World.block_lt_of_cell? w _ hw264_1)).trans hw264_1), ((HB.out.cell (World.block_lt_of_cell? w _ hw264_2)).trans hw264_2)⟩ (fun hHeld => ?_)
                  clear hK K
                  refine norm_ (a' := ?_) ?_ ?_
                  rotate_left
                  ·show Act.put _ (some 50) _ = _
                   simp only [Act.put, List.setIfInBounds_toArray, List.set_cons_zero, List.set_cons_succ, i64_w, i32_w]
                   rfl
                  refine one_ (i := 3) (N := some 41) #[true, true, true, true, true, false, true, true, true, true, true, true, true, false, false, false, false] rfl rfl (one_of HT_.out (by kernel_rfl)) (by decide) (fun K hK => ?_)
                  refine Kd.R_lit_step (Kd.int .u8) _ 5 ?hg (N := 41) ?hd (xs := ([] : List Int)) (inner := []) (ok := fun _ => True) (okp := fun _ => True) ?hr ?hp (fun _ hk => hk) trivial (Below.refl _ _) (Nat.le_refl _) (by simp) ?_; (case hd | hg => rfl); (case hr => first | (go_simp; done) | (go_simp; rfl)); (case hp => exact (Reps.none _ _))
                  intro v259 w29 ho30 hb hg_ hnew_
                  clear hg_ hnew_
                  (first | rw [← Ny258.out] at ho30 | (simp only [Int.reduceToNat] at ho30; rw [← Ny258.out] at ho30))
                  have n0_ := jR HO_7 hb
                  have n1_ := Aside0.mk (Kd.R_elder' (iR HO267) (Kd.R_base ho30) hb)
                  have n2_ := Aside0.mk (Kd.R_lower (Kd.R_new' ho30 (Kd.R_lt (iR HO267))) (below_size (iL HB)))
                  have n3_ := jL HB hb
                  clear HO_7
                  clear HO267
                  clear HB
                  have HO_7 := n0_
                  have HO267 := n1_
                  have HO260 := n2_
                  have HB := n3_
                  clear n0_ n1_ n2_ n3_
                  clear hb ho30
                  refine hK.out _ _ ⟨((HB.out.cell (World.block_lt_of_cell? w _ hw264_0)).trans hw264_0), ((HB.out.cell (World.block_lt_of_cell? w _ hw264_1)).trans hw264_1), ((HB.out.cell (World.block_lt_of_cell? w _ hw264_2)).trans hw264_2)⟩ (fun hHeld => ?_)
                  clear hK K
                  refine norm_ (a' := ?_) ?_ ?_
                  rotate_left
                  ·show Act.put _ (some 41) _ = _
                   simp only [Act.put, List.setIfInBounds_toArray, List.set_cons_zero, List.set_cons_succ, i64_w, i32_w]
                   rfl
                  refine one_ (i := 5) (N := some 43) #[true, true, true, true, true, true, true, true, true, true, true, true, true, false, false, false, false] rfl rfl (one_of HT_.out (by kernel_rfl)) (by decide) (fun K hK => ?_)
                  refine Kd.R_append_rows_step (Kd.int .u8) (w0 := w) w.heap.size (by rfl) (.tmp 41) (.tmp 42) 22 5 (.int .u8 0) 1 rfl Try.underlying22 info5 rfl (by decide) (by omega) v259 y258 l2 _ _ _ (fun k_ => some k_ ≠ (v266 : Value).ownBlock) (fun _ => False) rfl rfl ?aO ?aR (fun _ _ h => h) (fun _ h => h.elim) ?aF ?aB ?aS ?aL ?_
                  (case aR => exact iC HR2 HB)
                  (case aB => exact (iL HB))
                  (case aF => exact (fun k_ hk => Kd.fresh' (Kd.R_lt (iR HO267)) k_ hk))
                  (case aO => exact (by (with_reducible repeat (first | apply Kd.R_alloc | apply Kd.R_drewN | apply Kd.R_drew)); exact Kd.R_mono HO260.out (fun _ hk => hk.2)))
                  (case aS => exact (below_size (iL HB)))
                  (case aL => have := LMc19.out; omega)
                  intro v262 w31 ho hb hg hat
                  rw [← Ny261.out] at ho
                  have n0_ := Aside0.mk (Kd.R_over' (iR HO_7) (Kd.R_typed (iR HO260)) (by decide) hg)
                  have n1_ := Aside0.mk (Kd.R_after (ok := (fun _ => True)) (iR HO267) hg hat)
                  have n2_ := Aside0.mk (hb)
                  have n3_ := Aside0.mk (ho)
                  clear HO_7
                  clear HO267
                  clear HB
                  clear HO260
                  have HO_7 := n0_
                  have HO267 := n1_
                  have HB := n2_
                  have HO263 := n3_
                  clear n0_ n1_ n2_ n3_
                  clear ho hb hg hat
                  refine hK.out _ _ ⟨((HB.out.cell (World.block_lt_of_cell? w _ hw264_0)).trans hw264_0), ((HB.out.cell (World.block_lt_of_cell? w _ hw264_1)).trans hw264_1), ((HB.out.cell (World.block_lt_of_cell? w _ hw264_2)).trans hw264_2)⟩ (fun hHeld => ?_)
                  clear hK K
                  refine norm_ (a' := ?_) ?_ ?_
                  rotate_left
                  ·show Act.put _ (some 43) _ = _
                   simp only [Act.put, List.setIfInBounds_toArray, List.set_cons_zero, List.set_cons_succ, i64_w, i32_w]
                   rfl
                  exact norm_ (by simp only [putAll, Act.put, List.setIfInBounds_toArray, List.set_cons_zero, List.set_cons_succ]) (hCont (v259, v262, v266) _ ⟨hHeld, (iR HO263), (by (with_reducible repeat (first | apply Kd.R_alloc | apply Kd.R_drewN | apply Kd.R_drew)); exact Kd.R_mono HO267.out (fun _ hk => hk.2)), (iR HO_7), (iL HB)⟩)
                rintro ⟨v259, v262, v266⟩ w32 ⟨hS_, h0_, h1_, h2_, h3_⟩
                have n0_ : Aside0 (Kd.R (Kd.int .u8) 5 w32 w.heap.size (fun k_ => some k_ ≠ (v266 : Value).ownBlock) v262 y261) := ⟨h0_⟩
                have n1_ : Aside0 (Kd.R (Kd.int .u8) 5 w32 w.heap.size (fun k_ => some k_ ≠ (v262 : Value).ownBlock) v266 y265) := ⟨h1_⟩
                have n2_ : Aside0 (Kd.R Kd.string 9 w32 w.heap.size (fun _ => True) (.slice Ao25 x7_2.length co25) x7_2) := ⟨h2_⟩
                have n3_ : Aside0 (Below w.heap.size w w32) := ⟨h3_⟩
                clear HO_7
                clear HB
                clear h0_ h1_ h2_ h3_
                have HO263 := n0_
                have HO267 := n1_
                have HO_7 := n2_
                have HB := n3_
                clear n0_ n1_ n2_ n3_
                have hHeld : w32.cell? (ad248.add (((rd ((rd_T46 l0 a1).f2) x8_2)).toNat * 3)) = some (.int .i64 ((rd_T46 l0 (rd ((rd_T46 l0 a1).f2) x8_2)).f0)) ∧ w32.cell? ⟨(ad248.add (((rd ((rd_T46 l0 a1).f2) x8_2)).toNat * 3)).block, (ad248.add (((rd ((rd_T46 l0 a1).f2) x8_2)).toNat * 3)).off + 1, none⟩ = some (.bool ((rd_T46 l0 (rd ((rd_T46 l0 a1).f2) x8_2)).f1)) ∧ w32.cell? ⟨(ad248.add (((rd ((rd_T46 l0 a1).f2) x8_2)).toNat * 3)).block, (ad248.add (((rd ((rd_T46 l0 a1).f2) x8_2)).toNat * 3)).off + 2, none⟩ = some (.slice A264_2 ((rd_T46 l0 (rd ((rd_T46 l0 a1).f2) x8_2)).f2).length c264_2) := hS_
                obtain ⟨Ao34, co34, eo34⟩ := Kd.R_slice HO267.out
                (first | subst eo34 | (injection eo34 with f1_ f2_ f3_; have f4_ := f1_.symm; have f5_ := f3_.symm; clear f1_ f2_ f3_; subst f4_; subst f5_))
                refine norm_ (a' := ?_) ?_ ?_
                rotate_left
                ·simp only [putAll, Act.put, List.setIfInBounds_toArray, List.set_cons_zero, List.set_cons_succ]
                 rfl
                refine one_ (i := 13) (N := some 51) #[true, true, true, true, true, true, true, true, true, true, true, true, true, true, false, false, false] rfl rfl (one_of HT_.out (by kernel_rfl)) (by decide) (fun K hK => ?_)
                refine Kd.R_append_rows_step (Kd.int .u8) (w0 := w) w.heap.size (by rfl) (.tmp 43) (.tmp 50) 22 5 (.int .u8 0) 1 rfl Try.underlying22 info5 rfl (by decide) (by omega) v262 y261 y265 _ _ _ (fun k_ => some k_ ≠ (.slice Ao34 y265.length co34 : Value).ownBlock) (fun _ => False) rfl rfl ?aO ?aR (fun _ _ h => h) (fun _ h => h.elim) ?aF ?aB ?aS ?aL ?_
                (case aR => repeat (first | exact (Kd.R_reads' HO267.out).2.2 | (with_reducible refine Kd.C_alloc ?_ _) | (with_reducible refine Kd.C_drewN ?_ _) | (with_reducible refine Kd.C_drew ?_)))
                (case aB => exact (iL HB))
                (case aF => exact (fun k_ hk => Kd.fresh' (Kd.R_lt (iR HO267)) k_ hk))
                (case aO => exact (iR HO263))
                (case aS => exact (below_size (iL HB)))
                (case aL => have := LMc22.out; omega)
                intro v269 w33 ho hb hg hat
                rw [← Ny268.out] at ho
                have n0_ := Aside0.mk (Kd.R_over' (iR HO_7) (Kd.R_typed (iR HO263)) (by decide) hg)
                have n1_ := Aside0.mk (Kd.R_after (ok := (fun _ => True)) (by (with_reducible repeat (first | apply Kd.R_alloc | apply Kd.R_drewN | apply Kd.R_drew)); exact Kd.R_mono HO267.out (fun _ hk => ⟨trivial, hk⟩)) hg hat)
                have n2_ := Aside0.mk (hb)
                have n3_ := Aside0.mk (ho)
                clear HO_7
                clear HO267
                clear HB
                clear HO263
                have HO_7 := n0_
                have HO267 := n1_
                have HB := n2_
                have HO270 := n3_
                clear n0_ n1_ n2_ n3_
                clear ho hb hg hat
                obtain ⟨Ao35, co35, eo35⟩ := Kd.R_slice HO270.out
                (first | subst eo35 | (injection eo35 with f1_ f2_ f3_; have f4_ := f1_.symm; have f5_ := f3_.symm; clear f1_ f2_ f3_; subst f4_; subst f5_))
                refine hK.out _ _ ⟨((HB.out.cell (World.block_lt_of_cell? w _ hw264_0)).trans hw264_0), ((HB.out.cell (World.block_lt_of_cell? w _ hw264_1)).trans hw264_1), ((HB.out.cell (World.block_lt_of_cell? w _ hw264_2)).trans hw264_2)⟩ (fun hHeld => ?_)
                clear hK K
                refine norm_ (a' := ?_) ?_ ?_
                rotate_left
                ·show Act.put _ (some 51) _ = _
                 simp only [Act.put, List.setIfInBounds_toArray, List.set_cons_zero, List.set_cons_succ, i64_w, i32_w]
                 rfl
                refine one_ (i := 14) (N := some 52) #[true, true, true, true, true, true, true, true, true, true, true, true, true, true, true, false, false] rfl rfl (one_of HT_.out (by kernel_rfl)) (by decide) (fun K hK => ?_)
                refine goes_ Try.func44 (by kernel_rfl) rfl #[.slice (some ad248) l0.length c0, .int .i64 (rd ((rd_T46 l0 a1).f2) x8_2), .slice Ao35 y268.length co35] (by rfl) rfl rfl (by (try simp only [List.map_toArray, List.map_cons, List.map_nil]); first | done | rfl | (simp only [List.length_drop, List.length_take]; rfl)) ?_
                with_reducible refine (ih k2 (by have := HJ5.out; have := HK2.out; omega) _ _ l0 (rd ((rd_T46 l0 a1).f2) x8_2) _ _ y268 t271 _ ?side1 ?side2 ?side3 ?side4 A23.out).mono ?_
                (case side1 => exact iC HR0 HB)
                (case side2 => exact HC0.out)
                (case side3 => repeat (first | exact (Kd.R_reads' HO270.out).2.2 | (with_reducible refine Kd.C_alloc ?_ _) | (with_reducible refine Kd.C_drewN ?_ _) | (with_reducible refine Kd.C_drew ?_)))
                (case side4 => exact (Kd.R_reads' HO270.out).2.1)
                rintro e w36 ⟨v272, rfl, ho0, hb⟩
                refine ⟨_, rfl, ?_⟩
                have n0_ := Aside0.mk (Kd.R_elder' (iR HO_7) (Kd.R_base ho0) hb)
                have n1_ := jR HO267 hb
                have n2_ := jR HO270 hb
                have n3_ := Aside0.mk (Kd.R_lower (Kd.R_new' ho0 (Kd.R_lt (iR HO_7))) (below_size (iL HB)))
                have n4_ := jL HB hb
                clear HO_7
                clear HO267
                clear HO270
                clear HB
                have HO_7 := n0_
                have HO267 := n1_
                have HO270 := n2_
                have HO273 := n3_
                have HB := n4_
                clear n0_ n1_ n2_ n3_ n4_
                (try clear hb)
                (try clear hb2)
                (try clear hk)
                (try clear hi)
                (try clear ho0)
                obtain ⟨Ao38, co38, eo38⟩ := Kd.R_slice HO273.out
                (first | subst eo38 | (injection eo38 with f1_ f2_ f3_; have f4_ := f1_.symm; have f5_ := f3_.symm; clear f1_ f2_ f3_; subst f4_; subst f5_))
                refine hK.out _ _ ⟨((HB.out.cell (World.block_lt_of_cell? w _ hw264_0)).trans hw264_0), ((HB.out.cell (World.block_lt_of_cell? w _ hw264_1)).trans hw264_1), ((HB.out.cell (World.block_lt_of_cell? w _ hw264_2)).trans hw264_2)⟩ (fun hHeld => ?_)
                clear hK K
                refine norm_ (a' := ?_) ?_ ?_
                rotate_left
                ·show Act.put _ (some 52) _ = _
                 simp only [Act.put, List.setIfInBounds_toArray, List.set_cons_zero, List.set_cons_succ, i64_w, i32_w]
                 rfl
                refine one_ (i := 15) (N := some 53) #[true, true, true, true, true, true, true, true, true, true, true, true, true, true, true, true, false] rfl rfl (one_of HT_.out (by kernel_rfl)) (by decide) (fun K hK => ?_)
                refine Kd.R_append_rows_step Kd.string (w0 := w) w.heap.size (by rfl) (.tmp 38) (.tmp 52) 24 9 (.string ⟨#[]⟩) 16 rfl Try.underlying24 info9 rfl (by decide) (by omega) (.slice Ao25 x7_2.length co25) x7_2 t271 _ _ _ (fun k_ => some k_ ≠ (.slice Ao38 t271.length co38 : Value).ownBlock) (fun _ => False) rfl rfl ?aO ?aR (fun _ _ h => h) (fun _ h => h.elim) ?aF ?aB ?aS ?aL ?_
                (case aR => repeat (first | exact (Kd.R_reads' HO273.out).2.2 | (with_reducible refine Kd.C_alloc ?_ _) | (with_reducible refine Kd.C_drewN ?_ _) | (with_reducible refine Kd.C_drew ?_)))
                (case aB => exact (iL HB))
                (case aF => exact (fun k_ hk => Kd.fresh' (Kd.R_lt (iR HO273)) k_ hk))
                (case aO => exact (by (with_reducible repeat (first | apply Kd.R_alloc | apply Kd.R_drewN | apply Kd.R_drew)); exact Kd.R_mono HO_7.out (fun _ hk => hk.2)))
                (case aS => exact (below_size (iL HB)))
                (case aL => have := LMc24.out; omega)
                intro v275 w37 ho hb hg hat
                rw [← Ny274.out] at ho
                have n0_ := Aside0.mk (Kd.R_over' (iR HO267) (Kd.R_typed (iR HO_7)) (by decide) hg)
                have n1_ := Aside0.mk (Kd.R_over' (iR HO270) (Kd.R_typed (iR HO_7)) (by decide) hg)
                have n2_ := Aside0.mk (Kd.R_after (ok := (fun _ => True)) (iR HO273) hg hat)
                have n3_ := Aside0.mk (hb)
                have n4_ := Aside0.mk (ho)
                clear HO267
                clear HO270
                clear HO273
                clear HB
                clear HO_7
                have HO267 := n0_
                have HO270 := n1_
                have HO273 := n2_
                have HB := n3_
                have HO276 := n4_
                clear n0_ n1_ n2_ n3_ n4_
                clear ho hb hg hat
                refine hK.out _ _ ⟨((HB.out.cell (World.block_lt_of_cell? w _ hw264_0)).trans hw264_0), ((HB.out.cell (World.block_lt_of_cell? w _ hw264_1)).trans hw264_1), ((HB.out.cell (World.block_lt_of_cell? w _ hw264_2)).trans hw264_2)⟩ (fun hHeld => ?_)
                clear hK K
                refine norm_ (a' := ?_) ?_ ?_
                rotate_left
                ·show Act.put _ (some 53) _ = _
                 simp only [Act.put, List.setIfInBounds_toArray, List.set_cons_zero, List.set_cons_succ, i64_w, i32_w]
                 rfl
                refine pv_ 16 (some 7) HT_ ?_
                refine done_ (done_of HT_.out (by kernel_rfl)) ?_
                try go_wp2
                go_roundg k2
                case measure => have := HJ5.out; have := HK2.out; omega
                case rel => exact ⟨(y274), (wrap64 (x8_2 + 1)), eV, H', ⟨by have := HJ5.out; have := HK2.out; omega⟩, ⟨by (with_reducible repeat (first | apply Kd.R_alloc | apply Kd.R_drewN | apply Kd.R_drew)); exact Kd.R_mono HO276.out (fun _ hk => trivial)⟩, ⟨iL HB⟩⟩
               ·rw [if_neg c24] at H
                exact absurd H (by simp)
              ·rw [if_neg c22] at H
               exact absurd H (by simp)
             ·rw [if_neg c21] at H
              exact absurd H (by simp)
            ·rw [if_neg c20] at H
             exact absurd H (by simp)
           ·rw [if_neg c19] at H
            exact absurd H (by simp)
          ·rw [if_neg c18] at H
           exact absurd H (by simp)
         ·rw [if_neg c17] at H
          have c17b0 : decide (x8_2 < (((rd_T46 l0 a1).f2).length : Int)) = false := decide_eq_false c17
          clear c17
          obtain rfl := Option.some.inj H
          have p255 := oD (0 ≤ (a1 : Int))
          have q255 := oD (a1 < (l0.length : Int))
          obtain ⟨ad255, A255_2, c255_2, e255, hx255_0, hx255_1, hx255_2, hl255_2, hi255_2⟩ := at_T46 HR0.out a1 p255 q255
          obtain rfl : ad248 = ad255 := (by injection e255)
          replace hx255_0 := (HB.out.cell (World.block_lt_of_cell? w _ hx255_0)).trans hx255_0
          replace hx255_1 := (HB.out.cell (World.block_lt_of_cell? w _ hx255_1)).trans hx255_1
          replace hx255_2 := (HB.out.cell (World.block_lt_of_cell? w _ hx255_2)).trans hx255_2
          have HR255_2 := Aside0.mk hi255_2
          have HC255_2 := Aside0.mk hl255_2
          clear hi255_2 hl255_2
          replace p255 := eq_true p255
          replace q255 := eq_true q255
          go_wp2
          go_ret
          exact ⟨_, eV, by (with_reducible repeat (first | apply Kd.R_alloc | apply Kd.R_drewN | apply Kd.R_drew)); exact HO_7.out, iL HB⟩
        ·rw [if_neg c16] at H
         exact absurd H (by simp)
       ·rw [if_neg c15] at H
        exact absurd H (by simp)
  ·rw [if_neg c5] at H
   exact absurd H (by simp)
 ·rw [if_neg c4] at H
  exact absurd H (by simp)

end Go.Proofs.Ytdaooagikacboaa.X
