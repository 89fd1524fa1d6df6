-- and more
-- shortened
-- thinned
-- halved indents
-- printed by this session's xprint.py: out of the translation, by the kit's print with additions; Lean checks it
import Derived.Test.YtnjiniegpjfemaaDoorXE
import Derived.Test.YtnjiniegpjfemaaDoorXC
import Derived.Test.YtnjiniegpjfemaaDoorWN
import Derived.Test.YtnjiniegpjfemaaDoorWShare
import Derived.Test.YtnjiniegpjfemaaDoorWRepsOne
import Derived.Test.YtnjiniegpjfemaaDoorWGuard
import Derived.Test.YtnjiniegpjfemaaDoorX0
import Derived.Test.YtnjiniegpjfemaaDoorX1
import Derived.Test.YtnjiniegpjfemaaDoorX3
import Derived.Test.YtnjiniegpjfemaaDoorX4
import Derived.Test.YtnjiniegpjfemaaDoorX5
import Derived.Test.YtnjiniegpjfemaaDoorX6
import Derived.Test.YtnjiniegpjfemaaDoorXA
namespace Go.Proofs.YtnjiniegpjfemaaDoor.X
open Go.RowKit Go.Proofs.YtnjiniegpjfemaaDoorW.PrintWords Go.Proofs.YtnjiniegpjfemaaDoorW.PrintLast Go.Proofs.YtnjiniegpjfemaaDoorW.PrintMore
attribute [local go_sem] max2_int min2_int max_two min_two max_three min_three max_four min_four isSome_setCell binOp_gtr_str binOp_leq_str binOp_geq_str   -- for this text's walks alone
set_option linter.unusedVariables false
set_option linter.unusedSimpArgs false

/-! ### ancepslaw11_SoundJoined: function 10 -/
mutual
def ancepslaw11_SoundJoined.j0 : Nat → List Int → List Int → Bool → Option (Bool)
 | 0, _, _, _ => none
 | k + 1, x0, x1, x30 => if x30 = true then ((ancepslaw11_awake.f k).bind fun t219 => (some t219)) else ((ancepsref11_All.f k x0).bind fun t220 => ((ancepsref11_All.f k x1).bind fun t223 => ((api_Sound_34.f (([t220, t223] : List (List (S23))))).bind fun t229 => ((sound_Beats.f k t229).bind fun t232 => ((sound_Beats.f k t220).bind fun t233 => ((sound_Beats.f k t223).bind fun t234 => (if t232 = (wrap64 (t233 + t234)) then ((sound_Nuclei.f k t229).bind fun t235 => ((sound_Nuclei.f k t220).bind fun t238 => ((sound_Nuclei.f k t223).bind fun t241 => (ancepslaw11_SoundJoined.j1 k t220 t223 t229 ((t235.length : Int) != (wrap64 ((t238.length : Int) + (t241.length : Int)))))))) else (none))))))))
def ancepslaw11_SoundJoined.j1 : Nat → List (S23) → List (S23) → List (S23) → Bool → Option (Bool)
 | 0, _, _, _, _ => none
 | k + 1, x5, x6, x7, x60 => if x60 = true then (none) else ((sound_Clusters.f k x5).bind fun t244 => ((sound_Clusters.f k x6).bind fun t247 => ((sound_Clusters.f k x7).bind fun t250 => (if (t244.length : Int) = 0 then (none) else (ancepslaw11_SoundJoined.j2 k x5 x6 x7 t244 t247 t250 ((t247.length : Int) == 0))))))
def ancepslaw11_SoundJoined.j2 : Nat → List (S23) → List (S23) → List (S23) → List (List (S23)) → List (List (S23)) → List (List (S23)) → Bool → Option (Bool)
 | 0, _, _, _, _, _, _, _ => none
 | k + 1, x5, x6, x7, x8, x9, x10, x74 => if x74 = true then (none) else (if 0 ≤ (wrap64 ((x8.length : Int) - 1)) then (if (wrap64 ((x8.length : Int) - 1)) < (x8.length : Int) then (if 0 < (x9.length : Int) then ((api_Sound_34.f (([rd_L3 x8 (wrap64 ((x8.length : Int) - 1)), rd_L3 x9 0] : List (List (S23))))).bind fun t258 => (if (wrap64 ((x8.length : Int) - 1)) ≤ (x8.length : Int) then (if 1 ≤ (x9.length : Int) then ((api_Sound_35.f (([(x8.take ((wrap64 ((x8.length : Int) - 1)) : Int).toNat), (([t258] : List (List (S23)))), (x9.drop 1)] : List (List (List (S23)))))).bind fun t277 => ((ancepsref11_SameLists.f k x10 t277).bind fun t280 => (if t280 = true then ((sound_Format.f k x5).bind fun bt281 => ((sound_Format.f k x6).bind fun bt283 => ((sound_Format.f k x7).bind fun bt285 => (if (x5.length : Int) > 0 then (if (x6.length : Int) > 0 then (if bt281.1.size + 1 ≤ 9223372036854775807 then (if bt281.2 = 0 then (if bt283.2 = 0 then (if bt285.2 = 0 then (if (bt281.1 ++ (⟨#[32]⟩ : ByteArray)).size + bt283.1.size ≤ 9223372036854775807 then (some (bt285.1.toList == ((bt281.1 ++ (⟨#[32]⟩ : ByteArray)) ++ bt283.1).toList)) else (none)) else (none)) else (none)) else (none)) else (none)) else (if bt281.2 = 0 then (if bt283.2 = 0 then (if bt285.2 = 0 then (if bt281.1.size + bt283.1.size ≤ 9223372036854775807 then (some (bt285.1.toList == (bt281.1 ++ bt283.1).toList)) else (none)) else (none)) else (none)) else (none))) else (if bt281.2 = 0 then (if bt283.2 = 0 then (if bt285.2 = 0 then (if bt281.1.size + bt283.1.size ≤ 9223372036854775807 then (some (bt285.1.toList == (bt281.1 ++ bt283.1).toList)) else (none)) else (none)) else (none)) else (none)))))) else (none)))) else (none)) else (none))) else (none)) else (none)) else (none))
end
def ancepslaw11_SoundJoined.f (k : Nat) (l0 : List Int) (l1 : List Int) : Option (Bool) := (ancepslaw11_awake.f k).bind fun t218 => (if t218 = true then (if (l0.length : Int) > 100 then (ancepslaw11_SoundJoined.j0 k l0 l1 true) else (ancepslaw11_SoundJoined.j0 k l0 l1 (decide ((l1.length : Int) > 100)))) else (ancepslaw11_SoundJoined.j0 k l0 l1 true))
theorem ancepslaw11_SoundJoined.mono_l : ∀ k, (∀ y0 y1 y2, LeO (ancepslaw11_SoundJoined.j0 k y0 y1 y2) (ancepslaw11_SoundJoined.j0 (k + 1) y0 y1 y2)) ∧ (∀ y0 y1 y2 y3, LeO (ancepslaw11_SoundJoined.j1 k y0 y1 y2 y3) (ancepslaw11_SoundJoined.j1 (k + 1) y0 y1 y2 y3)) ∧ (∀ y0 y1 y2 y3 y4 y5 y6, LeO (ancepslaw11_SoundJoined.j2 k y0 y1 y2 y3 y4 y5 y6) (ancepslaw11_SoundJoined.j2 (k + 1) y0 y1 y2 y3 y4 y5 y6))
 | 0 => ⟨fun _ _ _ r h => by simp [ancepslaw11_SoundJoined.j0] at h, fun _ _ _ _ r h => by simp [ancepslaw11_SoundJoined.j1] at h, fun _ _ _ _ _ _ _ r h => by simp [ancepslaw11_SoundJoined.j2] at h⟩
 | k + 1 => by
  obtain ⟨ih0, ih1, ih2⟩ := ancepslaw11_SoundJoined.mono_l k
  refine ⟨?_, ?_, ?_⟩
  ·intro y0 y1 y2
   unfold ancepslaw11_SoundJoined.j0
   repeat' first
   | (with_reducible exact ih0 _ _ _)
   | (with_reducible exact ih1 _ _ _ _)
   | (with_reducible exact ih2 _ _ _ _ _ _ _)
   | (with_reducible exact ancepslaw11_awake.mono _)
   | (with_reducible exact ancepsref11_All.mono _ _)
   | (with_reducible exact ancepsref11_SameLists.mono _ _ _)
   | (with_reducible exact sound_Beats.mono _ _)
   | (with_reducible exact sound_Clusters.mono _ _)
   | (with_reducible exact sound_Format.mono _ _)
   | (with_reducible exact sound_Nuclei.mono _ _)
   | (with_reducible exact LeO.refl _)
   | (with_reducible exact LeO.none _)
   | (with_reducible refine LeO.ite ?_ ?_)
   | (with_reducible refine LeO.bind ?_ (fun _ => ?_))
   | exact ih0 _ _ _
   | exact ih1 _ _ _ _
   | exact ih2 _ _ _ _ _ _ _
   | exact ancepslaw11_awake.mono _
   | exact ancepsref11_All.mono _ _
   | exact ancepsref11_SameLists.mono _ _ _
   | exact sound_Beats.mono _ _
   | exact sound_Clusters.mono _ _
   | exact sound_Format.mono _ _
   | exact sound_Nuclei.mono _ _
   | exact LeO.none _
   | refine LeO.ite ?_ ?_
   | refine LeO.bind ?_ (fun _ => ?_)
  ·intro y0 y1 y2 y3
   unfold ancepslaw11_SoundJoined.j1
   repeat' first
   | (with_reducible exact ih0 _ _ _)
   | (with_reducible exact ih1 _ _ _ _)
   | (with_reducible exact ih2 _ _ _ _ _ _ _)
   | (with_reducible exact ancepslaw11_awake.mono _)
   | (with_reducible exact ancepsref11_All.mono _ _)
   | (with_reducible exact ancepsref11_SameLists.mono _ _ _)
   | (with_reducible exact sound_Beats.mono _ _)
   | (with_reducible exact sound_Clusters.mono _ _)
   | (with_reducible exact sound_Format.mono _ _)
   | (with_reducible exact sound_Nuclei.mono _ _)
   | (with_reducible exact LeO.refl _)
   | (with_reducible exact LeO.none _)
   | (with_reducible refine LeO.ite ?_ ?_)
   | (with_reducible refine LeO.bind ?_ (fun _ => ?_))
   | exact ih0 _ _ _
   | exact ih1 _ _ _ _
   | exact ih2 _ _ _ _ _ _ _
   | exact ancepslaw11_awake.mono _
   | exact ancepsref11_All.mono _ _
   | exact ancepsref11_SameLists.mono _ _ _
   | exact sound_Beats.mono _ _
   | exact sound_Clusters.mono _ _
   | exact sound_Format.mono _ _
   | exact sound_Nuclei.mono _ _
   | exact LeO.none _
   | refine LeO.ite ?_ ?_
   | refine LeO.bind ?_ (fun _ => ?_)
  ·intro y0 y1 y2 y3 y4 y5 y6
   unfold ancepslaw11_SoundJoined.j2
   repeat' first
   | (with_reducible exact ih0 _ _ _)
   | (with_reducible exact ih1 _ _ _ _)
   | (with_reducible exact ih2 _ _ _ _ _ _ _)
   | (with_reducible exact ancepslaw11_awake.mono _)
   | (with_reducible exact ancepsref11_All.mono _ _)
   | (with_reducible exact ancepsref11_SameLists.mono _ _ _)
   | (with_reducible exact sound_Beats.mono _ _)
   | (with_reducible exact sound_Clusters.mono _ _)
   | (with_reducible exact sound_Format.mono _ _)
   | (with_reducible exact sound_Nuclei.mono _ _)
   | (with_reducible exact LeO.refl _)
   | (with_reducible exact LeO.none _)
   | (with_reducible refine LeO.ite ?_ ?_)
   | (with_reducible refine LeO.bind ?_ (fun _ => ?_))
   | exact ih0 _ _ _
   | exact ih1 _ _ _ _
   | exact ih2 _ _ _ _ _ _ _
   | exact ancepslaw11_awake.mono _
   | exact ancepsref11_All.mono _ _
   | exact ancepsref11_SameLists.mono _ _ _
   | exact sound_Beats.mono _ _
   | exact sound_Clusters.mono _ _
   | exact sound_Format.mono _ _
   | exact sound_Nuclei.mono _ _
   | exact LeO.none _
   | refine LeO.ite ?_ ?_
   | refine LeO.bind ?_ (fun _ => ?_)
theorem ancepslaw11_SoundJoined.mono : ∀ a0 a1 k, LeO (ancepslaw11_SoundJoined.f k a0 a1) (ancepslaw11_SoundJoined.f (k + 1) a0 a1) := by
 intro a0 a1 k
 obtain ⟨ih0, ih1, ih2⟩ := ancepslaw11_SoundJoined.mono_l k
 unfold ancepslaw11_SoundJoined.f
 repeat' first
   | (with_reducible exact ih0 _ _ _)
   | (with_reducible exact ih1 _ _ _ _)
   | (with_reducible exact ih2 _ _ _ _ _ _ _)
   | (with_reducible exact ancepslaw11_awake.mono _)
   | (with_reducible exact ancepsref11_All.mono _ _)
   | (with_reducible exact ancepsref11_SameLists.mono _ _ _)
   | (with_reducible exact sound_Beats.mono _ _)
   | (with_reducible exact sound_Clusters.mono _ _)
   | (with_reducible exact sound_Format.mono _ _)
   | (with_reducible exact sound_Nuclei.mono _ _)
   | (with_reducible exact LeO.refl _)
   | (with_reducible exact LeO.none _)
   | (with_reducible refine LeO.ite ?_ ?_)
   | (with_reducible refine LeO.bind ?_ (fun _ => ?_))
   | exact ih0 _ _ _
   | exact ih1 _ _ _ _
   | exact ih2 _ _ _ _ _ _ _
   | exact ancepslaw11_awake.mono _
   | exact ancepsref11_All.mono _ _
   | exact ancepsref11_SameLists.mono _ _ _
   | exact sound_Beats.mono _ _
   | exact sound_Clusters.mono _ _
   | exact sound_Format.mono _ _
   | exact sound_Nuclei.mono _ _
   | exact LeO.none _
   | refine LeO.ite ?_ ?_
   | refine LeO.bind ?_ (fun _ => ?_)
def ancepslaw11_SoundJoined.T11 : Bool × List (List Nat × List Nat) := (true, [([], []), ([], []), ([0, 1], [0, 1]), ([2], [2]), ([], []), ([4], [4]), ([5], [5]), ([3, 6], [3, 6]), ([7], [7]), ([8, 8, 0, 1, 2, 3, 4, 5, 6, 7, 8], [8])])
def ancepslaw11_SoundJoined.B11 : List Nat := [0, 0, 3, 7, 0, 16, 48, 127, 255, 511]
theorem ancepslaw11_SoundJoined.tab11 : rtab .any (opsOf Tryd.f10 11) = ancepslaw11_SoundJoined.T11 := by kernel_rfl
theorem ancepslaw11_SoundJoined.bits11 : waitsOk ancepslaw11_SoundJoined.T11.2 ancepslaw11_SoundJoined.B11 = true := by kernel_rfl
def ancepslaw11_SoundJoined.T12 : Bool × List (List Nat × List Nat) := (true, [([], []), ([], []), ([], []), ([1, 2], [1, 2]), ([], []), ([4], [4]), ([], []), ([6], [6]), ([3, 5, 7], [3, 5, 7]), ([8], [8]), ([0, 9, 9], [0, 9]), ([10], [10])])
def ancepslaw11_SoundJoined.B12 : List Nat := [0, 0, 0, 6, 0, 16, 0, 64, 254, 510, 1023, 2047]
theorem ancepslaw11_SoundJoined.tab12 : rtab .any (opsOf Tryd.f10 12) = ancepslaw11_SoundJoined.T12 := by kernel_rfl
theorem ancepslaw11_SoundJoined.bits12 : waitsOk ancepslaw11_SoundJoined.T12.2 ancepslaw11_SoundJoined.B12 = true := by kernel_rfl
set_option maxHeartbeats 8000000 in
set_option maxRecDepth 100000 in
theorem ancepslaw11_SoundJoined.calls (k : Nat) (A0 : Option Addr) (c0 : Nat) (l0 : List Int) (A1 : Option Addr) (c1 : Nat) (l1 : List Int) (r : Bool) (w : World) (hr0 : Kd.C (Kd.int .u8) w A0 l0.length l0) (hc0 : l0.length ≤ c0) (hr1 : Kd.C (Kd.int .u8) w A1 l1.length l1) (hc1 : l1.length ≤ c1) (h : ancepslaw11_SoundJoined.f k l0 l1 = some r) :
  Calls Tryd.prog 10 #[.slice A0 l0.length c0, .slice A1 l1.length c1] w fun e w' => e = .returned (.bool r) ∧ Below w.heap.size w w' := by
 have HR0 := Aside0.mk hr0
 have HC0 := Aside0.mk hc0
 clear hr0 hc0
 have HR1 := Aside0.mk hr1
 have HC1 := Aside0.mk hc1
 clear hr1 hc1
 have HB := Aside0.mk (Below.refl w.heap.size w)
 have H : ((ancepslaw11_awake.f k).bind fun t218 => (if t218 = true then (if (l0.length : Int) > 100 then (ancepslaw11_SoundJoined.j0 k l0 l1 true) else (ancepslaw11_SoundJoined.j0 k l0 l1 (decide ((l1.length : Int) > 100)))) else (ancepslaw11_SoundJoined.j0 k l0 l1 true))) = some r := h
 clear h
 have HC3 := Aside0.mk H
 clear H
 go_enter Tryd.func10, Tryd.ntmps10
 go_upto_region 1 with (fail)
 go_cut [30] (fun v30 wc => ∃ (kq : Nat) (x30_2 : Bool), v30 = .bool x30_2 ∧ Aside0 (ancepslaw11_SoundJoined.j0 kq l0 l1 x30_2 = some r) ∧ Aside0 (kq ≤ k) ∧ Aside0 (Below w.heap.size w wc))
 case first =>
  have H := HC3.out
  clear HC3
  replace H := Option.bind_eq_some_iff.mp H
  obtain ⟨t218, A40, H⟩ := H
  try dsimp only at H
  have A4 := Aside0.mk A40
  clear A40
  by_cases c5 : t218 = true
  ·subst c5
   have H1 : (if (l0.length : Int) > 100 then (ancepslaw11_SoundJoined.j0 k l0 l1 true) else (ancepslaw11_SoundJoined.j0 k l0 l1 (decide ((l1.length : Int) > 100)))) = some r := by rw [if_pos rfl] at H; exact H
   clear H
   have H := H1
   clear H1
   by_cases c6 : (l0.length : Int) > 100
   ·rw [if_pos c6] at H
    have c6b0 : decide (100 < (l0.length : Int)) = true := decide_eq_true c6
    have c6b1 : decide (100 < l0.length) = true := decide_eq_true (by omega)
    clear c6
    (first | rw [c6b0] | (simp only [i64_w, i32_w]; rw [c6b0]) | skip)
    have H' := Aside0.mk H
    clear H
    go_wp2_with (first | ((with_reducible refine gate_callee (f := 11) rfl ?_); refine gL_ (some 19) Tryd.func11 #[] ?_; (with_reducible refine (ancepslaw11_awake.calls k  true _ A4.out).mono ?_); rintro e w7 ⟨rfl, hb⟩; refine ⟨_, rfl, ?_⟩; have n0_ := jL HB hb; clear HB; have HB := n0_; clear n0_; (try clear hb)))
    go_meet
    case rel => exact ⟨_, (true), eV, H', ⟨by first | omega | exact Nat.le_refl _⟩, ⟨iL HB⟩⟩
   ·rw [if_neg c6] at H
    have c6b0 : decide (100 < (l0.length : Int)) = false := decide_eq_false c6
    have c6b1 : decide (100 < l0.length) = false := decide_eq_false (by omega)
    clear c6
    (first | rw [c6b0] | (simp only [i64_w, i32_w]; rw [c6b0]) | skip)
    have H' := Aside0.mk H
    clear H
    go_wp2_with (first | ((with_reducible refine gate_callee (f := 11) rfl ?_); refine gL_ (some 19) Tryd.func11 #[] ?_; (with_reducible refine (ancepslaw11_awake.calls k  true _ A4.out).mono ?_); rintro e w8 ⟨rfl, hb⟩; refine ⟨_, rfl, ?_⟩; have n0_ := jL HB hb; clear HB; have HB := n0_; clear n0_; (try clear hb)))
    go_meet
    case rel => exact ⟨_, (decide ((l1.length : Int) > 100)), eV, H', ⟨by first | omega | exact Nat.le_refl _⟩, ⟨iL HB⟩⟩
  ·replace c5 := Bool.eq_false_iff.mpr c5
   subst c5
   have H1 : (ancepslaw11_SoundJoined.j0 k l0 l1 true) = some r := by rw [if_neg (show ¬ (false = true) by decide)] at H; exact H
   clear H
   have H := H1
   clear H1
   have H' := Aside0.mk H
   clear H
   go_wp2_with (first | ((with_reducible refine gate_callee (f := 11) rfl ?_); refine gL_ (some 19) Tryd.func11 #[] ?_; (with_reducible refine (ancepslaw11_awake.calls k  false _ A4.out).mono ?_); rintro e w9 ⟨rfl, hb⟩; refine ⟨_, rfl, ?_⟩; have n0_ := jL HB hb; clear HB; have HB := n0_; clear n0_; (try clear hb)))
   go_meet
   case rel => exact ⟨_, (true), eV, H', ⟨by first | omega | exact Nat.le_refl _⟩, ⟨iL HB⟩⟩
 case rest =>
  clear HC3
  (try clear c1); (try clear p2); (try clear c5); (try clear c6); (try clear c6b0); (try clear c6b1)
  obtain ⟨kq, x30_2, rfl, HA, HJ2, HB⟩ := hcut
  cases kq with
  | zero => exact absurd HA.out (by simp [ancepslaw11_SoundJoined.j0])
  | succ kj2 =>
   have H := HA.out
   clear HA
   simp only [ancepslaw11_SoundJoined.j0] at H
   by_cases c10 : x30_2 = true
   ·subst c10
    have H1 : ((ancepslaw11_awake.f kj2).bind fun t219 => (some t219)) = some r := by rw [if_pos rfl] at H; exact H
    clear H
    have H := H1
    clear H1
    replace H := Option.bind_eq_some_iff.mp H
    obtain ⟨t219, A110, H⟩ := H
    replace H : (some t219) = some r := H
    have A11 := Aside0.mk A110
    clear A110
    obtain rfl := Option.some.inj H
    go_wp2_with (first | ((with_reducible refine gate_callee (f := 11) rfl ?_); refine gL_ (some 31) Tryd.func11 #[] ?_; (with_reducible refine (ancepslaw11_awake.calls kj2  t219 _ A11.out).mono ?_); rintro e w12 ⟨rfl, hb⟩; refine ⟨_, rfl, ?_⟩; have n0_ := jL HB hb; clear HB; have HB := n0_; clear n0_; (try clear hb)))
    go_ret
    exact ⟨eV, iL HB⟩
   ·replace c10 := Bool.eq_false_iff.mpr c10
    subst c10
    have H1 : ((ancepsref11_All.f kj2 l0).bind fun t220 => ((ancepsref11_All.f kj2 l1).bind fun t223 => ((api_Sound_34.f (([t220, t223] : List (List (S23))))).bind fun t229 => ((sound_Beats.f kj2 t229).bind fun t232 => ((sound_Beats.f kj2 t220).bind fun t233 => ((sound_Beats.f kj2 t223).bind fun t234 => (if t232 = (wrap64 (t233 + t234)) then ((sound_Nuclei.f kj2 t229).bind fun t235 => ((sound_Nuclei.f kj2 t220).bind fun t238 => ((sound_Nuclei.f kj2 t223).bind fun t241 => (ancepslaw11_SoundJoined.j1 kj2 t220 t223 t229 ((t235.length : Int) != (wrap64 ((t238.length : Int) + (t241.length : Int)))))))) else (none)))))))) = some r := by rw [if_neg (show ¬ (false = true) by decide)] at H; exact H
    clear H
    have H := H1
    clear H1
    replace H := Option.bind_eq_some_iff.mp H
    obtain ⟨t220, A130, H⟩ := H
    try dsimp only at H
    have A13 := Aside0.mk A130
    clear A130
    replace H := Option.bind_eq_some_iff.mp H
    obtain ⟨t223, A140, H⟩ := H
    try dsimp only at H
    have A14 := Aside0.mk A140
    clear A140
    obtain ⟨y226, hy226⟩ : ∃ y_ : List (List (S23)), y_ = (([t220, t223] : List (List (S23)))) := ⟨_, rfl⟩
    replace H : ((api_Sound_34.f y226).bind fun t229 => ((sound_Beats.f kj2 t229).bind fun t232 => ((sound_Beats.f kj2 t220).bind fun t233 => ((sound_Beats.f kj2 t223).bind fun t234 => (if t232 = (wrap64 (t233 + t234)) then ((sound_Nuclei.f kj2 t229).bind fun t235 => ((sound_Nuclei.f kj2 t220).bind fun t238 => ((sound_Nuclei.f kj2 t223).bind fun t241 => (ancepslaw11_SoundJoined.j1 kj2 t220 t223 t229 ((t235.length : Int) != (wrap64 ((t238.length : Int) + (t241.length : Int)))))))) else (none)))))) = some r := by first | (rw [hy226]; with_reducible exact H) | (have H2_ := (Option.bind_some _ _).symm.trans H; rw [hy226]; with_reducible exact H2_) | (have H2_ := (Option.bind_some _ _).symm.trans H; with_reducible exact H2_) | with_reducible exact H | (rw [hy226]; exact H) | exact H
    have Ny226 := Aside0.mk hy226
    clear hy226
    replace H := Option.bind_eq_some_iff.mp H
    obtain ⟨t229, A150, H⟩ := H
    try dsimp only at H
    have A15 := Aside0.mk A150
    clear A150
    have HC16 := Aside0.mk H
    clear H
    go_upto_region 5 with (first | ((with_reducible refine gate_callee (f := 17) rfl ?_); refine gL_ (some 33) Tryd.func17 #[.slice A0 l0.length c0] ?_; (with_reducible refine (ancepsref11_All.calls kj2 _ _ l0 t220 _ ?side1 ?side2 A13.out).mono ?_); (case side1 => exact iC HR0 HB); (case side2 => exact HC0.out); rintro e w17 ⟨v221, rfl, ho0, hb⟩; refine ⟨_, rfl, ?_⟩; have n0_ := Aside0.mk (Kd.R_lower ho0 (below_size (iL HB))); have n1_ := jL HB hb; clear HB; have HO222 := n0_; have HB := n1_; clear n0_ n1_; (try clear hb); (try clear ho0)) | ((with_reducible refine gate_callee (f := 17) rfl ?_); refine gL_ (some 35) Tryd.func17 #[.slice A1 l1.length c1] ?_; (with_reducible refine (ancepsref11_All.calls kj2 _ _ l1 t223 _ ?side1 ?side2 A14.out).mono ?_); (case side1 => exact iC HR1 HB); (case side2 => exact HC1.out); rintro e w18 ⟨v224, rfl, ho0, hb⟩; refine ⟨_, rfl, ?_⟩; have n0_ := Aside0.mk (Kd.R_elder' (iR HO222) (Kd.R_base ho0) hb); have n1_ := Aside0.mk (Kd.R_lower (Kd.R_new' ho0 (Kd.R_lt (iR HO222))) (below_size (iL HB))); have n2_ := jL HB hb; clear HO222; clear HB; have HO222 := n0_; have HO225 := n1_; have HB := n2_; clear n0_ n1_ n2_; (try clear hb); (try clear ho0); obtain ⟨Ao19, co19, eo19⟩ := Kd.R_slice HO222.out; subst eo19; obtain ⟨Ao20, co20, eo20⟩ := Kd.R_slice HO225.out; subst eo20) | ((with_reducible refine gate_dst (N := 38) rfl ?_); (try (refine gate_guard (by rfl) ?_; dsimp only)); refine Kd.N_lit (Kd.slice 23 k23) _ 26 ?hg (N' := 38) ?hd (xs := ([t220, t223] : List (List (S23)))) (inner := [.slice Ao19 t220.length co19, .slice Ao20 t223.length co20]) (ok := (fun _ => True)) (okp := (fun _ => True)) ?hr ?hp (fun _ hk => hk) ((show ∀ k_, w18.heap.size ≤ k_ → (fun _ => True) k_ from fun k_ hk => trivial) _ (Nat.le_refl _)) (Below.refl _ _) (Nat.le_refl _) (by simp) ?_; (case hd | hg => rfl); (case hr => first | (go_simp; done) | (go_simp; rfl)); (case hp => exact (Reps.one (show Kd.FK (Kd.slice 23 k23) _ _ t220 [.slice Ao19 t220.length co19] from (Kd.FK_slice_mk (Kd.R_reads' (Kd.R_mono (ok' := (fun _ => True)) (HO222.out) (fun k_ hk => trivial))).2.1 (Kd.R_F (Kd.R_mono (ok' := (fun _ => True)) (HO222.out) (fun k_ hk => trivial))))) (Reps.one (show Kd.FK (Kd.slice 23 k23) _ _ t223 [.slice Ao20 t223.length co20] from (Kd.FK_slice_mk (Kd.R_reads' (Kd.R_mono (ok' := (fun _ => True)) (HO225.out) (fun k_ hk => trivial))).2.1 (Kd.R_F (Kd.R_mono (ok' := (fun _ => True)) (HO225.out) (fun k_ hk => trivial))))) (Reps.none _ _)))); intro v227 w21 ho22 hb hg_ hnew_; clear hg_ hnew_; (first | rw [← Ny226.out] at ho22 | (simp only [Int.reduceToNat] at ho22; rw [← Ny226.out] at ho22)); have n0_ := jR HO222 hb; have n1_ := jR HO225 hb; have n2_ := Aside0.mk (Kd.N_lower ho22 (below_size (iL HB))); have n3_ := jL HB hb; clear HO222; clear HO225; clear HB; have HO222 := n0_; have HO225 := n1_; have HO228 := n2_; have HB := n3_; clear n0_ n1_ n2_ n3_; clear hb ho22; obtain ⟨Ao23, co23, eo23⟩ := Kd.N_slice HO228.out; subst eo23) | ((with_reducible refine gate_callee (f := 34) rfl ?_); refine gL_ (some 39) Tryd.func34 #[.slice Ao23 y226.length co23] ?_; (with_reducible refine (api_Sound_34.calls _ _ y226 t229 _ ?side1 ?side2 A15.out).mono ?_); (case side1 => repeat (first | exact (Kd.N_reads' HO228.out).2.2 | (with_reducible refine Kd.C_alloc ?_ _) | (with_reducible refine Kd.C_drewN ?_ _) | (with_reducible refine Kd.C_drew ?_))); (case side2 => exact (Kd.N_reads' HO228.out).2.1); rintro e w24 ⟨v230, rfl, ho0, hb⟩; refine ⟨_, rfl, ?_⟩; have n0_ := Aside0.mk (Kd.R_elder' (iR HO222) (Kd.R_base ho0) hb); have n1_ := Aside0.mk (Kd.R_elder' (iR HO225) (Kd.R_base ho0) hb); have n2_ := Aside0.mk (Kd.N_elder' (iN HO228) (Kd.R_base ho0) hb); have n3_ := Aside0.mk (Kd.R_lower (Kd.R_new' (Kd.R_new' ho0 (Kd.R_lt (iR HO222))) (Kd.R_lt (iR HO225))) (below_size (iL HB))); have n4_ := jL HB hb; clear HO222; clear HO225; clear HO228; clear HB; have HO222 := n0_; have HO225 := n1_; have HO228 := n2_; have HO231 := n3_; have HB := n4_; clear n0_ n1_ n2_ n3_ n4_; (try clear hb); (try clear ho0)))
    (try simp only [Act.put, List.setIfInBounds_toArray, List.set_cons_zero, List.set_cons_succ])
    go_cut [60] (fun v60 wc => ∃ (kq : Nat) (x60_15 : Bool), v60 = .bool x60_15 ∧ Aside0 (ancepslaw11_SoundJoined.j1 kq t220 t223 t229 x60_15 = some r) ∧ Aside0 (kq ≤ kj2) ∧ Aside0 (Kd.R k23 23 wc w.heap.size (fun k_ => some k_ ≠ ((.slice Ao20 t223.length co20) : Value).ownBlock ∧ some k_ ≠ (v230 : Value).ownBlock) (.slice Ao19 t220.length co19) t220) ∧ Aside0 (Kd.R k23 23 wc w.heap.size (fun k_ => some k_ ≠ ((.slice Ao19 t220.length co19) : Value).ownBlock ∧ some k_ ≠ (v230 : Value).ownBlock) (.slice Ao20 t223.length co20) t223) ∧ Aside0 (Kd.R k23 23 wc w.heap.size (fun k_ => some k_ ≠ ((.slice Ao19 t220.length co19) : Value).ownBlock ∧ some k_ ≠ ((.slice Ao20 t223.length co20) : Value).ownBlock) v230 t229) ∧ Aside0 (Below w.heap.size w wc))
    case first =>
     have H := HC16.out
     clear HC16
     replace H := Option.bind_eq_some_iff.mp H
     obtain ⟨t232, A250, H⟩ := H
     try dsimp only at H
     have A25 := Aside0.mk A250
     clear A250
     replace H := Option.bind_eq_some_iff.mp H
     obtain ⟨t233, A260, H⟩ := H
     try dsimp only at H
     have A26 := Aside0.mk A260
     clear A260
     replace H := Option.bind_eq_some_iff.mp H
     obtain ⟨t234, A270, H⟩ := H
     try dsimp only at H
     have A27 := Aside0.mk A270
     clear A270
     by_cases c28 : t232 = (wrap64 (t233 + t234))
     ·rw [if_pos c28] at H
      have c28b0 : (t232 == (wrap64 (t233 + t234))) = true := beq_iff_eq.mpr c28
      have c28b1 : (t232 != (wrap64 (t233 + t234))) = false := bne_eq_false_iff_eq.mpr c28
      clear c28
      (first | rw [c28b0] | (simp only [i64_w, i32_w]; rw [c28b0]) | skip)
      replace H := Option.bind_eq_some_iff.mp H
      obtain ⟨t235, A290, H⟩ := H
      try dsimp only at H
      have A29 := Aside0.mk A290
      clear A290
      replace H := Option.bind_eq_some_iff.mp H
      obtain ⟨t238, A300, H⟩ := H
      try dsimp only at H
      have A30 := Aside0.mk A300
      clear A300
      replace H := Option.bind_eq_some_iff.mp H
      obtain ⟨t241, A310, H⟩ := H
      try dsimp only at H
      have A31 := Aside0.mk A310
      clear A310
      have H' := Aside0.mk H
      clear H
      obtain ⟨Ao32, co32, eo32⟩ := Kd.R_slice HO231.out
      subst eo32
      go_wp2_with (first | ((with_reducible refine gate_callee (f := 20) rfl ?_); refine gL_ (some 41) Tryd.func20 #[.slice Ao32 t229.length co32] ?_; (with_reducible refine (sound_Beats.calls kj2 _ _ t229 t232 _ ?side1 ?side2 A25.out).mono ?_); (case side1 => repeat (first | exact (Kd.R_reads' HO231.out).2.2 | (with_reducible refine Kd.C_alloc ?_ _) | (with_reducible refine Kd.C_drewN ?_ _) | (with_reducible refine Kd.C_drew ?_))); (case side2 => exact (Kd.R_reads' HO231.out).2.1); rintro e w33 ⟨rfl, hb⟩; refine ⟨_, rfl, ?_⟩; have n0_ := jR HO222 hb; have n1_ := jR HO225 hb; have n2_ := Aside0.mk (Kd.N_below (iN HO228) hb); have n3_ := jR HO231 hb; have n4_ := jL HB hb; clear HO222; clear HO225; clear HO228; clear HO231; clear HB; have HO222 := n0_; have HO225 := n1_; have HO228 := n2_; have HO231 := n3_; have HB := n4_; clear n0_ n1_ n2_ n3_ n4_; (try clear hb)) | ((with_reducible refine gate_callee (f := 20) rfl ?_); refine gL_ (some 43) Tryd.func20 #[.slice Ao19 t220.length co19] ?_; (with_reducible refine (sound_Beats.calls kj2 _ _ t220 t233 _ ?side1 ?side2 A26.out).mono ?_); (case side1 => repeat (first | exact (Kd.R_reads' HO222.out).2.2 | (with_reducible refine Kd.C_alloc ?_ _) | (with_reducible refine Kd.C_drewN ?_ _) | (with_reducible refine Kd.C_drew ?_))); (case side2 => exact (Kd.R_reads' HO222.out).2.1); rintro e w34 ⟨rfl, hb⟩; refine ⟨_, rfl, ?_⟩; have n0_ := jR HO222 hb; have n1_ := jR HO225 hb; have n2_ := Aside0.mk (Kd.N_below (iN HO228) hb); have n3_ := jR HO231 hb; have n4_ := jL HB hb; clear HO222; clear HO225; clear HO228; clear HO231; clear HB; have HO222 := n0_; have HO225 := n1_; have HO228 := n2_; have HO231 := n3_; have HB := n4_; clear n0_ n1_ n2_ n3_ n4_; (try clear hb)) | ((with_reducible refine gate_callee (f := 20) rfl ?_); refine gL_ (some 45) Tryd.func20 #[.slice Ao20 t223.length co20] ?_; (with_reducible refine (sound_Beats.calls kj2 _ _ t223 t234 _ ?side1 ?side2 A27.out).mono ?_); (case side1 => repeat (first | exact (Kd.R_reads' HO225.out).2.2 | (with_reducible refine Kd.C_alloc ?_ _) | (with_reducible refine Kd.C_drewN ?_ _) | (with_reducible refine Kd.C_drew ?_))); (case side2 => exact (Kd.R_reads' HO225.out).2.1); rintro e w35 ⟨rfl, hb⟩; refine ⟨_, rfl, ?_⟩; have n0_ := jR HO222 hb; have n1_ := jR HO225 hb; have n2_ := Aside0.mk (Kd.N_below (iN HO228) hb); have n3_ := jR HO231 hb; have n4_ := jL HB hb; clear HO222; clear HO225; clear HO228; clear HO231; clear HB; have HO222 := n0_; have HO225 := n1_; have HO228 := n2_; have HO231 := n3_; have HB := n4_; clear n0_ n1_ n2_ n3_ n4_; (try clear hb)) | (go_at_call 18; (with_reducible refine (sound_Nuclei.calls kj2 _ _ t229 t235 _ ?side1 ?side2 A29.out).mono ?_); (case side1 => repeat (first | exact (Kd.R_reads' HO231.out).2.2 | (with_reducible refine Kd.C_alloc ?_ _) | (with_reducible refine Kd.C_drewN ?_ _) | (with_reducible refine Kd.C_drew ?_))); (case side2 => exact (Kd.R_reads' HO231.out).2.1); (try clear A29); rintro e w36 ⟨v236, rfl, ho0, hb⟩; have n0_ := jR HO222 hb; have n1_ := jR HO225 hb; have n2_ := Aside0.mk (Kd.N_elder' (iN HO228) (Kd.R_base ho0) hb); have n3_ := jR HO231 hb; have n4_ := Aside0.mk (Kd.R_lower ho0 (below_size (iL HB))); have n5_ := jL HB hb; clear HO222; clear HO225; clear HO228; clear HO231; clear HB; have HO222 := n0_; have HO225 := n1_; have HO228 := n2_; have HO231 := n3_; have HO237 := n4_; have HB := n5_; clear n0_ n1_ n2_ n3_ n4_ n5_; (try clear hb); (try clear ho0); obtain ⟨Ao37, co37, eo37⟩ := Kd.R_slice HO237.out; subst eo37) | (go_at_call 18; (with_reducible refine (sound_Nuclei.calls kj2 _ _ t220 t238 _ ?side1 ?side2 A30.out).mono ?_); (case side1 => repeat (first | exact (Kd.R_reads' HO222.out).2.2 | (with_reducible refine Kd.C_alloc ?_ _) | (with_reducible refine Kd.C_drewN ?_ _) | (with_reducible refine Kd.C_drew ?_))); (case side2 => exact (Kd.R_reads' HO222.out).2.1); (try clear A30); rintro e w38 ⟨v239, rfl, ho0, hb⟩; have n0_ := jR HO222 hb; have n1_ := jR HO225 hb; have n2_ := Aside0.mk (Kd.N_elder' (iN HO228) (Kd.R_base ho0) hb); have n3_ := jR HO231 hb; have n4_ := Aside0.mk (Kd.R_elder' (iR HO237) (Kd.R_base ho0) hb); have n5_ := Aside0.mk (Kd.R_lower (Kd.R_new' ho0 (Kd.R_lt (iR HO237))) (below_size (iL HB))); have n6_ := jL HB hb; clear HO222; clear HO225; clear HO228; clear HO231; clear HO237; clear HB; have HO222 := n0_; have HO225 := n1_; have HO228 := n2_; have HO231 := n3_; have HO237 := n4_; have HO240 := n5_; have HB := n6_; clear n0_ n1_ n2_ n3_ n4_ n5_ n6_; (try clear hb); (try clear ho0); obtain ⟨Ao39, co39, eo39⟩ := Kd.R_slice HO240.out; subst eo39) | (go_at_call 18; (with_reducible refine (sound_Nuclei.calls kj2 _ _ t223 t241 _ ?side1 ?side2 A31.out).mono ?_); (case side1 => repeat (first | exact (Kd.R_reads' HO225.out).2.2 | (with_reducible refine Kd.C_alloc ?_ _) | (with_reducible refine Kd.C_drewN ?_ _) | (with_reducible refine Kd.C_drew ?_))); (case side2 => exact (Kd.R_reads' HO225.out).2.1); (try clear A31); rintro e w40 ⟨v242, rfl, ho0, hb⟩; have n0_ := jR HO222 hb; have n1_ := jR HO225 hb; have n2_ := Aside0.mk (Kd.N_elder' (iN HO228) (Kd.R_base ho0) hb); have n3_ := jR HO231 hb; have n4_ := Aside0.mk (Kd.R_elder' (iR HO237) (Kd.R_base ho0) hb); have n5_ := Aside0.mk (Kd.R_elder' (iR HO240) (Kd.R_base ho0) hb); have n6_ := Aside0.mk (Kd.R_lower (Kd.R_new' (Kd.R_new' ho0 (Kd.R_lt (iR HO237))) (Kd.R_lt (iR HO240))) (below_size (iL HB))); have n7_ := jL HB hb; clear HO222; clear HO225; clear HO228; clear HO231; clear HO237; clear HO240; clear HB; have HO222 := n0_; have HO225 := n1_; have HO228 := n2_; have HO231 := n3_; have HO237 := n4_; have HO240 := n5_; have HO243 := n6_; have HB := n7_; clear n0_ n1_ n2_ n3_ n4_ n5_ n6_ n7_; (try clear hb); (try clear ho0); obtain ⟨Ao41, co41, eo41⟩ := Kd.R_slice HO243.out; subst eo41))
      go_meet
      case rel => exact ⟨_, (((t235.length : Int) != (wrap64 ((t238.length : Int) + (t241.length : Int))))), eV, H', ⟨by have := HJ2.out; first | omega | exact Nat.le_refl _⟩, ⟨by (with_reducible repeat (first | apply Kd.R_alloc | apply Kd.R_drewN | apply Kd.R_drew)); exact Kd.R_mono HO222.out (fun _ hk => ⟨hk.1.2, hk.2⟩)⟩, ⟨by (with_reducible repeat (first | apply Kd.R_alloc | apply Kd.R_drewN | apply Kd.R_drew)); exact Kd.R_mono HO225.out (fun _ hk => ⟨hk.1.2, hk.2⟩)⟩, ⟨by (with_reducible repeat (first | apply Kd.R_alloc | apply Kd.R_drewN | apply Kd.R_drew)); exact Kd.R_mono HO231.out (fun _ hk => ⟨hk.1.2, hk.2⟩)⟩, ⟨iL HB⟩⟩
     ·rw [if_neg c28] at H; cases H
    case rest =>
     clear HC16
     (try clear c1); (try clear c2); (try clear p2); (try clear c3); (try clear c5); (try clear c6); (try clear c6b0); (try clear c6b1); (try clear p6); (try clear c10); (try clear c11); (try clear c17); (try clear c20); (try clear c28); (try clear c28b0); (try clear c28b1); (try clear c34); (try clear p2)
     obtain ⟨kq, x60_15, rfl, HA, HJ15, HO_5, HO_6, HO_7, HB⟩ := hcut
     cases kq with
     | zero => exact absurd HA.out (by simp [ancepslaw11_SoundJoined.j1])
     | succ kj15 =>
      have H := HA.out
      clear HA
      simp only [ancepslaw11_SoundJoined.j1] at H
      by_cases c46 : x60_15 = true
      ·subst c46; rw [if_pos rfl] at H; cases H
      ·replace c46 := Bool.eq_false_iff.mpr c46
       subst c46
       have H1 : ((sound_Clusters.f kj15 t220).bind fun t244 => ((sound_Clusters.f kj15 t223).bind fun t247 => ((sound_Clusters.f kj15 t229).bind fun t250 => (if (t244.length : Int) = 0 then (none) else (ancepslaw11_SoundJoined.j2 kj15 t220 t223 t229 t244 t247 t250 ((t247.length : Int) == 0)))))) = some r := by rw [if_neg (show ¬ (false = true) by decide)] at H; exact H
       clear H
       have H := H1
       clear H1
       replace H := Option.bind_eq_some_iff.mp H
       obtain ⟨t244, A470, H⟩ := H
       try dsimp only at H
       have A47 := Aside0.mk A470
       clear A470
       replace H := Option.bind_eq_some_iff.mp H
       obtain ⟨t247, A480, H⟩ := H
       try dsimp only at H
       have A48 := Aside0.mk A480
       clear A480
       replace H := Option.bind_eq_some_iff.mp H
       obtain ⟨t250, A490, H⟩ := H
       try dsimp only at H
       have A49 := Aside0.mk A490
       clear A490
       have HC50 := Aside0.mk H
       clear H
       go_upto_region 8 with (first | ((with_reducible refine gate_callee (f := 19) rfl ?_); refine gL_ (some 62) Tryd.func19 #[.slice Ao19 t220.length co19] ?_; (with_reducible refine (sound_Clusters.calls kj15 _ _ t220 t244 _ ?side1 ?side2 A47.out).mono ?_); (case side1 => repeat (first | exact (Kd.R_reads' HO_5.out).2.2 | (with_reducible refine Kd.C_alloc ?_ _) | (with_reducible refine Kd.C_drewN ?_ _) | (with_reducible refine Kd.C_drew ?_))); (case side2 => exact (Kd.R_reads' HO_5.out).2.1); rintro e w51 ⟨v245, rfl, ho0, hb⟩; refine ⟨_, rfl, ?_⟩; have n0_ := jR HO_5 hb; have n1_ := jR HO_6 hb; have n2_ := jR HO_7 hb; have n3_ := Aside0.mk (Kd.N_lower (Kd.N_mono (ok' := fun k_ => some k_ ≠ (.slice Ao19 t220.length co19 : Value).ownBlock ∧ some k_ ≠ (.slice Ao20 t223.length co20 : Value).ownBlock ∧ some k_ ≠ (v230 : Value).ownBlock) (Kd.S_N (Kd.S_bound ho0)) (fun k_ hk_ => ⟨(Kd.fresh' (Kd.R_lt (iR HO_5)) k_ hk_.2.1), (Kd.fresh' (Kd.R_lt (iR HO_6)) k_ hk_.2.1), (Kd.fresh' (Kd.R_lt (iR HO_7)) k_ hk_.2.1)⟩)) (below_size (iL HB))); have n4_ := jL HB hb; clear HO_5; clear HO_6; clear HO_7; clear HB; have HO_5 := n0_; have HO_6 := n1_; have HO_7 := n2_; have HO246 := n3_; have HB := n4_; clear n0_ n1_ n2_ n3_ n4_; (try clear hb); (try clear ho0)) | ((with_reducible refine gate_callee (f := 19) rfl ?_); refine gL_ (some 64) Tryd.func19 #[.slice Ao20 t223.length co20] ?_; (with_reducible refine (sound_Clusters.calls kj15 _ _ t223 t247 _ ?side1 ?side2 A48.out).mono ?_); (case side1 => repeat (first | exact (Kd.R_reads' HO_6.out).2.2 | (with_reducible refine Kd.C_alloc ?_ _) | (with_reducible refine Kd.C_drewN ?_ _) | (with_reducible refine Kd.C_drew ?_))); (case side2 => exact (Kd.R_reads' HO_6.out).2.1); rintro e w52 ⟨v248, rfl, ho0, hb⟩; refine ⟨_, rfl, ?_⟩; have n0_ := jR HO_5 hb; have n1_ := jR HO_6 hb; have n2_ := jR HO_7 hb; have n3_ := Aside0.mk (Kd.N_elder' (iN HO246) (Kd.N_base (Kd.S_N ho0)) hb); have n4_ := Aside0.mk (Kd.N_lower (Kd.N_mono (ok' := fun k_ => some k_ ≠ (.slice Ao19 t220.length co19 : Value).ownBlock ∧ some k_ ≠ (.slice Ao20 t223.length co20 : Value).ownBlock ∧ some k_ ≠ (v230 : Value).ownBlock ∧ some k_ ≠ (v245 : Value).ownBlock) (Kd.S_N (Kd.S_bound ho0)) (fun k_ hk_ => ⟨(Kd.fresh' (Kd.R_lt (iR HO_5)) k_ hk_.2.1), (Kd.fresh' (Kd.R_lt (iR HO_6)) k_ hk_.2.1), (Kd.fresh' (Kd.R_lt (iR HO_7)) k_ hk_.2.1), (Kd.fresh' (Kd.N_lt (iN HO246)) k_ hk_.2.1)⟩)) (below_size (iL HB))); have n5_ := jL HB hb; clear HO_5; clear HO_6; clear HO_7; clear HO246; clear HB; have HO_5 := n0_; have HO_6 := n1_; have HO_7 := n2_; have HO246 := n3_; have HO249 := n4_; have HB := n5_; clear n0_ n1_ n2_ n3_ n4_ n5_; (try clear hb); (try clear ho0); obtain ⟨Ao53, co53, eo53⟩ := Kd.R_slice HO_7.out; subst eo53) | ((with_reducible refine gate_callee (f := 19) rfl ?_); refine gL_ (some 66) Tryd.func19 #[.slice Ao53 t229.length co53] ?_; (with_reducible refine (sound_Clusters.calls kj15 _ _ t229 t250 _ ?side1 ?side2 A49.out).mono ?_); (case side1 => repeat (first | exact (Kd.R_reads' HO_7.out).2.2 | (with_reducible refine Kd.C_alloc ?_ _) | (with_reducible refine Kd.C_drewN ?_ _) | (with_reducible refine Kd.C_drew ?_))); (case side2 => exact (Kd.R_reads' HO_7.out).2.1); rintro e w54 ⟨v251, rfl, ho0, hb⟩; refine ⟨_, rfl, ?_⟩; have n0_ := jR HO_5 hb; have n1_ := jR HO_6 hb; have n2_ := jR HO_7 hb; have n3_ := Aside0.mk (Kd.N_elder' (iN HO246) (Kd.N_base (Kd.S_N ho0)) hb); have n4_ := Aside0.mk (Kd.N_elder' (iN HO249) (Kd.N_base (Kd.S_N ho0)) hb); have n5_ := Aside0.mk (Kd.N_lower (Kd.N_mono (ok' := fun k_ => some k_ ≠ (.slice Ao19 t220.length co19 : Value).ownBlock ∧ some k_ ≠ (.slice Ao20 t223.length co20 : Value).ownBlock ∧ some k_ ≠ (.slice Ao53 t229.length co53 : Value).ownBlock ∧ some k_ ≠ (v245 : Value).ownBlock ∧ some k_ ≠ (v248 : Value).ownBlock) (Kd.S_N (Kd.S_bound ho0)) (fun k_ hk_ => ⟨(Kd.fresh' (Kd.R_lt (iR HO_5)) k_ hk_.2.1), (Kd.fresh' (Kd.R_lt (iR HO_6)) k_ hk_.2.1), (Kd.fresh' (Kd.R_lt (iR HO_7)) k_ hk_.2.1), (Kd.fresh' (Kd.N_lt (iN HO246)) k_ hk_.2.1), (Kd.fresh' (Kd.N_lt (iN HO249)) k_ hk_.2.1)⟩)) (below_size (iL HB))); have n6_ := jL HB hb; clear HO_5; clear HO_6; clear HO_7; clear HO246; clear HO249; clear HB; have HO_5 := n0_; have HO_6 := n1_; have HO_7 := n2_; have HO246 := n3_; have HO249 := n4_; have HO252 := n5_; have HB := n6_; clear n0_ n1_ n2_ n3_ n4_ n5_ n6_; (try clear hb); (try clear ho0)))
       (try simp only [Act.put, List.setIfInBounds_toArray, List.set_cons_zero, List.set_cons_succ])
       go_cut [74] (fun v74 wc => ∃ (kq : Nat) (x74_49 : Bool), v74 = .bool x74_49 ∧ Aside0 (ancepslaw11_SoundJoined.j2 kq t220 t223 t229 t244 t247 t250 x74_49 = some r) ∧ Aside0 (kq ≤ kj15) ∧ Aside0 (Kd.R k23 23 wc w.heap.size (fun k_ => some k_ ≠ ((.slice Ao20 t223.length co20) : Value).ownBlock ∧ some k_ ≠ ((.slice Ao53 t229.length co53) : Value).ownBlock) (.slice Ao19 t220.length co19) t220) ∧ Aside0 (Kd.R k23 23 wc w.heap.size (fun k_ => some k_ ≠ ((.slice Ao19 t220.length co19) : Value).ownBlock ∧ some k_ ≠ ((.slice Ao53 t229.length co53) : Value).ownBlock) (.slice Ao20 t223.length co20) t223) ∧ Aside0 (Kd.R k23 23 wc w.heap.size (fun k_ => some k_ ≠ ((.slice Ao19 t220.length co19) : Value).ownBlock ∧ some k_ ≠ ((.slice Ao20 t223.length co20) : Value).ownBlock) (.slice Ao53 t229.length co53) t229) ∧ Aside0 (Kd.N (Kd.slice 23 k23) 26 wc w.heap.size (fun k_ => some k_ ≠ ((.slice Ao19 t220.length co19) : Value).ownBlock ∧ some k_ ≠ ((.slice Ao20 t223.length co20) : Value).ownBlock ∧ some k_ ≠ ((.slice Ao53 t229.length co53) : Value).ownBlock ∧ some k_ ≠ (v248 : Value).ownBlock ∧ some k_ ≠ (v251 : Value).ownBlock) v245 t244) ∧ Aside0 (Kd.N (Kd.slice 23 k23) 26 wc w.heap.size (fun k_ => some k_ ≠ ((.slice Ao19 t220.length co19) : Value).ownBlock ∧ some k_ ≠ ((.slice Ao20 t223.length co20) : Value).ownBlock ∧ some k_ ≠ ((.slice Ao53 t229.length co53) : Value).ownBlock ∧ some k_ ≠ (v245 : Value).ownBlock ∧ some k_ ≠ (v251 : Value).ownBlock) v248 t247) ∧ Aside0 (Kd.N (Kd.slice 23 k23) 26 wc w.heap.size (fun k_ => some k_ ≠ ((.slice Ao19 t220.length co19) : Value).ownBlock ∧ some k_ ≠ ((.slice Ao20 t223.length co20) : Value).ownBlock ∧ some k_ ≠ ((.slice Ao53 t229.length co53) : Value).ownBlock ∧ some k_ ≠ (v245 : Value).ownBlock ∧ some k_ ≠ (v248 : Value).ownBlock) v251 t250) ∧ Aside0 (Below w.heap.size w wc))
       case first =>
        have H := HC50.out
        clear HC50
        by_cases c55 : (t244.length : Int) = 0
        ·rw [if_pos c55] at H; cases H
        ·rw [if_neg c55] at H
         have c55b0 : ((t244.length : Int) == 0) = false := beq_eq_false_iff_ne.mpr c55
         have c55b1 : ((t244.length : Int) != 0) = true := bne_iff_ne.mpr c55
         have c55b2 : ¬ (t244 = []) := fun h_ => c55 (by rw [h_]; rfl)
         (first | rw [c55b0] | (simp only [i64_w, i32_w]; rw [c55b0]) | skip)
         have H' := Aside0.mk H
         clear H
         obtain ⟨Ao57, co57, eo57⟩ := Kd.N_slice HO246.out
         subst eo57
         obtain ⟨Ao58, co58, eo58⟩ := Kd.N_slice HO249.out
         subst eo58
         go_wp2
         go_meet
         case rel => exact ⟨_, (((t247.length : Int) == 0)), eV, H', ⟨by have := HJ2.out; have := HJ15.out; first | omega | exact Nat.le_refl _⟩, ⟨iR HO_5⟩, ⟨iR HO_6⟩, ⟨iR HO_7⟩, ⟨by (with_reducible repeat (first | apply Kd.N_alloc | apply Kd.N_drewN | apply Kd.N_drew)); exact Kd.N_mono HO246.out (fun _ hk => ⟨hk.1.1.1, ⟨hk.1.1.2.1, ⟨hk.1.1.2.2, ⟨hk.1.2, hk.2⟩⟩⟩⟩)⟩, ⟨by (with_reducible repeat (first | apply Kd.N_alloc | apply Kd.N_drewN | apply Kd.N_drew)); exact Kd.N_mono HO249.out (fun _ hk => ⟨hk.1.1, ⟨hk.1.2.1, ⟨hk.1.2.2.1, ⟨hk.1.2.2.2, hk.2⟩⟩⟩⟩)⟩, ⟨iN HO252⟩, ⟨iL HB⟩⟩
       case rest =>
        clear HC50
        (try clear c1); (try clear c2); (try clear p2); (try clear c3); (try clear c4); (try clear c5); (try clear c6); (try clear c6b0); (try clear c6b1); (try clear p6); (try clear c10); (try clear c11); (try clear c17); (try clear c19); (try clear c20); (try clear c28); (try clear c28b0); (try clear c28b1); (try clear c34); (try clear c46); (try clear c55); (try clear c55b0); (try clear c55b1); (try clear c55b2); (try clear p2); (try clear p6)
        obtain ⟨kq, x74_49, rfl, HA, HJ49, HO_5, HO_6, HO_7, HO_8, HO_9, HO_10, HB⟩ := hcut
        cases kq with
        | zero => exact absurd HA.out (by simp [ancepslaw11_SoundJoined.j2])
        | succ kj49 =>
         have H := HA.out
         clear HA
         simp only [ancepslaw11_SoundJoined.j2] at H
         by_cases c59 : x74_49 = true
         ·subst c59; rw [if_pos rfl] at H; cases H
         ·replace c59 := Bool.eq_false_iff.mpr c59
          subst c59
          have H1 : (if 0 ≤ (wrap64 ((t244.length : Int) - 1)) then (if (wrap64 ((t244.length : Int) - 1)) < (t244.length : Int) then (if 0 < (t247.length : Int) then ((api_Sound_34.f (([rd_L3 t244 (wrap64 ((t244.length : Int) - 1)), rd_L3 t247 0] : List (List (S23))))).bind fun t258 => (if (wrap64 ((t244.length : Int) - 1)) ≤ (t244.length : Int) then (if 1 ≤ (t247.length : Int) then ((api_Sound_35.f (([(t244.take ((wrap64 ((t244.length : Int) - 1)) : Int).toNat), (([t258] : List (List (S23)))), (t247.drop 1)] : List (List (List (S23)))))).bind fun t277 => ((ancepsref11_SameLists.f kj49 t250 t277).bind fun t280 => (if t280 = true then ((sound_Format.f kj49 t220).bind fun bt281 => ((sound_Format.f kj49 t223).bind fun bt283 => ((sound_Format.f kj49 t229).bind fun bt285 => (if (t220.length : Int) > 0 then (if (t223.length : Int) > 0 then (if bt281.1.size + 1 ≤ 9223372036854775807 then (if bt281.2 = 0 then (if bt283.2 = 0 then (if bt285.2 = 0 then (if (bt281.1 ++ (⟨#[32]⟩ : ByteArray)).size + bt283.1.size ≤ 9223372036854775807 then (some (bt285.1.toList == ((bt281.1 ++ (⟨#[32]⟩ : ByteArray)) ++ bt283.1).toList)) else (none)) else (none)) else (none)) else (none)) else (none)) else (if bt281.2 = 0 then (if bt283.2 = 0 then (if bt285.2 = 0 then (if bt281.1.size + bt283.1.size ≤ 9223372036854775807 then (some (bt285.1.toList == (bt281.1 ++ bt283.1).toList)) else (none)) else (none)) else (none)) else (none))) else (if bt281.2 = 0 then (if bt283.2 = 0 then (if bt285.2 = 0 then (if bt281.1.size + bt283.1.size ≤ 9223372036854775807 then (some (bt285.1.toList == (bt281.1 ++ bt283.1).toList)) else (none)) else (none)) else (none)) else (none)))))) else (none)))) else (none)) else (none))) else (none)) else (none)) else (none)) = some r := by rw [if_neg (show ¬ (false = true) by decide)] at H; exact H
          clear H
          have H := H1
          clear H1
          obtain ⟨ji60, hji60⟩ : ∃ j_ : Int, (wrap64 ((t244.length : Int) - 1)) = j_ := ⟨_, rfl⟩
          replace H : (if 0 ≤ (ji60) then (if (ji60) < (t244.length : Int) then (if 0 < (t247.length : Int) then ((api_Sound_34.f (([rd_L3 t244 (ji60), rd_L3 t247 0] : List (List (S23))))).bind fun t258 => (if (ji60) ≤ (t244.length : Int) then (if 1 ≤ (t247.length : Int) then ((api_Sound_35.f (([(t244.take ((ji60) : Int).toNat), (([t258] : List (List (S23)))), (t247.drop 1)] : List (List (List (S23)))))).bind fun t277 => ((ancepsref11_SameLists.f kj49 t250 t277).bind fun t280 => (if t280 = true then ((sound_Format.f kj49 t220).bind fun bt281 => ((sound_Format.f kj49 t223).bind fun bt283 => ((sound_Format.f kj49 t229).bind fun bt285 => (if (t220.length : Int) > 0 then (if (t223.length : Int) > 0 then (if bt281.1.size + 1 ≤ 9223372036854775807 then (if bt281.2 = 0 then (if bt283.2 = 0 then (if bt285.2 = 0 then (if (bt281.1 ++ (⟨#[32]⟩ : ByteArray)).size + bt283.1.size ≤ 9223372036854775807 then (some (bt285.1.toList == ((bt281.1 ++ (⟨#[32]⟩ : ByteArray)) ++ bt283.1).toList)) else (none)) else (none)) else (none)) else (none)) else (none)) else (if bt281.2 = 0 then (if bt283.2 = 0 then (if bt285.2 = 0 then (if bt281.1.size + bt283.1.size ≤ 9223372036854775807 then (some (bt285.1.toList == (bt281.1 ++ bt283.1).toList)) else (none)) else (none)) else (none)) else (none))) else (if bt281.2 = 0 then (if bt283.2 = 0 then (if bt285.2 = 0 then (if bt281.1.size + bt283.1.size ≤ 9223372036854775807 then (some (bt285.1.toList == (bt281.1 ++ bt283.1).toList)) else (none)) else (none)) else (none)) else (none)))))) else (none)))) else (none)) else (none))) else (none)) else (none)) else (none)) = some r := by first | (rw [hji60] at H; exact H) | (simp only [hji60] at H ⊢; exact H)
          have hji60w : (IntKind.i64.wrap ((t244.length : Int) - 1)) = ji60 := (i64_w _).trans hji60
          by_cases c61 : 0 ≤ (ji60)
          ·rw [if_pos c61] at H
           have c61b0 : decide (0 ≤ (ji60)) = true := decide_eq_true c61
           clear c61
           by_cases c62 : (ji60) < (t244.length : Int)
           ·rw [if_pos c62] at H
            have c62b0 : decide ((ji60) < (t244.length : Int)) = true := decide_eq_true c62
            clear c62
            by_cases c63 : 0 < (t247.length : Int)
            ·rw [if_pos c63] at H
             have c63b0 : decide (0 < (t247.length : Int)) = true := decide_eq_true c63
             have c63b1 : decide (0 < t247.length) = true := decide_eq_true (by omega)
             clear c63
             obtain ⟨y255, hy255⟩ : ∃ y_ : List (List (S23)), y_ = (([rd_L3 t244 (ji60), rd_L3 t247 0] : List (List (S23)))) := ⟨_, rfl⟩
             replace H : ((api_Sound_34.f y255).bind fun t258 => (if (ji60) ≤ (t244.length : Int) then (if 1 ≤ (t247.length : Int) then ((api_Sound_35.f (([(t244.take ((ji60) : Int).toNat), (([t258] : List (List (S23)))), (t247.drop 1)] : List (List (List (S23)))))).bind fun t277 => ((ancepsref11_SameLists.f kj49 t250 t277).bind fun t280 => (if t280 = true then ((sound_Format.f kj49 t220).bind fun bt281 => ((sound_Format.f kj49 t223).bind fun bt283 => ((sound_Format.f kj49 t229).bind fun bt285 => (if (t220.length : Int) > 0 then (if (t223.length : Int) > 0 then (if bt281.1.size + 1 ≤ 9223372036854775807 then (if bt281.2 = 0 then (if bt283.2 = 0 then (if bt285.2 = 0 then (if (bt281.1 ++ (⟨#[32]⟩ : ByteArray)).size + bt283.1.size ≤ 9223372036854775807 then (some (bt285.1.toList == ((bt281.1 ++ (⟨#[32]⟩ : ByteArray)) ++ bt283.1).toList)) else (none)) else (none)) else (none)) else (none)) else (none)) else (if bt281.2 = 0 then (if bt283.2 = 0 then (if bt285.2 = 0 then (if bt281.1.size + bt283.1.size ≤ 9223372036854775807 then (some (bt285.1.toList == (bt281.1 ++ bt283.1).toList)) else (none)) else (none)) else (none)) else (none))) else (if bt281.2 = 0 then (if bt283.2 = 0 then (if bt285.2 = 0 then (if bt281.1.size + bt283.1.size ≤ 9223372036854775807 then (some (bt285.1.toList == (bt281.1 ++ bt283.1).toList)) else (none)) else (none)) else (none)) else (none)))))) else (none)))) else (none)) else (none))) = some r := by first | (rw [hy255]; with_reducible exact H) | (have H2_ := (Option.bind_some _ _).symm.trans H; rw [hy255]; with_reducible exact H2_) | (have H2_ := (Option.bind_some _ _).symm.trans H; with_reducible exact H2_) | with_reducible exact H | (rw [hy255]; exact H) | exact H
             have Ny255 := Aside0.mk hy255
             clear hy255
             replace H := Option.bind_eq_some_iff.mp H
             obtain ⟨t258, A640, H⟩ := H
             try dsimp only at H
             have A64 := Aside0.mk A640
             clear A640
             have c65b0 := eq_true (of_decide_eq_true (by first | (with_reducible assumption) | assumption) : 0 ≤ (ji60))
             by_cases c66 : (ji60) ≤ (t244.length : Int)
             ·rw [if_pos c66] at H
              have c66b0 := eq_true c66
              have c66b1 : decide ((ji60) ≤ (t244.length : Int)) = true := decide_eq_true c66
              clear c66
              obtain ⟨y261, hy261⟩ : ∃ y_ : List (List (S23)), y_ = (t244.take ((ji60) : Int).toNat) := ⟨_, rfl⟩
              replace H : (if 1 ≤ (t247.length : Int) then ((api_Sound_35.f (([y261, (([t258] : List (List (S23)))), (t247.drop 1)] : List (List (List (S23)))))).bind fun t277 => ((ancepsref11_SameLists.f kj49 t250 t277).bind fun t280 => (if t280 = true then ((sound_Format.f kj49 t220).bind fun bt281 => ((sound_Format.f kj49 t223).bind fun bt283 => ((sound_Format.f kj49 t229).bind fun bt285 => (if (t220.length : Int) > 0 then (if (t223.length : Int) > 0 then (if bt281.1.size + 1 ≤ 9223372036854775807 then (if bt281.2 = 0 then (if bt283.2 = 0 then (if bt285.2 = 0 then (if (bt281.1 ++ (⟨#[32]⟩ : ByteArray)).size + bt283.1.size ≤ 9223372036854775807 then (some (bt285.1.toList == ((bt281.1 ++ (⟨#[32]⟩ : ByteArray)) ++ bt283.1).toList)) else (none)) else (none)) else (none)) else (none)) else (none)) else (if bt281.2 = 0 then (if bt283.2 = 0 then (if bt285.2 = 0 then (if bt281.1.size + bt283.1.size ≤ 9223372036854775807 then (some (bt285.1.toList == (bt281.1 ++ bt283.1).toList)) else (none)) else (none)) else (none)) else (none))) else (if bt281.2 = 0 then (if bt283.2 = 0 then (if bt285.2 = 0 then (if bt281.1.size + bt283.1.size ≤ 9223372036854775807 then (some (bt285.1.toList == (bt281.1 ++ bt283.1).toList)) else (none)) else (none)) else (none)) else (none)))))) else (none)))) else (none)) = some r := by first | (rw [hy261]; with_reducible exact H) | (have H2_ := (Option.bind_some _ _).symm.trans H; rw [hy261]; with_reducible exact H2_) | (have H2_ := (Option.bind_some _ _).symm.trans H; with_reducible exact H2_) | with_reducible exact H | (rw [hy261]; exact H) | exact H
              have Ny261 := Aside0.mk hy261
              clear hy261
              obtain ⟨y266, hy266⟩ : ∃ y_ : List (List (S23)), y_ = (([t258] : List (List (S23)))) := ⟨_, rfl⟩
              replace H : (if 1 ≤ (t247.length : Int) then ((api_Sound_35.f (([y261, y266, (t247.drop 1)] : List (List (List (S23)))))).bind fun t277 => ((ancepsref11_SameLists.f kj49 t250 t277).bind fun t280 => (if t280 = true then ((sound_Format.f kj49 t220).bind fun bt281 => ((sound_Format.f kj49 t223).bind fun bt283 => ((sound_Format.f kj49 t229).bind fun bt285 => (if (t220.length : Int) > 0 then (if (t223.length : Int) > 0 then (if bt281.1.size + 1 ≤ 9223372036854775807 then (if bt281.2 = 0 then (if bt283.2 = 0 then (if bt285.2 = 0 then (if (bt281.1 ++ (⟨#[32]⟩ : ByteArray)).size + bt283.1.size ≤ 9223372036854775807 then (some (bt285.1.toList == ((bt281.1 ++ (⟨#[32]⟩ : ByteArray)) ++ bt283.1).toList)) else (none)) else (none)) else (none)) else (none)) else (none)) else (if bt281.2 = 0 then (if bt283.2 = 0 then (if bt285.2 = 0 then (if bt281.1.size + bt283.1.size ≤ 9223372036854775807 then (some (bt285.1.toList == (bt281.1 ++ bt283.1).toList)) else (none)) else (none)) else (none)) else (none))) else (if bt281.2 = 0 then (if bt283.2 = 0 then (if bt285.2 = 0 then (if bt281.1.size + bt283.1.size ≤ 9223372036854775807 then (some (bt285.1.toList == (bt281.1 ++ bt283.1).toList)) else (none)) else (none)) else (none)) else (none)))))) else (none)))) else (none)) = some r := by first | (rw [hy266]; with_reducible exact H) | (have H2_ := (Option.bind_some _ _).symm.trans H; rw [hy266]; with_reducible exact H2_) | (have H2_ := (Option.bind_some _ _).symm.trans H; with_reducible exact H2_) | with_reducible exact H | (rw [hy266]; exact H) | exact H
              have Ny266 := Aside0.mk hy266
              clear hy266
              by_cases c67 : 1 ≤ (t247.length : Int)
              ·rw [if_pos c67] at H
               have c67b0 := eq_true c67
               have c67b1 : decide (1 ≤ (t247.length : Int)) = true := decide_eq_true c67
               clear c67
               obtain ⟨y269, hy269⟩ : ∃ y_ : List (List (S23)), y_ = (t247.drop 1) := ⟨_, rfl⟩
               replace H : ((api_Sound_35.f (([y261, y266, y269] : List (List (List (S23)))))).bind fun t277 => ((ancepsref11_SameLists.f kj49 t250 t277).bind fun t280 => (if t280 = true then ((sound_Format.f kj49 t220).bind fun bt281 => ((sound_Format.f kj49 t223).bind fun bt283 => ((sound_Format.f kj49 t229).bind fun bt285 => (if (t220.length : Int) > 0 then (if (t223.length : Int) > 0 then (if bt281.1.size + 1 ≤ 9223372036854775807 then (if bt281.2 = 0 then (if bt283.2 = 0 then (if bt285.2 = 0 then (if (bt281.1 ++ (⟨#[32]⟩ : ByteArray)).size + bt283.1.size ≤ 9223372036854775807 then (some (bt285.1.toList == ((bt281.1 ++ (⟨#[32]⟩ : ByteArray)) ++ bt283.1).toList)) else (none)) else (none)) else (none)) else (none)) else (none)) else (if bt281.2 = 0 then (if bt283.2 = 0 then (if bt285.2 = 0 then (if bt281.1.size + bt283.1.size ≤ 9223372036854775807 then (some (bt285.1.toList == (bt281.1 ++ bt283.1).toList)) else (none)) else (none)) else (none)) else (none))) else (if bt281.2 = 0 then (if bt283.2 = 0 then (if bt285.2 = 0 then (if bt281.1.size + bt283.1.size ≤ 9223372036854775807 then (some (bt285.1.toList == (bt281.1 ++ bt283.1).toList)) else (none)) else (none)) else (none)) else (none)))))) else (none)))) = some r := by first | (rw [hy269]; with_reducible exact H) | (have H2_ := (Option.bind_some _ _).symm.trans H; rw [hy269]; with_reducible exact H2_) | (have H2_ := (Option.bind_some _ _).symm.trans H; with_reducible exact H2_) | with_reducible exact H | (rw [hy269]; exact H) | exact H
               have Ny269 := Aside0.mk hy269
               clear hy269
               obtain ⟨y274, hy274⟩ : ∃ y_ : List (List (List (S23))), y_ = (([y261, y266, y269] : List (List (List (S23))))) := ⟨_, rfl⟩
               replace H : ((api_Sound_35.f y274).bind fun t277 => ((ancepsref11_SameLists.f kj49 t250 t277).bind fun t280 => (if t280 = true then ((sound_Format.f kj49 t220).bind fun bt281 => ((sound_Format.f kj49 t223).bind fun bt283 => ((sound_Format.f kj49 t229).bind fun bt285 => (if (t220.length : Int) > 0 then (if (t223.length : Int) > 0 then (if bt281.1.size + 1 ≤ 9223372036854775807 then (if bt281.2 = 0 then (if bt283.2 = 0 then (if bt285.2 = 0 then (if (bt281.1 ++ (⟨#[32]⟩ : ByteArray)).size + bt283.1.size ≤ 9223372036854775807 then (some (bt285.1.toList == ((bt281.1 ++ (⟨#[32]⟩ : ByteArray)) ++ bt283.1).toList)) else (none)) else (none)) else (none)) else (none)) else (none)) else (if bt281.2 = 0 then (if bt283.2 = 0 then (if bt285.2 = 0 then (if bt281.1.size + bt283.1.size ≤ 9223372036854775807 then (some (bt285.1.toList == (bt281.1 ++ bt283.1).toList)) else (none)) else (none)) else (none)) else (none))) else (if bt281.2 = 0 then (if bt283.2 = 0 then (if bt285.2 = 0 then (if bt281.1.size + bt283.1.size ≤ 9223372036854775807 then (some (bt285.1.toList == (bt281.1 ++ bt283.1).toList)) else (none)) else (none)) else (none)) else (none)))))) else (none)))) = some r := by first | (rw [hy274]; with_reducible exact H) | (have H2_ := (Option.bind_some _ _).symm.trans H; rw [hy274]; with_reducible exact H2_) | (have H2_ := (Option.bind_some _ _).symm.trans H; with_reducible exact H2_) | with_reducible exact H | (rw [hy274]; exact H) | exact H
               have Ny274 := Aside0.mk hy274
               clear hy274
               replace H := Option.bind_eq_some_iff.mp H
               obtain ⟨t277, A680, H⟩ := H
               try dsimp only at H
               have A68 := Aside0.mk A680
               clear A680
               replace H := Option.bind_eq_some_iff.mp H
               obtain ⟨t280, A690, H⟩ := H
               try dsimp only at H
               have A69 := Aside0.mk A690
               clear A690
               by_cases c70 : t280 = true
               ·subst c70
                have H1 : ((sound_Format.f kj49 t220).bind fun bt281 => ((sound_Format.f kj49 t223).bind fun bt283 => ((sound_Format.f kj49 t229).bind fun bt285 => (if (t220.length : Int) > 0 then (if (t223.length : Int) > 0 then (if bt281.1.size + 1 ≤ 9223372036854775807 then (if bt281.2 = 0 then (if bt283.2 = 0 then (if bt285.2 = 0 then (if (bt281.1 ++ (⟨#[32]⟩ : ByteArray)).size + bt283.1.size ≤ 9223372036854775807 then (some (bt285.1.toList == ((bt281.1 ++ (⟨#[32]⟩ : ByteArray)) ++ bt283.1).toList)) else (none)) else (none)) else (none)) else (none)) else (none)) else (if bt281.2 = 0 then (if bt283.2 = 0 then (if bt285.2 = 0 then (if bt281.1.size + bt283.1.size ≤ 9223372036854775807 then (some (bt285.1.toList == (bt281.1 ++ bt283.1).toList)) else (none)) else (none)) else (none)) else (none))) else (if bt281.2 = 0 then (if bt283.2 = 0 then (if bt285.2 = 0 then (if bt281.1.size + bt283.1.size ≤ 9223372036854775807 then (some (bt285.1.toList == (bt281.1 ++ bt283.1).toList)) else (none)) else (none)) else (none)) else (none)))))) = some r := by rw [if_pos rfl] at H; exact H
                clear H
                have H := H1
                clear H1
                replace H := Option.bind_eq_some_iff.mp H
                obtain ⟨⟨t281, t282⟩, A710, H⟩ := H
                try dsimp only at H
                have A71 := Aside0.mk A710
                clear A710
                replace H := Option.bind_eq_some_iff.mp H
                obtain ⟨⟨t283, t284⟩, A720, H⟩ := H
                try dsimp only at H
                have A72 := Aside0.mk A720
                clear A720
                replace H := Option.bind_eq_some_iff.mp H
                obtain ⟨⟨t285, t286⟩, A730, H⟩ := H
                try dsimp only at H
                have A73 := Aside0.mk A730
                clear A730
                by_cases c74 : (t220.length : Int) > 0
                ·rw [if_pos c74] at H
                 have c74b0 : decide (0 < (t220.length : Int)) = true := decide_eq_true c74
                 have c74b1 : decide (0 < t220.length) = true := decide_eq_true (by omega)
                 clear c74
                 by_cases c75 : (t223.length : Int) > 0
                 ·rw [if_pos c75] at H
                  have c75b0 : decide (0 < (t223.length : Int)) = true := decide_eq_true c75
                  have c75b1 : decide (0 < t223.length) = true := decide_eq_true (by omega)
                  clear c75
                  by_cases c76 : t281.size + 1 ≤ 9223372036854775807
                  ·rw [if_pos c76] at H
                   have c76b0 := eq_true c76
                   have c76b1 : decide (t281.size + 1 ≤ 9223372036854775807) = true := decide_eq_true c76
                   try have c76b2 : (9223372036854775807 < t281.size + 1) = False := eq_false (Nat.not_lt.2 c76)
                   by_cases c77 : t282 = 0
                   ·rw [if_pos c77] at H
                    have c77b0 : (t282 == 0) = true := beq_iff_eq.mpr c77
                    have c77b1 : (t282 != 0) = false := bne_eq_false_iff_eq.mpr c77
                    clear c77
                    by_cases c78 : t284 = 0
                    ·rw [if_pos c78] at H
                     have c78b0 : (t284 == 0) = true := beq_iff_eq.mpr c78
                     have c78b1 : (t284 != 0) = false := bne_eq_false_iff_eq.mpr c78
                     clear c78
                     by_cases c79 : t286 = 0
                     ·rw [if_pos c79] at H
                      have c79b0 : (t286 == 0) = true := beq_iff_eq.mpr c79
                      have c79b1 : (t286 != 0) = false := bne_eq_false_iff_eq.mpr c79
                      clear c79
                      by_cases c80 : (t281 ++ (⟨#[32]⟩ : ByteArray)).size + t283.size ≤ 9223372036854775807
                      ·rw [if_pos c80] at H
                       have c80b0 := eq_true c80
                       have c80b1 : decide ((t281 ++ (⟨#[32]⟩ : ByteArray)).size + t283.size ≤ 9223372036854775807) = true := decide_eq_true c80
                       try have c80b2 : (9223372036854775807 < (t281 ++ (⟨#[32]⟩ : ByteArray)).size + t283.size) = False := eq_false (Nat.not_lt.2 c80)
                       have c80b3 : t281.size + 1 + t283.size ≤ 9223372036854775807 := by have h_ := c80; simp only [ByteArray.size_append] at h_; exact h_
                       have c80b4 : (9223372036854775807 < t281.size + 1 + t283.size) = False := eq_false (Nat.not_lt.2 c80b3)
                       have c80b5 : decide (t281.size + 1 + t283.size ≤ 9223372036854775807) = true := decide_eq_true c80b3
                       replace c80b3 := eq_true c80b3
                       obtain rfl := Option.some.inj H
                       obtain ⟨Ao81, co81, eo81⟩ := Kd.N_slice HO_8.out
                       subst eo81
                       try go_wp2
                       have n0_ := Aside0.mk (Kd.R_drew HO_5.out)
                       have n1_ := Aside0.mk (Kd.R_drew HO_6.out)
                       have n2_ := Aside0.mk (Kd.R_drew HO_7.out)
                       have n3_ := Aside0.mk (Kd.N_drew HO_8.out)
                       have n4_ := Aside0.mk (Kd.N_drew HO_9.out)
                       have n5_ := Aside0.mk (Kd.N_drew HO_10.out)
                       have n6_ := Aside0.mk (below_drew1 HB.out)
                       clear HO_5
                       clear HO_6
                       clear HO_7
                       clear HO_8
                       clear HO_9
                       clear HO_10
                       clear HB
                       have HO_5 := n0_
                       have HO_6 := n1_
                       have HO_7 := n2_
                       have HO_8 := n3_
                       have HO_9 := n4_
                       have HO_10 := n5_
                       have HB := n6_
                       clear n0_ n1_ n2_ n3_ n4_ n5_ n6_
                       have p253 := oD (0 ≤ ((ji60) : Int))
                       have q253 := oD ((ji60) < (t244.length : Int))
                       obtain ⟨ad253, A253_0, c253_0, e253, hx253_0, hl253_0, hi253_0⟩ := at_L3 (Kd.N_reads' HO_8.out).2.2 (ji60) p253 q253
                       cases e253
                       obtain ⟨ce253, hce253, hMe253, hcc253⟩ := Kd.N_get HO_8.out [] (ji60) p253 (by first | exact q253 | exact of_decide_eq_true (by first | (with_reducible assumption) | assumption) | (have e_ := (Kd.N_reads' HO_8.out).1; omega))
                       obtain ⟨ua253_0, uc253_0, rfl, ul253_0, ge253_0⟩ := Kd.FK_slice_open hMe253
                       have hv253_0 := hcc253 0 _ rfl
                       rw [Nat.add_zero, show ((Kd.slice 23 k23)).sz = 1 from rfl, Nat.mul_one] at hv253_0
                       replace hv253_0 := Option.some.inj (hv253_0.symm.trans hx253_0)
                       injection hv253_0 with hva_ hvn_ hvc_
                       rw [hva_] at ge253_0
                       rw [hvc_] at ul253_0
                       have HL253_0 := Aside0.mk (show Kd.V k23 23 _ w.heap.size _ _ (rd_L3 t244 (ji60)) from Kd.V_mk ul253_0 ge253_0)
                       clear hva_ hvn_ hvc_ ge253_0 ul253_0
                       clear hcc253 hce253
                       have HR253_0 := Aside0.mk hi253_0
                       have HC253_0 := Aside0.mk hl253_0
                       clear hi253_0 hl253_0
                       replace p253 := eq_true p253
                       replace q253 := eq_true q253
                       obtain ⟨Ao83, co83, eo83⟩ := Kd.N_slice HO_9.out
                       (first | subst eo83 | (injection eo83 with f1_ f2_ f3_; have f4_ := f1_.symm; have f5_ := f3_.symm; clear f1_ f2_ f3_; subst f4_; subst f5_))
                       have p254 : 0 ≤ (0 : Int) := (by omega)
                       have q254 := oD (0 < (t247.length : Int))
                       obtain ⟨ad254, A254_0, c254_0, e254, hx254_0, hl254_0, hi254_0⟩ := at_L3 (Kd.N_reads' HO_9.out).2.2 0 p254 q254
                       cases e254
                       obtain ⟨ce254, hce254, hMe254, hcc254⟩ := Kd.N_get HO_9.out [] 0 p254 (by first | exact q254 | exact of_decide_eq_true (by first | (with_reducible assumption) | assumption) | (have e_ := (Kd.N_reads' HO_9.out).1; omega))
                       obtain ⟨ua254_0, uc254_0, rfl, ul254_0, ge254_0⟩ := Kd.FK_slice_open hMe254
                       have hv254_0 := hcc254 0 _ rfl
                       rw [Nat.add_zero, show ((Kd.slice 23 k23)).sz = 1 from rfl, Nat.mul_one] at hv254_0
                       replace hv254_0 := Option.some.inj (hv254_0.symm.trans hx254_0)
                       injection hv254_0 with hva_ hvn_ hvc_
                       rw [hva_] at ge254_0
                       rw [hvc_] at ul254_0
                       have HL254_0 := Aside0.mk (show Kd.V k23 23 _ w.heap.size _ _ (rd_L3 t247 0) from Kd.V_mk ul254_0 ge254_0)
                       clear hva_ hvn_ hvc_ ge254_0 ul254_0
                       clear hcc254 hce254
                       have qi254 : (0 < t247.length) = True := eq_true (by omega)
                       (try rw [show ((0 : Int)).toNat = 0 from rfl] at hx254_0)
                       (try rw [Addr.add_zero'] at hx254_0)
                       have HR254_0 := Aside0.mk hi254_0
                       have HC254_0 := Aside0.mk hl254_0
                       clear hi254_0 hl254_0
                       replace p254 := eq_true p254
                       replace q254 := eq_true q254
                       refine start_ (n := 10) (S := fun w' => w'.cell? (ad253.add ((ji60)).toNat) = some (.slice A253_0 (rd_L3 t244 (ji60)).length c253_0) ∧ w'.cell? ad254 = some (.slice A254_0 (rd_L3 t247 0).length c254_0)) (ds := []) #[false, false, false, false, false, false, false, false, false, false] (by kernel_rfl) rfl rfl ⟨hx253_0, hx254_0⟩ (fun hHeld => ?_); refine with_tabW ancepslaw11_SoundJoined.tab11 ancepslaw11_SoundJoined.bits11 (fun HT_ HW_ => ?_)
                       generalize wc.drew = w82 at HO_5 HO_6 HO_7 HO_8 HO_9 HO_10 HB HL253_0 HL254_0 HR253_0 HR254_0 hx253_0 hx254_0 hHeld ⊢
                       refine pv_ 0 (some 78) HT_ ?_
                       refine pv_ 1 (some 79) HT_ ?_
                       refine pv_ 2 (some 80) HT_ ?_
                       refine pv_ 4 (some 82) HT_ ?_
                       refine pv_ 5 (some 83) HT_ ?_
                       refine tw_ 3 (some 81) HT_ HW_ hHeld ?_
                       refine tw_ 6 (some 84) HT_ HW_ hHeld ?_
                       refine one_ (i := 7) (N := some 85) #[true, true, true, true, true, true, true, true, false, false] rfl rfl (one_of HT_.out (by kernel_rfl)) (by decide) (fun K hK => ?_)
                       refine Kd.N_lit_step (Kd.slice 23 k23) _ 26 ?hg (N' := 85) ?hd (xs := ([rd_L3 t244 (ji60), rd_L3 t247 0] : List (List (S23)))) (inner := [.slice A253_0 (rd_L3 t244 (ji60)).length c253_0, .slice A254_0 (rd_L3 t247 0).length c254_0]) (ok := (fun k_ => some k_ ≠ (.slice Ao19 t220.length co19 : Value).ownBlock ∧ some k_ ≠ (.slice Ao20 t223.length co20 : Value).ownBlock ∧ some k_ ≠ (.slice Ao53 t229.length co53 : Value).ownBlock ∧ some k_ ≠ (.slice (some ad253) t244.length co81 : Value).ownBlock ∧ some k_ ≠ (.slice (some ad254) t247.length co83 : Value).ownBlock ∧ some k_ ≠ (v251 : Value).ownBlock)) (okp := (fun k_ => some k_ ≠ (.slice Ao19 t220.length co19 : Value).ownBlock ∧ some k_ ≠ (.slice Ao20 t223.length co20 : Value).ownBlock ∧ some k_ ≠ (.slice Ao53 t229.length co53 : Value).ownBlock ∧ some k_ ≠ (.slice (some ad253) t244.length co81 : Value).ownBlock ∧ some k_ ≠ (.slice (some ad254) t247.length co83 : Value).ownBlock ∧ some k_ ≠ (v251 : Value).ownBlock)) ?hr ?hp (fun _ hk => hk) ((show ∀ k_, w82.heap.size ≤ k_ → (fun k_ => some k_ ≠ (.slice Ao19 t220.length co19 : Value).ownBlock ∧ some k_ ≠ (.slice Ao20 t223.length co20 : Value).ownBlock ∧ some k_ ≠ (.slice Ao53 t229.length co53 : Value).ownBlock ∧ some k_ ≠ (.slice (some ad253) t244.length co81 : Value).ownBlock ∧ some k_ ≠ (.slice (some ad254) t247.length co83 : Value).ownBlock ∧ some k_ ≠ (v251 : Value).ownBlock) k_ from fun k_ hk => ⟨Kd.fresh' (Kd.R_lt (iR HO_5)) k_ hk, Kd.fresh' (Kd.R_lt (iR HO_6)) k_ hk, Kd.fresh' (Kd.R_lt (iR HO_7)) k_ hk, Kd.fresh' (Kd.N_lt (iN HO_8)) k_ hk, Kd.fresh' (Kd.N_lt (iN HO_9)) k_ hk, Kd.fresh' (Kd.N_lt (iN HO_10)) k_ hk⟩) _ (Nat.le_refl _)) (Below.refl _ _) (Nat.le_refl _) (by simp) ?_; (case hd | hg => rfl); (case hr => first | (go_simp; done) | (go_simp; rfl)); (case hp => exact (Reps.one (show Kd.FK (Kd.slice 23 k23) _ _ (rd_L3 t244 (ji60)) [.slice A253_0 (rd_L3 t244 (ji60)).length c253_0] from (Kd.FK_slice_mk (Kd.V_reads' (Kd.V_mono (ok' := (fun k_ => some k_ ≠ (.slice Ao19 t220.length co19 : Value).ownBlock ∧ some k_ ≠ (.slice Ao20 t223.length co20 : Value).ownBlock ∧ some k_ ≠ (.slice Ao53 t229.length co53 : Value).ownBlock ∧ some k_ ≠ (.slice (some ad253) t244.length co81 : Value).ownBlock ∧ some k_ ≠ (.slice (some ad254) t247.length co83 : Value).ownBlock ∧ some k_ ≠ (v251 : Value).ownBlock)) (HL253_0.out) (fun k_ hk => ⟨hk.1.1, ⟨hk.1.2.1, ⟨hk.1.2.2.1, ⟨hk.2, ⟨hk.1.2.2.2.1, hk.1.2.2.2.2⟩⟩⟩⟩⟩))).2.1 (Kd.V_F (Kd.V_mono (ok' := (fun k_ => some k_ ≠ (.slice Ao19 t220.length co19 : Value).ownBlock ∧ some k_ ≠ (.slice Ao20 t223.length co20 : Value).ownBlock ∧ some k_ ≠ (.slice Ao53 t229.length co53 : Value).ownBlock ∧ some k_ ≠ (.slice (some ad253) t244.length co81 : Value).ownBlock ∧ some k_ ≠ (.slice (some ad254) t247.length co83 : Value).ownBlock ∧ some k_ ≠ (v251 : Value).ownBlock)) (HL253_0.out) (fun k_ hk => ⟨hk.1.1, ⟨hk.1.2.1, ⟨hk.1.2.2.1, ⟨hk.2, ⟨hk.1.2.2.2.1, hk.1.2.2.2.2⟩⟩⟩⟩⟩))))) (Reps.one (show Kd.FK (Kd.slice 23 k23) _ _ (rd_L3 t247 0) [.slice A254_0 (rd_L3 t247 0).length c254_0] from (Kd.FK_slice_mk (Kd.V_reads' (Kd.V_mono (ok' := (fun k_ => some k_ ≠ (.slice Ao19 t220.length co19 : Value).ownBlock ∧ some k_ ≠ (.slice Ao20 t223.length co20 : Value).ownBlock ∧ some k_ ≠ (.slice Ao53 t229.length co53 : Value).ownBlock ∧ some k_ ≠ (.slice (some ad253) t244.length co81 : Value).ownBlock ∧ some k_ ≠ (.slice (some ad254) t247.length co83 : Value).ownBlock ∧ some k_ ≠ (v251 : Value).ownBlock)) (HL254_0.out) (fun k_ hk => ⟨hk.1.1, ⟨hk.1.2.1, ⟨hk.1.2.2.1, ⟨hk.1.2.2.2.1, ⟨hk.2, hk.1.2.2.2.2⟩⟩⟩⟩⟩))).2.1 (Kd.V_F (Kd.V_mono (ok' := (fun k_ => some k_ ≠ (.slice Ao19 t220.length co19 : Value).ownBlock ∧ some k_ ≠ (.slice Ao20 t223.length co20 : Value).ownBlock ∧ some k_ ≠ (.slice Ao53 t229.length co53 : Value).ownBlock ∧ some k_ ≠ (.slice (some ad253) t244.length co81 : Value).ownBlock ∧ some k_ ≠ (.slice (some ad254) t247.length co83 : Value).ownBlock ∧ some k_ ≠ (v251 : Value).ownBlock)) (HL254_0.out) (fun k_ hk => ⟨hk.1.1, ⟨hk.1.2.1, ⟨hk.1.2.2.1, ⟨hk.1.2.2.2.1, ⟨hk.2, hk.1.2.2.2.2⟩⟩⟩⟩⟩))))) (Reps.none _ _))))
                       intro v256 w84 ho85 hb hg_ hnew_
                       have HS0_ := (hb.cell (World.block_lt_of_cell? _ _ (hHeld.1))).trans (hHeld.1)
                       have HS1_ := (hb.cell (World.block_lt_of_cell? _ _ (hHeld.2))).trans (hHeld.2)
                       clear hg_ hnew_
                       (first | rw [← Ny255.out] at ho85 | (simp only [Int.reduceToNat] at ho85; rw [← Ny255.out] at ho85))
                       have n0_ := jR HO_5 hb
                       have n1_ := jR HO_6 hb
                       have n2_ := jR HO_7 hb
                       have n3_ := Aside0.mk (Kd.N_elder' (iN HO_8) (Kd.N_base ho85) hb)
                       have n4_ := Aside0.mk (Kd.N_elder' (iN HO_9) (Kd.N_base ho85) hb)
                       have n5_ := Aside0.mk (Kd.N_elder' (iN HO_10) (Kd.N_base ho85) hb)
                       have n6_ := Aside0.mk (Kd.V_elder' (iV HL253_0) (Kd.N_base ho85) hb)
                       have n7_ := Aside0.mk (Kd.V_elder' (iV HL254_0) (Kd.N_base ho85) hb)
                       have n8_ := Aside0.mk (Kd.N_lower ho85 (below_size (iL HB)))
                       have n9_ := Aside0.mk (Kd.C_below (cR HR253_0) hb)
                       have n10_ := Aside0.mk (Kd.C_below (cR HR254_0) hb)
                       have n11_ := jL HB hb
                       clear HO_5
                       clear HO_6
                       clear HO_7
                       clear HO_8
                       clear HO_9
                       clear HO_10
                       clear HL253_0
                       clear HL254_0
                       clear HR253_0
                       clear HR254_0
                       clear HB
                       have HO_5 := n0_
                       have HO_6 := n1_
                       have HO_7 := n2_
                       have HO_8 := n3_
                       have HO_9 := n4_
                       have HO_10 := n5_
                       have HL253_0 := n6_
                       have HL254_0 := n7_
                       have HO257 := n8_
                       have HR253_0 := n9_
                       have HR254_0 := n10_
                       have HB := n11_
                       clear n0_ n1_ n2_ n3_ n4_ n5_ n6_ n7_ n8_ n9_ n10_ n11_
                       clear hb ho85
                       obtain ⟨Ao86, co86, eo86⟩ := Kd.N_slice HO257.out
                       (first | subst eo86 | (injection eo86 with f1_ f2_ f3_; have f4_ := f1_.symm; have f5_ := f3_.symm; clear f1_ f2_ f3_; subst f4_; subst f5_))
                       refine hK.out _ _ ⟨HS0_, HS1_⟩ (fun hHeld => ?_)
                       clear hK K
                       refine norm_ (a' := ?_) ?_ ?_
                       rotate_left
                       ·show Act.put _ (some 85) _ = _
                        simp only [Act.put, List.setIfInBounds_toArray, List.set_cons_zero, List.set_cons_succ, i64_w, i32_w]
                        rfl
                       refine one_ (i := 8) (N := some 86) #[true, true, true, true, true, true, true, true, true, false] rfl rfl (one_of HT_.out (by kernel_rfl)) (by decide) (fun K hK => ?_)
                       refine goes_ Tryd.func34 (by kernel_rfl) rfl #[.slice Ao86 y255.length co86] (by rfl) rfl rfl (by (try simp only [List.map_toArray, List.map_cons, List.map_nil]); first | done | rfl | (simp only [List.length_drop, List.length_take]; rfl)) ?_
                       with_reducible refine (api_Sound_34.calls _ _ y255 t258 _ ?side1 ?side2 A64.out).mono ?_
                       (case side1 => repeat (first | exact (Kd.N_reads' HO257.out).2.2 | (with_reducible refine Kd.C_alloc ?_ _) | (with_reducible refine Kd.C_drewN ?_ _) | (with_reducible refine Kd.C_drew ?_)))
                       (case side2 => exact (Kd.N_reads' HO257.out).2.1)
                       rintro e w87 ⟨v259, rfl, ho0, hb⟩
                       have HS0_ := (hb.cell (World.block_lt_of_cell? _ _ (hHeld.1))).trans (hHeld.1)
                       have HS1_ := (hb.cell (World.block_lt_of_cell? _ _ (hHeld.2))).trans (hHeld.2)
                       refine ⟨_, rfl, ?_⟩
                       have n0_ := Aside0.mk (Kd.R_elder' (iR HO_5) (Kd.R_base ho0) hb)
                       have n1_ := Aside0.mk (Kd.R_elder' (iR HO_6) (Kd.R_base ho0) hb)
                       have n2_ := Aside0.mk (Kd.R_elder' (iR HO_7) (Kd.R_base ho0) hb)
                       have n3_ := Aside0.mk (Kd.N_elder' (iN HO_8) (Kd.R_base ho0) hb)
                       have n4_ := Aside0.mk (Kd.N_elder' (iN HO_9) (Kd.R_base ho0) hb)
                       have n5_ := Aside0.mk (Kd.N_elder' (iN HO_10) (Kd.R_base ho0) hb)
                       have n6_ := Aside0.mk (Kd.V_elder' (iV HL253_0) (Kd.R_base ho0) hb)
                       have n7_ := Aside0.mk (Kd.V_elder' (iV HL254_0) (Kd.R_base ho0) hb)
                       have n8_ := Aside0.mk (Kd.N_elder' (iN HO257) (Kd.R_base ho0) hb)
                       have n9_ := Aside0.mk (Kd.R_lower (Kd.R_new' (Kd.R_new' (Kd.R_new' ho0 (Kd.R_lt (iR HO_5))) (Kd.R_lt (iR HO_6))) (Kd.R_lt (iR HO_7))) (below_size (iL HB)))
                       have n10_ := Aside0.mk (Kd.C_below (cR HR253_0) hb)
                       have n11_ := Aside0.mk (Kd.C_below (cR HR254_0) hb)
                       have n12_ := jL HB hb
                       clear HO_5
                       clear HO_6
                       clear HO_7
                       clear HO_8
                       clear HO_9
                       clear HO_10
                       clear HL253_0
                       clear HL254_0
                       clear HO257
                       clear HR253_0
                       clear HR254_0
                       clear HB
                       have HO_5 := n0_
                       have HO_6 := n1_
                       have HO_7 := n2_
                       have HO_8 := n3_
                       have HO_9 := n4_
                       have HO_10 := n5_
                       have HL253_0 := n6_
                       have HL254_0 := n7_
                       have HO257 := n8_
                       have HO260 := n9_
                       have HR253_0 := n10_
                       have HR254_0 := n11_
                       have HB := n12_
                       clear n0_ n1_ n2_ n3_ n4_ n5_ n6_ n7_ n8_ n9_ n10_ n11_ n12_
                       (try clear hb)
                       (try clear hb2)
                       (try clear hk)
                       (try clear hi)
                       (try clear ho0)
                       refine hK.out _ _ ⟨HS0_, HS1_⟩ (fun hHeld => ?_)
                       clear hK K
                       refine norm_ (a' := ?_) ?_ ?_
                       rotate_left
                       ·show Act.put _ (some 86) _ = _
                        simp only [Act.put, List.setIfInBounds_toArray, List.set_cons_zero, List.set_cons_succ, i64_w, i32_w]
                        rfl
                       refine pv_ 9 (some 12) HT_ ?_
                       refine done_ (done_of HT_.out (by kernel_rfl)) ?_
                       try go_wp2
                       have n0_ := Aside0.mk (Kd.R_drew HO_5.out)
                       have n1_ := Aside0.mk (Kd.R_drew HO_6.out)
                       have n2_ := Aside0.mk (Kd.R_drew HO_7.out)
                       have n3_ := Aside0.mk (Kd.N_drew HO_8.out)
                       have n4_ := Aside0.mk (Kd.N_drew HO_9.out)
                       have n5_ := Aside0.mk (Kd.N_drew HO_10.out)
                       have n6_ := Aside0.mk (Kd.V_drew HL253_0.out)
                       have n7_ := Aside0.mk (Kd.V_drew HL254_0.out)
                       have n8_ := Aside0.mk (Kd.N_drew HO257.out)
                       have n9_ := Aside0.mk (Kd.R_drew HO260.out)
                       have n10_ := Aside0.mk (Kd.C_drew HR253_0.out)
                       have n11_ := Aside0.mk (Kd.C_drew HR254_0.out)
                       have n12_ := Aside0.mk (below_drew1 HB.out)
                       clear HO_5
                       clear HO_6
                       clear HO_7
                       clear HO_8
                       clear HO_9
                       clear HO_10
                       clear HL253_0
                       clear HL254_0
                       clear HO257
                       clear HO260
                       clear HR253_0
                       clear HR254_0
                       clear HB
                       have HO_5 := n0_
                       have HO_6 := n1_
                       have HO_7 := n2_
                       have HO_8 := n3_
                       have HO_9 := n4_
                       have HO_10 := n5_
                       have HL253_0 := n6_
                       have HL254_0 := n7_
                       have HO257 := n8_
                       have HO260 := n9_
                       have HR253_0 := n10_
                       have HR254_0 := n11_
                       have HB := n12_
                       clear n0_ n1_ n2_ n3_ n4_ n5_ n6_ n7_ n8_ n9_ n10_ n11_ n12_
                       have q89 := oD (((ji60) : Int) ≤ ((t244.length : Int) : Int))
                       obtain ⟨i089, hi089, _, hsz89, _⟩ := info_parts info26
                       have hroom89 : t244.length ≤ co81 := (Kd.N_reads' HO_8.out).2.1
                       have hC89 : Kd.F (Kd.slice 23 k23) _ _ (some ad253) t244.length t244 := (Kd.V_at (base := w.heap.size) (Kd.N_V HO_8.out)).2.2
                       have hcut89 := cut_to (P := Tryd.prog) 34 26 .i64 Tryd.underlying34 hi089 (some ad253) t244.length co81 (ji60) (of_decide_eq_true (by first | (with_reducible assumption) | assumption)) q89 hroom89
                       have hr89 := Kd.F_take (m := ((ji60) : Int).toNat) hC89 (by omega)
                       have hy89 : y261.length = ((ji60) : Int).toNat := (by rw [Ny261.out, List.length_take]; omega)
                       rw [← Ny261.out] at hr89
                       rw [← hy89] at hcut89
                       have HO265 := Aside0.mk (show Kd.V (Kd.slice 23 k23) 26 _ w.heap.size _ (.slice (some ad253) y261.length co81) y261 from Kd.V_mk (by omega) hr89)
                       have HC265 := Aside0.mk (show y261.length ≤ co81 from by omega)
                       clear hr89 hC89 hroom89 hi089 hsz89
                       have KY89 := Aside0.mk hy89
                       clear hy89
                       replace q89 := eq_true q89
                       have q90 := oD ((1 : Int) ≤ ((t247.length : Int) : Int))
                       obtain ⟨i090, hi090, _, hsz90, _⟩ := info_parts info26
                       have hroom90 : t247.length ≤ co83 := (Kd.N_reads' HO_9.out).2.1
                       have hC90 : Kd.F (Kd.slice 23 k23) _ _ (some ad254) t247.length t247 := (Kd.V_at (base := w.heap.size) (Kd.N_V HO_9.out)).2.2
                       have hcut90 := cut_from (P := Tryd.prog) 34 26 .i64 Tryd.underlying34 hi090 1 hsz90 (some ad254) t247.length co83 1 (by omega) q90
                       have hr90 := Kd.F_cut (m := (1 : Int).toNat) (c := co83) hC90 (by omega) hroom90
                       obtain ⟨A90, hA90⟩ : ∃ A1, A1 = (if co83 = (1 : Int).toNat then (some ad254) else ((some ad254) : Option Addr).map (·.add ((1 : Int).toNat * 1))) := ⟨_, rfl⟩
                       obtain ⟨c90, hc90⟩ : ∃ c1, c1 = co83 - (1 : Int).toNat := ⟨_, rfl⟩
                       have hy90 : y269.length = t247.length - (1 : Int).toNat := (by rw [Ny269.out, List.length_drop] <;> omega)
                       rw [show (t247).drop (1 : Int).toNat = y269 from Ny269.out.symm] at hr90
                       replace hr90 : Kd.F (Kd.slice 23 k23) _ _ A90 y269.length y269 := (by rw [hA90]; exact hr90)
                       rw [← hy90, ← hA90, ← hc90] at hcut90
                       have HO273 := Aside0.mk (show Kd.V (Kd.slice 23 k23) 26 _ w.heap.size _ (.slice A90 y269.length c90) y269 from Kd.V_mk (by rw [hy90, hc90]; exact Nat.sub_le_sub_right hroom90 _) hr90)
                       have HC273 := Aside0.mk (show y269.length ≤ c90 from by rw [hy90, hc90]; exact Nat.sub_le_sub_right hroom90 _)
                       clear hr90 hC90 hroom90 hi090 hsz90 hc90
                       have KY90 := Aside0.mk hy90
                       have KA90 := Aside0.mk hA90
                       clear hy90 hA90
                       replace q90 := eq_true q90
                       obtain ⟨Ao91, co91, eo91⟩ := Kd.R_slice HO260.out
                       (first | subst eo91 | (injection eo91 with f1_ f2_ f3_; have f4_ := f1_.symm; have f5_ := f3_.symm; clear f1_ f2_ f3_; subst f4_; subst f5_))
                       refine start_ (n := 12) (S := fun w' => True) (ds := []) #[false, false, false, false, false, false, false, false, false, false, false, false] (by kernel_rfl) rfl rfl trivial (fun hHeld => ?_); refine with_tabW ancepslaw11_SoundJoined.tab12 ancepslaw11_SoundJoined.bits12 (fun HT_ HW_ => ?_)
                       generalize w87.drew = w88 at HO_5 HO_6 HO_7 HO_8 HO_9 HO_10 HL253_0 HL254_0 HO257 HO260 HR253_0 HR254_0 HB HO265 HO273 hHeld ⊢
                       refine pv_ 0 (some 87) HT_ ?_
                       refine pv_ 1 (some 88) HT_ ?_
                       refine pv_ 2 (some 89) HT_ ?_
                       refine pv_ 3 (some 90) HT_ ?_
                       refine pv_ 4 (some 91) HT_ ?_
                       refine pv_ 6 (some 93) HT_ ?_
                       refine pv_ 7 (some 94) HT_ ?_
                       refine one_ (i := 5) (N := some 92) #[true, true, true, true, true, true, true, true, false, false, false, false] rfl rfl (one_of HT_.out (by kernel_rfl)) (by decide) (fun K hK => ?_)
                       refine Kd.N_lit_step (Kd.slice 23 k23) _ 26 ?hg (N' := 92) ?hd (xs := ([t258] : List (List (S23)))) (inner := [.slice Ao91 t258.length co91]) (ok := (fun k_ => some k_ ≠ (.slice Ao19 t220.length co19 : Value).ownBlock ∧ some k_ ≠ (.slice Ao20 t223.length co20 : Value).ownBlock ∧ some k_ ≠ (.slice Ao53 t229.length co53 : Value).ownBlock ∧ some k_ ≠ (.slice (some ad253) t244.length co81 : Value).ownBlock ∧ some k_ ≠ (.slice (some ad254) t247.length co83 : Value).ownBlock ∧ some k_ ≠ (v251 : Value).ownBlock ∧ some k_ ≠ (.slice Ao86 y255.length co86 : Value).ownBlock)) (okp := (fun k_ => some k_ ≠ (.slice Ao19 t220.length co19 : Value).ownBlock ∧ some k_ ≠ (.slice Ao20 t223.length co20 : Value).ownBlock ∧ some k_ ≠ (.slice Ao53 t229.length co53 : Value).ownBlock ∧ some k_ ≠ (.slice (some ad253) t244.length co81 : Value).ownBlock ∧ some k_ ≠ (.slice (some ad254) t247.length co83 : Value).ownBlock ∧ some k_ ≠ (v251 : Value).ownBlock ∧ some k_ ≠ (.slice Ao86 y255.length co86 : Value).ownBlock)) ?hr ?hp (fun _ hk => hk) ((show ∀ k_, w88.heap.size ≤ k_ → (fun k_ => some k_ ≠ (.slice Ao19 t220.length co19 : Value).ownBlock ∧ some k_ ≠ (.slice Ao20 t223.length co20 : Value).ownBlock ∧ some k_ ≠ (.slice Ao53 t229.length co53 : Value).ownBlock ∧ some k_ ≠ (.slice (some ad253) t244.length co81 : Value).ownBlock ∧ some k_ ≠ (.slice (some ad254) t247.length co83 : Value).ownBlock ∧ some k_ ≠ (v251 : Value).ownBlock ∧ some k_ ≠ (.slice Ao86 y255.length co86 : Value).ownBlock) k_ from fun k_ hk => ⟨Kd.fresh' (Kd.R_lt (iR HO_5)) k_ hk, Kd.fresh' (Kd.R_lt (iR HO_6)) k_ hk, Kd.fresh' (Kd.R_lt (iR HO_7)) k_ hk, Kd.fresh' (Kd.N_lt (iN HO_8)) k_ hk, Kd.fresh' (Kd.N_lt (iN HO_9)) k_ hk, Kd.fresh' (Kd.N_lt (iN HO_10)) k_ hk, Kd.fresh' (Kd.N_lt (iN HO257)) k_ hk⟩) _ (Nat.le_refl _)) (Below.refl _ _) (Nat.le_refl _) (by simp) ?_; (case hd | hg => rfl); (case hr => first | (go_simp; done) | (go_simp; rfl)); (case hp => exact (Reps.one (show Kd.FK (Kd.slice 23 k23) _ _ t258 [.slice Ao91 t258.length co91] from (Kd.FK_slice_mk (Kd.R_reads' (Kd.R_mono (ok' := (fun k_ => some k_ ≠ (.slice Ao19 t220.length co19 : Value).ownBlock ∧ some k_ ≠ (.slice Ao20 t223.length co20 : Value).ownBlock ∧ some k_ ≠ (.slice Ao53 t229.length co53 : Value).ownBlock ∧ some k_ ≠ (.slice (some ad253) t244.length co81 : Value).ownBlock ∧ some k_ ≠ (.slice (some ad254) t247.length co83 : Value).ownBlock ∧ some k_ ≠ (v251 : Value).ownBlock ∧ some k_ ≠ (.slice Ao86 y255.length co86 : Value).ownBlock)) (Kd.R_apart' (Kd.R_apart' (Kd.R_apart' (Kd.R_apart' (HO260.out) (Kd.N_typed HO_8.out) (by decide)) (Kd.N_typed HO_9.out) (by decide)) (Kd.N_typed HO_10.out) (by decide)) (Kd.N_typed HO257.out) (by decide)) (fun k_ hk => ⟨hk.1.1.1.1.1.1.2, ⟨hk.1.1.1.1.1.2, ⟨hk.1.1.1.1.2, ⟨hk.1.1.1.2, ⟨hk.1.1.2, ⟨hk.1.2, hk.2⟩⟩⟩⟩⟩⟩))).2.1 (Kd.R_F (Kd.R_mono (ok' := (fun k_ => some k_ ≠ (.slice Ao19 t220.length co19 : Value).ownBlock ∧ some k_ ≠ (.slice Ao20 t223.length co20 : Value).ownBlock ∧ some k_ ≠ (.slice Ao53 t229.length co53 : Value).ownBlock ∧ some k_ ≠ (.slice (some ad253) t244.length co81 : Value).ownBlock ∧ some k_ ≠ (.slice (some ad254) t247.length co83 : Value).ownBlock ∧ some k_ ≠ (v251 : Value).ownBlock ∧ some k_ ≠ (.slice Ao86 y255.length co86 : Value).ownBlock)) (Kd.R_apart' (Kd.R_apart' (Kd.R_apart' (Kd.R_apart' (HO260.out) (Kd.N_typed HO_8.out) (by decide)) (Kd.N_typed HO_9.out) (by decide)) (Kd.N_typed HO_10.out) (by decide)) (Kd.N_typed HO257.out) (by decide)) (fun k_ hk => ⟨hk.1.1.1.1.1.1.2, ⟨hk.1.1.1.1.1.2, ⟨hk.1.1.1.1.2, ⟨hk.1.1.1.2, ⟨hk.1.1.2, ⟨hk.1.2, hk.2⟩⟩⟩⟩⟩⟩))))) (Reps.none _ _)))
                       intro v267 w92 ho93 hb hg_ hnew_
                       clear hg_ hnew_
                       (first | rw [← Ny266.out] at ho93 | (simp only [Int.reduceToNat] at ho93; rw [← Ny266.out] at ho93))
                       have n0_ := jR HO_5 hb
                       have n1_ := jR HO_6 hb
                       have n2_ := jR HO_7 hb
                       have n3_ := Aside0.mk (Kd.N_elder' (iN HO_8) (Kd.N_base ho93) hb)
                       have n4_ := Aside0.mk (Kd.N_elder' (iN HO_9) (Kd.N_base ho93) hb)
                       have n5_ := Aside0.mk (Kd.N_elder' (iN HO_10) (Kd.N_base ho93) hb)
                       have n6_ := Aside0.mk (Kd.V_elder' (iV HL253_0) (Kd.N_base ho93) hb)
                       have n7_ := Aside0.mk (Kd.V_elder' (iV HL254_0) (Kd.N_base ho93) hb)
                       have n8_ := Aside0.mk (Kd.N_elder' (iN HO257) (Kd.N_base ho93) hb)
                       have n9_ := jR HO260 hb
                       have n10_ := Aside0.mk (Kd.V_elder' (iV HO265) (Kd.N_base ho93) hb)
                       have n11_ := Aside0.mk (Kd.V_elder' (iV HO273) (Kd.N_base ho93) hb)
                       have n12_ := Aside0.mk (Kd.N_lower ho93 (below_size (iL HB)))
                       have n13_ := Aside0.mk (Kd.C_below (cR HR253_0) hb)
                       have n14_ := Aside0.mk (Kd.C_below (cR HR254_0) hb)
                       have n15_ := jL HB hb
                       clear HO_5
                       clear HO_6
                       clear HO_7
                       clear HO_8
                       clear HO_9
                       clear HO_10
                       clear HL253_0
                       clear HL254_0
                       clear HO257
                       clear HO260
                       clear HO265
                       clear HO273
                       clear HR253_0
                       clear HR254_0
                       clear HB
                       have HO_5 := n0_
                       have HO_6 := n1_
                       have HO_7 := n2_
                       have HO_8 := n3_
                       have HO_9 := n4_
                       have HO_10 := n5_
                       have HL253_0 := n6_
                       have HL254_0 := n7_
                       have HO257 := n8_
                       have HO260 := n9_
                       have HO265 := n10_
                       have HO273 := n11_
                       have HO268 := n12_
                       have HR253_0 := n13_
                       have HR254_0 := n14_
                       have HB := n15_
                       clear n0_ n1_ n2_ n3_ n4_ n5_ n6_ n7_ n8_ n9_ n10_ n11_ n12_ n13_ n14_ n15_
                       clear hb ho93
                       obtain ⟨Ao94, co94, eo94⟩ := Kd.N_slice HO268.out
                       (first | subst eo94 | (injection eo94 with f1_ f2_ f3_; have f4_ := f1_.symm; have f5_ := f3_.symm; clear f1_ f2_ f3_; subst f4_; subst f5_))
                       refine hK.out _ _ trivial (fun hHeld => ?_)
                       clear hK K
                       refine norm_ (a' := ?_) ?_ ?_
                       rotate_left
                       ·show Act.put _ (some 92) _ = _
                        simp only [Act.put, List.setIfInBounds_toArray, List.set_cons_zero, List.set_cons_succ, i64_w, i32_w]
                        rfl
                       refine one_ (i := 8) (N := some 95) #[true, true, true, true, true, true, true, true, true, false, false, false] rfl rfl (one_of HT_.out (by kernel_rfl)) (by decide) (fun K hK => ?_)
                       refine Kd.N_lit_step (Kd.slice 26 (Kd.slice 23 k23)) _ 34 ?hg (N' := 95) ?hd (xs := ([y261, y266, y269] : List (List (List (S23))))) (inner := [.slice (some ad253) y261.length co81, .slice Ao94 y266.length co94, .slice A90 y269.length c90]) (ok := (fun k_ => some k_ ≠ (.slice Ao19 t220.length co19 : Value).ownBlock ∧ some k_ ≠ (.slice Ao20 t223.length co20 : Value).ownBlock ∧ some k_ ≠ (.slice Ao53 t229.length co53 : Value).ownBlock ∧ some k_ ≠ (v251 : Value).ownBlock ∧ some k_ ≠ (.slice Ao86 y255.length co86 : Value).ownBlock)) (okp := (fun k_ => some k_ ≠ (.slice Ao19 t220.length co19 : Value).ownBlock ∧ some k_ ≠ (.slice Ao20 t223.length co20 : Value).ownBlock ∧ some k_ ≠ (.slice Ao53 t229.length co53 : Value).ownBlock ∧ some k_ ≠ (v251 : Value).ownBlock ∧ some k_ ≠ (.slice Ao86 y255.length co86 : Value).ownBlock)) ?hr ?hp (fun _ hk => hk) ((show ∀ k_, w92.heap.size ≤ k_ → (fun k_ => some k_ ≠ (.slice Ao19 t220.length co19 : Value).ownBlock ∧ some k_ ≠ (.slice Ao20 t223.length co20 : Value).ownBlock ∧ some k_ ≠ (.slice Ao53 t229.length co53 : Value).ownBlock ∧ some k_ ≠ (v251 : Value).ownBlock ∧ some k_ ≠ (.slice Ao86 y255.length co86 : Value).ownBlock) k_ from fun k_ hk => ⟨Kd.fresh' (Kd.R_lt (iR HO_5)) k_ hk, Kd.fresh' (Kd.R_lt (iR HO_6)) k_ hk, Kd.fresh' (Kd.R_lt (iR HO_7)) k_ hk, Kd.fresh' (Kd.N_lt (iN HO_10)) k_ hk, Kd.fresh' (Kd.N_lt (iN HO257)) k_ hk⟩) _ (Nat.le_refl _)) (Below.refl _ _) (Nat.le_refl _) (by simp) ?_; (case hd | hg => rfl); (case hr => first | (go_simp; done) | (go_simp; rfl)); (case hp => exact (Reps.one (show Kd.FK (Kd.slice 26 (Kd.slice 23 k23)) _ _ y261 [.slice (some ad253) y261.length co81] from (Kd.FK_slice_mk (Kd.V_reads' (Kd.V_mono (ok' := (fun k_ => some k_ ≠ (.slice Ao19 t220.length co19 : Value).ownBlock ∧ some k_ ≠ (.slice Ao20 t223.length co20 : Value).ownBlock ∧ some k_ ≠ (.slice Ao53 t229.length co53 : Value).ownBlock ∧ some k_ ≠ (v251 : Value).ownBlock ∧ some k_ ≠ (.slice Ao86 y255.length co86 : Value).ownBlock)) (HO265.out) (fun k_ hk => ⟨hk.1.1.1.1, ⟨hk.1.1.1.2.1, ⟨hk.1.1.1.2.2.1, ⟨hk.1.1.1.2.2.2.2, hk.1.1.2⟩⟩⟩⟩))).2.1 (Kd.V_F (Kd.V_mono (ok' := (fun k_ => some k_ ≠ (.slice Ao19 t220.length co19 : Value).ownBlock ∧ some k_ ≠ (.slice Ao20 t223.length co20 : Value).ownBlock ∧ some k_ ≠ (.slice Ao53 t229.length co53 : Value).ownBlock ∧ some k_ ≠ (v251 : Value).ownBlock ∧ some k_ ≠ (.slice Ao86 y255.length co86 : Value).ownBlock)) (HO265.out) (fun k_ hk => ⟨hk.1.1.1.1, ⟨hk.1.1.1.2.1, ⟨hk.1.1.1.2.2.1, ⟨hk.1.1.1.2.2.2.2, hk.1.1.2⟩⟩⟩⟩))))) (Reps.one (show Kd.FK (Kd.slice 26 (Kd.slice 23 k23)) _ _ y266 [.slice Ao94 y266.length co94] from (Kd.FK_slice_mk (Kd.N_reads' (Kd.N_mono (ok' := (fun k_ => some k_ ≠ (.slice Ao19 t220.length co19 : Value).ownBlock ∧ some k_ ≠ (.slice Ao20 t223.length co20 : Value).ownBlock ∧ some k_ ≠ (.slice Ao53 t229.length co53 : Value).ownBlock ∧ some k_ ≠ (v251 : Value).ownBlock ∧ some k_ ≠ (.slice Ao86 y255.length co86 : Value).ownBlock)) (HO268.out) (fun k_ hk => ⟨hk.1, ⟨hk.2.1, ⟨hk.2.2.1, ⟨hk.2.2.2.2.2.1, hk.2.2.2.2.2.2⟩⟩⟩⟩))).2.1 (Kd.N_F (Kd.N_mono (ok' := (fun k_ => some k_ ≠ (.slice Ao19 t220.length co19 : Value).ownBlock ∧ some k_ ≠ (.slice Ao20 t223.length co20 : Value).ownBlock ∧ some k_ ≠ (.slice Ao53 t229.length co53 : Value).ownBlock ∧ some k_ ≠ (v251 : Value).ownBlock ∧ some k_ ≠ (.slice Ao86 y255.length co86 : Value).ownBlock)) (HO268.out) (fun k_ hk => ⟨hk.1, ⟨hk.2.1, ⟨hk.2.2.1, ⟨hk.2.2.2.2.2.1, hk.2.2.2.2.2.2⟩⟩⟩⟩))))) (Reps.one (show Kd.FK (Kd.slice 26 (Kd.slice 23 k23)) _ _ y269 [.slice A90 y269.length c90] from (Kd.FK_slice_mk (Kd.V_reads' (Kd.V_mono (ok' := (fun k_ => some k_ ≠ (.slice Ao19 t220.length co19 : Value).ownBlock ∧ some k_ ≠ (.slice Ao20 t223.length co20 : Value).ownBlock ∧ some k_ ≠ (.slice Ao53 t229.length co53 : Value).ownBlock ∧ some k_ ≠ (v251 : Value).ownBlock ∧ some k_ ≠ (.slice Ao86 y255.length co86 : Value).ownBlock)) (HO273.out) (fun k_ hk => ⟨hk.1.1.1.1, ⟨hk.1.1.1.2.1, ⟨hk.1.1.1.2.2.1, ⟨hk.1.1.1.2.2.2.2, hk.1.1.2⟩⟩⟩⟩))).2.1 (Kd.V_F (Kd.V_mono (ok' := (fun k_ => some k_ ≠ (.slice Ao19 t220.length co19 : Value).ownBlock ∧ some k_ ≠ (.slice Ao20 t223.length co20 : Value).ownBlock ∧ some k_ ≠ (.slice Ao53 t229.length co53 : Value).ownBlock ∧ some k_ ≠ (v251 : Value).ownBlock ∧ some k_ ≠ (.slice Ao86 y255.length co86 : Value).ownBlock)) (HO273.out) (fun k_ hk => ⟨hk.1.1.1.1, ⟨hk.1.1.1.2.1, ⟨hk.1.1.1.2.2.1, ⟨hk.1.1.1.2.2.2.2, hk.1.1.2⟩⟩⟩⟩))))) (Reps.none _ _)))))
                       intro v275 w95 ho96 hb hg_ hnew_
                       clear hg_ hnew_
                       (first | rw [← Ny274.out] at ho96 | (simp only [Int.reduceToNat] at ho96; rw [← Ny274.out] at ho96))
                       have n0_ := jR HO_5 hb
                       have n1_ := jR HO_6 hb
                       have n2_ := jR HO_7 hb
                       have n3_ := Aside0.mk (Kd.N_elder' (iN HO_8) (Kd.N_base ho96) hb)
                       have n4_ := Aside0.mk (Kd.N_elder' (iN HO_9) (Kd.N_base ho96) hb)
                       have n5_ := Aside0.mk (Kd.N_elder' (iN HO_10) (Kd.N_base ho96) hb)
                       have n6_ := Aside0.mk (Kd.V_elder' (iV HL253_0) (Kd.N_base ho96) hb)
                       have n7_ := Aside0.mk (Kd.V_elder' (iV HL254_0) (Kd.N_base ho96) hb)
                       have n8_ := Aside0.mk (Kd.N_elder' (iN HO257) (Kd.N_base ho96) hb)
                       have n9_ := jR HO260 hb
                       have n10_ := Aside0.mk (Kd.V_elder' (iV HO265) (Kd.N_base ho96) hb)
                       have n11_ := Aside0.mk (Kd.V_elder' (iV HO273) (Kd.N_base ho96) hb)
                       have n12_ := Aside0.mk (Kd.N_elder' (iN HO268) (Kd.N_base ho96) hb)
                       have n13_ := Aside0.mk (Kd.N_lower ho96 (below_size (iL HB)))
                       have n14_ := Aside0.mk (Kd.C_below (cR HR253_0) hb)
                       have n15_ := Aside0.mk (Kd.C_below (cR HR254_0) hb)
                       have n16_ := jL HB hb
                       clear HO_5
                       clear HO_6
                       clear HO_7
                       clear HO_8
                       clear HO_9
                       clear HO_10
                       clear HL253_0
                       clear HL254_0
                       clear HO257
                       clear HO260
                       clear HO265
                       clear HO273
                       clear HO268
                       clear HR253_0
                       clear HR254_0
                       clear HB
                       have HO_5 := n0_
                       have HO_6 := n1_
                       have HO_7 := n2_
                       have HO_8 := n3_
                       have HO_9 := n4_
                       have HO_10 := n5_
                       have HL253_0 := n6_
                       have HL254_0 := n7_
                       have HO257 := n8_
                       have HO260 := n9_
                       have HO265 := n10_
                       have HO273 := n11_
                       have HO268 := n12_
                       have HO276 := n13_
                       have HR253_0 := n14_
                       have HR254_0 := n15_
                       have HB := n16_
                       clear n0_ n1_ n2_ n3_ n4_ n5_ n6_ n7_ n8_ n9_ n10_ n11_ n12_ n13_ n14_ n15_ n16_
                       clear hb ho96
                       obtain ⟨Ao97, co97, eo97⟩ := Kd.N_slice HO276.out
                       (first | subst eo97 | (injection eo97 with f1_ f2_ f3_; have f4_ := f1_.symm; have f5_ := f3_.symm; clear f1_ f2_ f3_; subst f4_; subst f5_))
                       refine hK.out _ _ trivial (fun hHeld => ?_)
                       clear hK K
                       refine norm_ (a' := ?_) ?_ ?_
                       rotate_left
                       ·show Act.put _ (some 95) _ = _
                        simp only [Act.put, List.setIfInBounds_toArray, List.set_cons_zero, List.set_cons_succ, i64_w, i32_w]
                        rfl
                       refine one_ (i := 9) (N := some 96) #[true, true, true, true, true, true, true, true, true, true, false, false] rfl rfl (one_of HT_.out (by kernel_rfl)) (by decide) (fun K hK => ?_)
                       refine goes_ Tryd.func35 (by kernel_rfl) rfl #[.slice Ao97 y274.length co97] (by rfl) rfl rfl (by (try simp only [List.map_toArray, List.map_cons, List.map_nil]); first | done | rfl | (simp only [List.length_drop, List.length_take]; rfl)) ?_
                       with_reducible refine (api_Sound_35.calls (fun k_ => (some k_ ≠ (.slice Ao19 t220.length co19 : Value).ownBlock ∧ (some k_ ≠ (.slice Ao20 t223.length co20 : Value).ownBlock ∧ (some k_ ≠ (.slice Ao53 t229.length co53 : Value).ownBlock ∧ (some k_ ≠ (v251 : Value).ownBlock ∧ some k_ ≠ (.slice Ao86 y255.length co86 : Value).ownBlock))))) _ _ y274 t277 _ ?side1 A68.out).mono ?_
                       (case side1 => exact Kd.N_V (HO276.out))
                       rintro e w98 ⟨v278, rfl, ho0, hb⟩
                       refine ⟨_, rfl, ?_⟩
                       have n0_ := jR HO_5 hb
                       have n1_ := jR HO_6 hb
                       have n2_ := jR HO_7 hb
                       have n3_ := Aside0.mk (Kd.N_elder' (iN HO_8) (Kd.N_base ho0) hb)
                       have n4_ := Aside0.mk (Kd.N_elder' (iN HO_9) (Kd.N_base ho0) hb)
                       have n5_ := Aside0.mk (Kd.N_elder' (iN HO_10) (Kd.N_base ho0) hb)
                       have n6_ := Aside0.mk (Kd.V_elder' (iV HL253_0) (Kd.N_base ho0) hb)
                       have n7_ := Aside0.mk (Kd.V_elder' (iV HL254_0) (Kd.N_base ho0) hb)
                       have n8_ := Aside0.mk (Kd.N_elder' (iN HO257) (Kd.N_base ho0) hb)
                       have n9_ := jR HO260 hb
                       have n10_ := Aside0.mk (Kd.V_elder' (iV HO265) (Kd.N_base ho0) hb)
                       have n11_ := Aside0.mk (Kd.V_elder' (iV HO273) (Kd.N_base ho0) hb)
                       have n12_ := Aside0.mk (Kd.N_elder' (iN HO268) (Kd.N_base ho0) hb)
                       have n13_ := Aside0.mk (Kd.N_elder' (iN HO276) (Kd.N_base ho0) hb)
                       have n14_ := Aside0.mk (Kd.N_lower (Kd.N_mono (ok' := fun k_ => some k_ ≠ (.slice Ao19 t220.length co19 : Value).ownBlock ∧ some k_ ≠ (.slice Ao20 t223.length co20 : Value).ownBlock ∧ some k_ ≠ (.slice Ao53 t229.length co53 : Value).ownBlock ∧ some k_ ≠ (v251 : Value).ownBlock ∧ some k_ ≠ (.slice Ao86 y255.length co86 : Value).ownBlock) ho0 (fun k_ hk_ => ⟨Or.elim hk_ (fun hs_ => hs_.1) (fun hn_ => (Kd.fresh' (Kd.R_lt (iR HO_5)) k_ hn_)), Or.elim hk_ (fun hs_ => hs_.2.1) (fun hn_ => (Kd.fresh' (Kd.R_lt (iR HO_6)) k_ hn_)), Or.elim hk_ (fun hs_ => hs_.2.2.1) (fun hn_ => (Kd.fresh' (Kd.R_lt (iR HO_7)) k_ hn_)), Or.elim hk_ (fun hs_ => hs_.2.2.2.1) (fun hn_ => (Kd.fresh' (Kd.N_lt (iN HO_10)) k_ hn_)), Or.elim hk_ (fun hs_ => hs_.2.2.2.2) (fun hn_ => (Kd.fresh' (Kd.N_lt (iN HO257)) k_ hn_))⟩)) (below_size (iL HB)))
                       have n15_ := Aside0.mk (Kd.C_below (cR HR253_0) hb)
                       have n16_ := Aside0.mk (Kd.C_below (cR HR254_0) hb)
                       have n17_ := jL HB hb
                       clear HO_5
                       clear HO_6
                       clear HO_7
                       clear HO_8
                       clear HO_9
                       clear HO_10
                       clear HL253_0
                       clear HL254_0
                       clear HO257
                       clear HO260
                       clear HO265
                       clear HO273
                       clear HO268
                       clear HO276
                       clear HR253_0
                       clear HR254_0
                       clear HB
                       have HO_5 := n0_
                       have HO_6 := n1_
                       have HO_7 := n2_
                       have HO_8 := n3_
                       have HO_9 := n4_
                       have HO_10 := n5_
                       have HL253_0 := n6_
                       have HL254_0 := n7_
                       have HO257 := n8_
                       have HO260 := n9_
                       have HO265 := n10_
                       have HO273 := n11_
                       have HO268 := n12_
                       have HO276 := n13_
                       have HO279 := n14_
                       have HR253_0 := n15_
                       have HR254_0 := n16_
                       have HB := n17_
                       clear n0_ n1_ n2_ n3_ n4_ n5_ n6_ n7_ n8_ n9_ n10_ n11_ n12_ n13_ n14_ n15_ n16_ n17_
                       (try clear hb)
                       (try clear hb2)
                       (try clear hk)
                       (try clear hi)
                       (try clear ho0)
                       obtain ⟨Ao99, co99, eo99⟩ := Kd.N_slice HO_10.out
                       (first | subst eo99 | (injection eo99 with f1_ f2_ f3_; have f4_ := f1_.symm; have f5_ := f3_.symm; clear f1_ f2_ f3_; subst f4_; subst f5_))
                       obtain ⟨Ao100, co100, eo100⟩ := Kd.N_slice HO279.out
                       (first | subst eo100 | (injection eo100 with f1_ f2_ f3_; have f4_ := f1_.symm; have f5_ := f3_.symm; clear f1_ f2_ f3_; subst f4_; subst f5_))
                       refine hK.out _ _ trivial (fun hHeld => ?_)
                       clear hK K
                       refine norm_ (a' := ?_) ?_ ?_
                       rotate_left
                       ·show Act.put _ (some 96) _ = _
                        simp only [Act.put, List.setIfInBounds_toArray, List.set_cons_zero, List.set_cons_succ, i64_w, i32_w]
                        rfl
                       refine one_ (i := 10) (N := some 97) #[true, true, true, true, true, true, true, true, true, true, true, false] rfl rfl (one_of HT_.out (by kernel_rfl)) (by decide) (fun K hK => ?_)
                       refine goes_ Tryd.func26 (by kernel_rfl) rfl #[.slice Ao99 t250.length co99, .slice Ao100 t277.length co100] (by rfl) rfl rfl (by (try simp only [List.map_toArray, List.map_cons, List.map_nil]); first | done | rfl | (simp only [List.length_drop, List.length_take]; rfl)) ?_
                       with_reducible refine (ancepsref11_SameLists.calls kj49 _ _ t250 _ _ t277 true _ ?side1 ?side2 ?side3 ?side4 A69.out).mono ?_
                       (case side1 => repeat (first | exact (Kd.N_reads' HO_10.out).2.2 | (with_reducible refine Kd.C_alloc ?_ _) | (with_reducible refine Kd.C_drewN ?_ _) | (with_reducible refine Kd.C_drew ?_)))
                       (case side2 => exact (Kd.N_reads' HO_10.out).2.1)
                       (case side3 => repeat (first | exact (Kd.N_reads' HO279.out).2.2 | (with_reducible refine Kd.C_alloc ?_ _) | (with_reducible refine Kd.C_drewN ?_ _) | (with_reducible refine Kd.C_drew ?_)))
                       (case side4 => exact (Kd.N_reads' HO279.out).2.1)
                       rintro e w101 ⟨rfl, hb⟩
                       refine ⟨_, rfl, ?_⟩
                       have n0_ := jR HO_5 hb
                       have n1_ := jR HO_6 hb
                       have n2_ := jR HO_7 hb
                       have n3_ := Aside0.mk (Kd.N_below (iN HO_8) hb)
                       have n4_ := Aside0.mk (Kd.N_below (iN HO_9) hb)
                       have n5_ := Aside0.mk (Kd.N_below (iN HO_10) hb)
                       have n6_ := Aside0.mk (Kd.V_below (iV HL253_0) hb)
                       have n7_ := Aside0.mk (Kd.V_below (iV HL254_0) hb)
                       have n8_ := Aside0.mk (Kd.N_below (iN HO257) hb)
                       have n9_ := jR HO260 hb
                       have n10_ := Aside0.mk (Kd.V_below (iV HO265) hb)
                       have n11_ := Aside0.mk (Kd.V_below (iV HO273) hb)
                       have n12_ := Aside0.mk (Kd.N_below (iN HO268) hb)
                       have n13_ := Aside0.mk (Kd.N_below (iN HO276) hb)
                       have n14_ := Aside0.mk (Kd.N_below (iN HO279) hb)
                       have n15_ := Aside0.mk (Kd.C_below (cR HR253_0) hb)
                       have n16_ := Aside0.mk (Kd.C_below (cR HR254_0) hb)
                       have n17_ := jL HB hb
                       clear HO_5
                       clear HO_6
                       clear HO_7
                       clear HO_8
                       clear HO_9
                       clear HO_10
                       clear HL253_0
                       clear HL254_0
                       clear HO257
                       clear HO260
                       clear HO265
                       clear HO273
                       clear HO268
                       clear HO276
                       clear HO279
                       clear HR253_0
                       clear HR254_0
                       clear HB
                       have HO_5 := n0_
                       have HO_6 := n1_
                       have HO_7 := n2_
                       have HO_8 := n3_
                       have HO_9 := n4_
                       have HO_10 := n5_
                       have HL253_0 := n6_
                       have HL254_0 := n7_
                       have HO257 := n8_
                       have HO260 := n9_
                       have HO265 := n10_
                       have HO273 := n11_
                       have HO268 := n12_
                       have HO276 := n13_
                       have HO279 := n14_
                       have HR253_0 := n15_
                       have HR254_0 := n16_
                       have HB := n17_
                       clear n0_ n1_ n2_ n3_ n4_ n5_ n6_ n7_ n8_ n9_ n10_ n11_ n12_ n13_ n14_ n15_ n16_ n17_
                       (try clear hb)
                       (try clear hb2)
                       (try clear hk)
                       (try clear hi)
                       refine hK.out _ _ trivial (fun hHeld => ?_)
                       clear hK K
                       refine norm_ (a' := ?_) ?_ ?_
                       rotate_left
                       ·show Act.put _ (some 97) _ = _
                        simp only [Act.put, List.setIfInBounds_toArray, List.set_cons_zero, List.set_cons_succ, i64_w, i32_w]
                        rfl
                       refine pv_ 11 (some 98) HT_ ?_
                       refine done_ (done_of HT_.out (by kernel_rfl)) ?_
                       try go_wp2_with (first | ((with_reducible refine gate_callee (f := 32) rfl ?_); refine gL_ (some 101) Tryd.func32 #[.slice Ao19 t220.length co19] ?_; (with_reducible refine (sound_Format.calls kj49 _ _ t220 t281 t282 _ ?side1 ?side2 A71.out).mono ?_); (case side1 => repeat (first | exact (Kd.R_reads' HO_5.out).2.2 | (with_reducible refine Kd.C_alloc ?_ _) | (with_reducible refine Kd.C_drewN ?_ _) | (with_reducible refine Kd.C_drew ?_))); (case side2 => exact (Kd.R_reads' HO_5.out).2.1); rintro e w102 ⟨rfl, hb⟩; refine ⟨_, rfl, ?_⟩; have n0_ := jR HO_5 hb; have n1_ := jR HO_6 hb; have n2_ := jR HO_7 hb; have n3_ := Aside0.mk (Kd.N_below (iN HO_8) hb); have n4_ := Aside0.mk (Kd.N_below (iN HO_9) hb); have n5_ := Aside0.mk (Kd.N_below (iN HO_10) hb); have n6_ := Aside0.mk (Kd.V_below (iV HL253_0) hb); have n7_ := Aside0.mk (Kd.V_below (iV HL254_0) hb); have n8_ := Aside0.mk (Kd.N_below (iN HO257) hb); have n9_ := jR HO260 hb; have n10_ := Aside0.mk (Kd.V_below (iV HO265) hb); have n11_ := Aside0.mk (Kd.V_below (iV HO273) hb); have n12_ := Aside0.mk (Kd.N_below (iN HO268) hb); have n13_ := Aside0.mk (Kd.N_below (iN HO276) hb); have n14_ := Aside0.mk (Kd.N_below (iN HO279) hb); have n15_ := Aside0.mk (Kd.C_below (cR HR253_0) hb); have n16_ := Aside0.mk (Kd.C_below (cR HR254_0) hb); have n17_ := jL HB hb; clear HO_5; clear HO_6; clear HO_7; clear HO_8; clear HO_9; clear HO_10; clear HL253_0; clear HL254_0; clear HO257; clear HO260; clear HO265; clear HO273; clear HO268; clear HO276; clear HO279; clear HR253_0; clear HR254_0; clear HB; have HO_5 := n0_; have HO_6 := n1_; have HO_7 := n2_; have HO_8 := n3_; have HO_9 := n4_; have HO_10 := n5_; have HL253_0 := n6_; have HL254_0 := n7_; have HO257 := n8_; have HO260 := n9_; have HO265 := n10_; have HO273 := n11_; have HO268 := n12_; have HO276 := n13_; have HO279 := n14_; have HR253_0 := n15_; have HR254_0 := n16_; have HB := n17_; clear n0_ n1_ n2_ n3_ n4_ n5_ n6_ n7_ n8_ n9_ n10_ n11_ n12_ n13_ n14_ n15_ n16_ n17_; (try clear hb)) | ((with_reducible refine gate_callee (f := 32) rfl ?_); refine gL_ (some 106) Tryd.func32 #[.slice Ao20 t223.length co20] ?_; (with_reducible refine (sound_Format.calls kj49 _ _ t223 t283 t284 _ ?side1 ?side2 A72.out).mono ?_); (case side1 => repeat (first | exact (Kd.R_reads' HO_6.out).2.2 | (with_reducible refine Kd.C_alloc ?_ _) | (with_reducible refine Kd.C_drewN ?_ _) | (with_reducible refine Kd.C_drew ?_))); (case side2 => exact (Kd.R_reads' HO_6.out).2.1); rintro e w103 ⟨rfl, hb⟩; refine ⟨_, rfl, ?_⟩; have n0_ := jR HO_5 hb; have n1_ := jR HO_6 hb; have n2_ := jR HO_7 hb; have n3_ := Aside0.mk (Kd.N_below (iN HO_8) hb); have n4_ := Aside0.mk (Kd.N_below (iN HO_9) hb); have n5_ := Aside0.mk (Kd.N_below (iN HO_10) hb); have n6_ := Aside0.mk (Kd.V_below (iV HL253_0) hb); have n7_ := Aside0.mk (Kd.V_below (iV HL254_0) hb); have n8_ := Aside0.mk (Kd.N_below (iN HO257) hb); have n9_ := jR HO260 hb; have n10_ := Aside0.mk (Kd.V_below (iV HO265) hb); have n11_ := Aside0.mk (Kd.V_below (iV HO273) hb); have n12_ := Aside0.mk (Kd.N_below (iN HO268) hb); have n13_ := Aside0.mk (Kd.N_below (iN HO276) hb); have n14_ := Aside0.mk (Kd.N_below (iN HO279) hb); have n15_ := Aside0.mk (Kd.C_below (cR HR253_0) hb); have n16_ := Aside0.mk (Kd.C_below (cR HR254_0) hb); have n17_ := jL HB hb; clear HO_5; clear HO_6; clear HO_7; clear HO_8; clear HO_9; clear HO_10; clear HL253_0; clear HL254_0; clear HO257; clear HO260; clear HO265; clear HO273; clear HO268; clear HO276; clear HO279; clear HR253_0; clear HR254_0; clear HB; have HO_5 := n0_; have HO_6 := n1_; have HO_7 := n2_; have HO_8 := n3_; have HO_9 := n4_; have HO_10 := n5_; have HL253_0 := n6_; have HL254_0 := n7_; have HO257 := n8_; have HO260 := n9_; have HO265 := n10_; have HO273 := n11_; have HO268 := n12_; have HO276 := n13_; have HO279 := n14_; have HR253_0 := n15_; have HR254_0 := n16_; have HB := n17_; clear n0_ n1_ n2_ n3_ n4_ n5_ n6_ n7_ n8_ n9_ n10_ n11_ n12_ n13_ n14_ n15_ n16_ n17_; (try clear hb)) | ((with_reducible refine gate_callee (f := 32) rfl ?_); refine gL_ (some 111) Tryd.func32 #[.slice Ao53 t229.length co53] ?_; (with_reducible refine (sound_Format.calls kj49 _ _ t229 t285 t286 _ ?side1 ?side2 A73.out).mono ?_); (case side1 => repeat (first | exact (Kd.R_reads' HO_7.out).2.2 | (with_reducible refine Kd.C_alloc ?_ _) | (with_reducible refine Kd.C_drewN ?_ _) | (with_reducible refine Kd.C_drew ?_))); (case side2 => exact (Kd.R_reads' HO_7.out).2.1); rintro e w104 ⟨rfl, hb⟩; refine ⟨_, rfl, ?_⟩; have n0_ := jR HO_5 hb; have n1_ := jR HO_6 hb; have n2_ := jR HO_7 hb; have n3_ := Aside0.mk (Kd.N_below (iN HO_8) hb); have n4_ := Aside0.mk (Kd.N_below (iN HO_9) hb); have n5_ := Aside0.mk (Kd.N_below (iN HO_10) hb); have n6_ := Aside0.mk (Kd.V_below (iV HL253_0) hb); have n7_ := Aside0.mk (Kd.V_below (iV HL254_0) hb); have n8_ := Aside0.mk (Kd.N_below (iN HO257) hb); have n9_ := jR HO260 hb; have n10_ := Aside0.mk (Kd.V_below (iV HO265) hb); have n11_ := Aside0.mk (Kd.V_below (iV HO273) hb); have n12_ := Aside0.mk (Kd.N_below (iN HO268) hb); have n13_ := Aside0.mk (Kd.N_below (iN HO276) hb); have n14_ := Aside0.mk (Kd.N_below (iN HO279) hb); have n15_ := Aside0.mk (Kd.C_below (cR HR253_0) hb); have n16_ := Aside0.mk (Kd.C_below (cR HR254_0) hb); have n17_ := jL HB hb; clear HO_5; clear HO_6; clear HO_7; clear HO_8; clear HO_9; clear HO_10; clear HL253_0; clear HL254_0; clear HO257; clear HO260; clear HO265; clear HO273; clear HO268; clear HO276; clear HO279; clear HR253_0; clear HR254_0; clear HB; have HO_5 := n0_; have HO_6 := n1_; have HO_7 := n2_; have HO_8 := n3_; have HO_9 := n4_; have HO_10 := n5_; have HL253_0 := n6_; have HL254_0 := n7_; have HO257 := n8_; have HO260 := n9_; have HO265 := n10_; have HO273 := n11_; have HO268 := n12_; have HO276 := n13_; have HO279 := n14_; have HR253_0 := n15_; have HR254_0 := n16_; have HB := n17_; clear n0_ n1_ n2_ n3_ n4_ n5_ n6_ n7_ n8_ n9_ n10_ n11_ n12_ n13_ n14_ n15_ n16_ n17_; (try clear hb)))
                       go_ret
                       exact ⟨by first | rfl | (simp [errW_none, errW_some] <;> rfl) | (simp only [← hji60]; first | rfl | (simp [errW_none, errW_some] <;> rfl)) | (simp [*, errW_none, errW_some] <;> rfl), iL HB⟩
                      ·rw [if_neg c80] at H; cases H
                     ·rw [if_neg c79] at H; cases H
                    ·rw [if_neg c78] at H; cases H
                   ·rw [if_neg c77] at H; cases H
                  ·rw [if_neg c76] at H; cases H
                 ·rw [if_neg c75] at H
                  have c75b0 : decide (0 < (t223.length : Int)) = false := decide_eq_false c75
                  have c75b1 : decide (0 < t223.length) = false := decide_eq_false (by omega)
                  clear c75
                  by_cases c177 : t282 = 0
                  ·rw [if_pos c177] at H
                   have c177b0 : (t282 == 0) = true := beq_iff_eq.mpr c177
                   have c177b1 : (t282 != 0) = false := bne_eq_false_iff_eq.mpr c177
                   clear c177
                   by_cases c178 : t284 = 0
                   ·rw [if_pos c178] at H
                    have c178b0 : (t284 == 0) = true := beq_iff_eq.mpr c178
                    have c178b1 : (t284 != 0) = false := bne_eq_false_iff_eq.mpr c178
                    clear c178
                    by_cases c179 : t286 = 0
                    ·rw [if_pos c179] at H
                     have c179b0 : (t286 == 0) = true := beq_iff_eq.mpr c179
                     have c179b1 : (t286 != 0) = false := bne_eq_false_iff_eq.mpr c179
                     clear c179
                     by_cases c180 : t281.size + t283.size ≤ 9223372036854775807
                     ·rw [if_pos c180] at H
                      have c180b0 := eq_true c180
                      have c180b1 : decide (t281.size + t283.size ≤ 9223372036854775807) = true := decide_eq_true c180
                      try have c180b2 : (9223372036854775807 < t281.size + t283.size) = False := eq_false (Nat.not_lt.2 c180)
                      obtain rfl := Option.some.inj H
                      obtain ⟨Ao181, co181, eo181⟩ := Kd.N_slice HO_8.out
                      subst eo181
                      try go_wp2
                      have n0_ := Aside0.mk (Kd.R_drew HO_5.out)
                      have n1_ := Aside0.mk (Kd.R_drew HO_6.out)
                      have n2_ := Aside0.mk (Kd.R_drew HO_7.out)
                      have n3_ := Aside0.mk (Kd.N_drew HO_8.out)
                      have n4_ := Aside0.mk (Kd.N_drew HO_9.out)
                      have n5_ := Aside0.mk (Kd.N_drew HO_10.out)
                      have n6_ := Aside0.mk (below_drew1 HB.out)
                      clear HO_5
                      clear HO_6
                      clear HO_7
                      clear HO_8
                      clear HO_9
                      clear HO_10
                      clear HB
                      have HO_5 := n0_
                      have HO_6 := n1_
                      have HO_7 := n2_
                      have HO_8 := n3_
                      have HO_9 := n4_
                      have HO_10 := n5_
                      have HB := n6_
                      clear n0_ n1_ n2_ n3_ n4_ n5_ n6_
                      have p253 := oD (0 ≤ ((ji60) : Int))
                      have q253 := oD ((ji60) < (t244.length : Int))
                      obtain ⟨ad253, A253_0, c253_0, e253, hx253_0, hl253_0, hi253_0⟩ := at_L3 (Kd.N_reads' HO_8.out).2.2 (ji60) p253 q253
                      cases e253
                      obtain ⟨ce253, hce253, hMe253, hcc253⟩ := Kd.N_get HO_8.out [] (ji60) p253 (by first | exact q253 | exact of_decide_eq_true (by first | (with_reducible assumption) | assumption) | (have e_ := (Kd.N_reads' HO_8.out).1; omega))
                      obtain ⟨ua253_0, uc253_0, rfl, ul253_0, ge253_0⟩ := Kd.FK_slice_open hMe253
                      have hv253_0 := hcc253 0 _ rfl
                      rw [Nat.add_zero, show ((Kd.slice 23 k23)).sz = 1 from rfl, Nat.mul_one] at hv253_0
                      replace hv253_0 := Option.some.inj (hv253_0.symm.trans hx253_0)
                      injection hv253_0 with hva_ hvn_ hvc_
                      rw [hva_] at ge253_0
                      rw [hvc_] at ul253_0
                      have HL253_0 := Aside0.mk (show Kd.V k23 23 _ w.heap.size _ _ (rd_L3 t244 (ji60)) from Kd.V_mk ul253_0 ge253_0)
                      clear hva_ hvn_ hvc_ ge253_0 ul253_0
                      clear hcc253 hce253
                      have HR253_0 := Aside0.mk hi253_0
                      have HC253_0 := Aside0.mk hl253_0
                      clear hi253_0 hl253_0
                      replace p253 := eq_true p253
                      replace q253 := eq_true q253
                      obtain ⟨Ao183, co183, eo183⟩ := Kd.N_slice HO_9.out
                      (first | subst eo183 | (injection eo183 with f1_ f2_ f3_; have f4_ := f1_.symm; have f5_ := f3_.symm; clear f1_ f2_ f3_; subst f4_; subst f5_))
                      have p254 : 0 ≤ (0 : Int) := (by omega)
                      have q254 := oD (0 < (t247.length : Int))
                      obtain ⟨ad254, A254_0, c254_0, e254, hx254_0, hl254_0, hi254_0⟩ := at_L3 (Kd.N_reads' HO_9.out).2.2 0 p254 q254
                      cases e254
                      obtain ⟨ce254, hce254, hMe254, hcc254⟩ := Kd.N_get HO_9.out [] 0 p254 (by first | exact q254 | exact of_decide_eq_true (by first | (with_reducible assumption) | assumption) | (have e_ := (Kd.N_reads' HO_9.out).1; omega))
                      obtain ⟨ua254_0, uc254_0, rfl, ul254_0, ge254_0⟩ := Kd.FK_slice_open hMe254
                      have hv254_0 := hcc254 0 _ rfl
                      rw [Nat.add_zero, show ((Kd.slice 23 k23)).sz = 1 from rfl, Nat.mul_one] at hv254_0
                      replace hv254_0 := Option.some.inj (hv254_0.symm.trans hx254_0)
                      injection hv254_0 with hva_ hvn_ hvc_
                      rw [hva_] at ge254_0
                      rw [hvc_] at ul254_0
                      have HL254_0 := Aside0.mk (show Kd.V k23 23 _ w.heap.size _ _ (rd_L3 t247 0) from Kd.V_mk ul254_0 ge254_0)
                      clear hva_ hvn_ hvc_ ge254_0 ul254_0
                      clear hcc254 hce254
                      have qi254 : (0 < t247.length) = True := eq_true (by omega)
                      (try rw [show ((0 : Int)).toNat = 0 from rfl] at hx254_0)
                      (try rw [Addr.add_zero'] at hx254_0)
                      have HR254_0 := Aside0.mk hi254_0
                      have HC254_0 := Aside0.mk hl254_0
                      clear hi254_0 hl254_0
                      replace p254 := eq_true p254
                      replace q254 := eq_true q254
                      refine start_ (n := 10) (S := fun w' => w'.cell? (ad253.add ((ji60)).toNat) = some (.slice A253_0 (rd_L3 t244 (ji60)).length c253_0) ∧ w'.cell? ad254 = some (.slice A254_0 (rd_L3 t247 0).length c254_0)) (ds := []) #[false, false, false, false, false, false, false, false, false, false] (by kernel_rfl) rfl rfl ⟨hx253_0, hx254_0⟩ (fun hHeld => ?_); refine with_tabW ancepslaw11_SoundJoined.tab11 ancepslaw11_SoundJoined.bits11 (fun HT_ HW_ => ?_)
                      generalize wc.drew = w182 at HO_5 HO_6 HO_7 HO_8 HO_9 HO_10 HB HL253_0 HL254_0 HR253_0 HR254_0 hx253_0 hx254_0 hHeld ⊢
                      refine pv_ 0 (some 78) HT_ ?_
                      refine pv_ 1 (some 79) HT_ ?_
                      refine pv_ 2 (some 80) HT_ ?_
                      refine pv_ 4 (some 82) HT_ ?_
                      refine pv_ 5 (some 83) HT_ ?_
                      refine tw_ 3 (some 81) HT_ HW_ hHeld ?_
                      refine tw_ 6 (some 84) HT_ HW_ hHeld ?_
                      refine one_ (i := 7) (N := some 85) #[true, true, true, true, true, true, true, true, false, false] rfl rfl (one_of HT_.out (by kernel_rfl)) (by decide) (fun K hK => ?_)
                      refine Kd.N_lit_step (Kd.slice 23 k23) _ 26 ?hg (N' := 85) ?hd (xs := ([rd_L3 t244 (ji60), rd_L3 t247 0] : List (List (S23)))) (inner := [.slice A253_0 (rd_L3 t244 (ji60)).length c253_0, .slice A254_0 (rd_L3 t247 0).length c254_0]) (ok := (fun k_ => some k_ ≠ (.slice Ao19 t220.length co19 : Value).ownBlock ∧ some k_ ≠ (.slice Ao20 t223.length co20 : Value).ownBlock ∧ some k_ ≠ (.slice Ao53 t229.length co53 : Value).ownBlock ∧ some k_ ≠ (.slice (some ad253) t244.length co181 : Value).ownBlock ∧ some k_ ≠ (.slice (some ad254) t247.length co183 : Value).ownBlock ∧ some k_ ≠ (v251 : Value).ownBlock)) (okp := (fun k_ => some k_ ≠ (.slice Ao19 t220.length co19 : Value).ownBlock ∧ some k_ ≠ (.slice Ao20 t223.length co20 : Value).ownBlock ∧ some k_ ≠ (.slice Ao53 t229.length co53 : Value).ownBlock ∧ some k_ ≠ (.slice (some ad253) t244.length co181 : Value).ownBlock ∧ some k_ ≠ (.slice (some ad254) t247.length co183 : Value).ownBlock ∧ some k_ ≠ (v251 : Value).ownBlock)) ?hr ?hp (fun _ hk => hk) ((show ∀ k_, w182.heap.size ≤ k_ → (fun k_ => some k_ ≠ (.slice Ao19 t220.length co19 : Value).ownBlock ∧ some k_ ≠ (.slice Ao20 t223.length co20 : Value).ownBlock ∧ some k_ ≠ (.slice Ao53 t229.length co53 : Value).ownBlock ∧ some k_ ≠ (.slice (some ad253) t244.length co181 : Value).ownBlock ∧ some k_ ≠ (.slice (some ad254) t247.length co183 : Value).ownBlock ∧ some k_ ≠ (v251 : Value).ownBlock) k_ from fun k_ hk => ⟨Kd.fresh' (Kd.R_lt (iR HO_5)) k_ hk, Kd.fresh' (Kd.R_lt (iR HO_6)) k_ hk, Kd.fresh' (Kd.R_lt (iR HO_7)) k_ hk, Kd.fresh' (Kd.N_lt (iN HO_8)) k_ hk, Kd.fresh' (Kd.N_lt (iN HO_9)) k_ hk, Kd.fresh' (Kd.N_lt (iN HO_10)) k_ hk⟩) _ (Nat.le_refl _)) (Below.refl _ _) (Nat.le_refl _) (by simp) ?_; (case hd | hg => rfl); (case hr => first | (go_simp; done) | (go_simp; rfl)); (case hp => exact (Reps.one (show Kd.FK (Kd.slice 23 k23) _ _ (rd_L3 t244 (ji60)) [.slice A253_0 (rd_L3 t244 (ji60)).length c253_0] from (Kd.FK_slice_mk (Kd.V_reads' (Kd.V_mono (ok' := (fun k_ => some k_ ≠ (.slice Ao19 t220.length co19 : Value).ownBlock ∧ some k_ ≠ (.slice Ao20 t223.length co20 : Value).ownBlock ∧ some k_ ≠ (.slice Ao53 t229.length co53 : Value).ownBlock ∧ some k_ ≠ (.slice (some ad253) t244.length co181 : Value).ownBlock ∧ some k_ ≠ (.slice (some ad254) t247.length co183 : Value).ownBlock ∧ some k_ ≠ (v251 : Value).ownBlock)) (HL253_0.out) (fun k_ hk => ⟨hk.1.1, ⟨hk.1.2.1, ⟨hk.1.2.2.1, ⟨hk.2, ⟨hk.1.2.2.2.1, hk.1.2.2.2.2⟩⟩⟩⟩⟩))).2.1 (Kd.V_F (Kd.V_mono (ok' := (fun k_ => some k_ ≠ (.slice Ao19 t220.length co19 : Value).ownBlock ∧ some k_ ≠ (.slice Ao20 t223.length co20 : Value).ownBlock ∧ some k_ ≠ (.slice Ao53 t229.length co53 : Value).ownBlock ∧ some k_ ≠ (.slice (some ad253) t244.length co181 : Value).ownBlock ∧ some k_ ≠ (.slice (some ad254) t247.length co183 : Value).ownBlock ∧ some k_ ≠ (v251 : Value).ownBlock)) (HL253_0.out) (fun k_ hk => ⟨hk.1.1, ⟨hk.1.2.1, ⟨hk.1.2.2.1, ⟨hk.2, ⟨hk.1.2.2.2.1, hk.1.2.2.2.2⟩⟩⟩⟩⟩))))) (Reps.one (show Kd.FK (Kd.slice 23 k23) _ _ (rd_L3 t247 0) [.slice A254_0 (rd_L3 t247 0).length c254_0] from (Kd.FK_slice_mk (Kd.V_reads' (Kd.V_mono (ok' := (fun k_ => some k_ ≠ (.slice Ao19 t220.length co19 : Value).ownBlock ∧ some k_ ≠ (.slice Ao20 t223.length co20 : Value).ownBlock ∧ some k_ ≠ (.slice Ao53 t229.length co53 : Value).ownBlock ∧ some k_ ≠ (.slice (some ad253) t244.length co181 : Value).ownBlock ∧ some k_ ≠ (.slice (some ad254) t247.length co183 : Value).ownBlock ∧ some k_ ≠ (v251 : Value).ownBlock)) (HL254_0.out) (fun k_ hk => ⟨hk.1.1, ⟨hk.1.2.1, ⟨hk.1.2.2.1, ⟨hk.1.2.2.2.1, ⟨hk.2, hk.1.2.2.2.2⟩⟩⟩⟩⟩))).2.1 (Kd.V_F (Kd.V_mono (ok' := (fun k_ => some k_ ≠ (.slice Ao19 t220.length co19 : Value).ownBlock ∧ some k_ ≠ (.slice Ao20 t223.length co20 : Value).ownBlock ∧ some k_ ≠ (.slice Ao53 t229.length co53 : Value).ownBlock ∧ some k_ ≠ (.slice (some ad253) t244.length co181 : Value).ownBlock ∧ some k_ ≠ (.slice (some ad254) t247.length co183 : Value).ownBlock ∧ some k_ ≠ (v251 : Value).ownBlock)) (HL254_0.out) (fun k_ hk => ⟨hk.1.1, ⟨hk.1.2.1, ⟨hk.1.2.2.1, ⟨hk.1.2.2.2.1, ⟨hk.2, hk.1.2.2.2.2⟩⟩⟩⟩⟩))))) (Reps.none _ _))))
                      intro v256 w184 ho185 hb hg_ hnew_
                      have HS0_ := (hb.cell (World.block_lt_of_cell? _ _ (hHeld.1))).trans (hHeld.1)
                      have HS1_ := (hb.cell (World.block_lt_of_cell? _ _ (hHeld.2))).trans (hHeld.2)
                      clear hg_ hnew_
                      (first | rw [← Ny255.out] at ho185 | (simp only [Int.reduceToNat] at ho185; rw [← Ny255.out] at ho185))
                      have n0_ := jR HO_5 hb
                      have n1_ := jR HO_6 hb
                      have n2_ := jR HO_7 hb
                      have n3_ := Aside0.mk (Kd.N_elder' (iN HO_8) (Kd.N_base ho185) hb)
                      have n4_ := Aside0.mk (Kd.N_elder' (iN HO_9) (Kd.N_base ho185) hb)
                      have n5_ := Aside0.mk (Kd.N_elder' (iN HO_10) (Kd.N_base ho185) hb)
                      have n6_ := Aside0.mk (Kd.V_elder' (iV HL253_0) (Kd.N_base ho185) hb)
                      have n7_ := Aside0.mk (Kd.V_elder' (iV HL254_0) (Kd.N_base ho185) hb)
                      have n8_ := Aside0.mk (Kd.N_lower ho185 (below_size (iL HB)))
                      have n9_ := Aside0.mk (Kd.C_below (cR HR253_0) hb)
                      have n10_ := Aside0.mk (Kd.C_below (cR HR254_0) hb)
                      have n11_ := jL HB hb
                      clear HO_5
                      clear HO_6
                      clear HO_7
                      clear HO_8
                      clear HO_9
                      clear HO_10
                      clear HL253_0
                      clear HL254_0
                      clear HR253_0
                      clear HR254_0
                      clear HB
                      have HO_5 := n0_
                      have HO_6 := n1_
                      have HO_7 := n2_
                      have HO_8 := n3_
                      have HO_9 := n4_
                      have HO_10 := n5_
                      have HL253_0 := n6_
                      have HL254_0 := n7_
                      have HO257 := n8_
                      have HR253_0 := n9_
                      have HR254_0 := n10_
                      have HB := n11_
                      clear n0_ n1_ n2_ n3_ n4_ n5_ n6_ n7_ n8_ n9_ n10_ n11_
                      clear hb ho185
                      obtain ⟨Ao186, co186, eo186⟩ := Kd.N_slice HO257.out
                      (first | subst eo186 | (injection eo186 with f1_ f2_ f3_; have f4_ := f1_.symm; have f5_ := f3_.symm; clear f1_ f2_ f3_; subst f4_; subst f5_))
                      refine hK.out _ _ ⟨HS0_, HS1_⟩ (fun hHeld => ?_)
                      clear hK K
                      refine norm_ (a' := ?_) ?_ ?_
                      rotate_left
                      ·show Act.put _ (some 85) _ = _
                       simp only [Act.put, List.setIfInBounds_toArray, List.set_cons_zero, List.set_cons_succ, i64_w, i32_w]
                       rfl
                      refine one_ (i := 8) (N := some 86) #[true, true, true, true, true, true, true, true, true, false] rfl rfl (one_of HT_.out (by kernel_rfl)) (by decide) (fun K hK => ?_)
                      refine goes_ Tryd.func34 (by kernel_rfl) rfl #[.slice Ao186 y255.length co186] (by rfl) rfl rfl (by (try simp only [List.map_toArray, List.map_cons, List.map_nil]); first | done | rfl | (simp only [List.length_drop, List.length_take]; rfl)) ?_
                      with_reducible refine (api_Sound_34.calls _ _ y255 t258 _ ?side1 ?side2 A64.out).mono ?_
                      (case side1 => repeat (first | exact (Kd.N_reads' HO257.out).2.2 | (with_reducible refine Kd.C_alloc ?_ _) | (with_reducible refine Kd.C_drewN ?_ _) | (with_reducible refine Kd.C_drew ?_)))
                      (case side2 => exact (Kd.N_reads' HO257.out).2.1)
                      rintro e w187 ⟨v259, rfl, ho0, hb⟩
                      have HS0_ := (hb.cell (World.block_lt_of_cell? _ _ (hHeld.1))).trans (hHeld.1)
                      have HS1_ := (hb.cell (World.block_lt_of_cell? _ _ (hHeld.2))).trans (hHeld.2)
                      refine ⟨_, rfl, ?_⟩
                      have n0_ := Aside0.mk (Kd.R_elder' (iR HO_5) (Kd.R_base ho0) hb)
                      have n1_ := Aside0.mk (Kd.R_elder' (iR HO_6) (Kd.R_base ho0) hb)
                      have n2_ := Aside0.mk (Kd.R_elder' (iR HO_7) (Kd.R_base ho0) hb)
                      have n3_ := Aside0.mk (Kd.N_elder' (iN HO_8) (Kd.R_base ho0) hb)
                      have n4_ := Aside0.mk (Kd.N_elder' (iN HO_9) (Kd.R_base ho0) hb)
                      have n5_ := Aside0.mk (Kd.N_elder' (iN HO_10) (Kd.R_base ho0) hb)
                      have n6_ := Aside0.mk (Kd.V_elder' (iV HL253_0) (Kd.R_base ho0) hb)
                      have n7_ := Aside0.mk (Kd.V_elder' (iV HL254_0) (Kd.R_base ho0) hb)
                      have n8_ := Aside0.mk (Kd.N_elder' (iN HO257) (Kd.R_base ho0) hb)
                      have n9_ := Aside0.mk (Kd.R_lower (Kd.R_new' (Kd.R_new' (Kd.R_new' ho0 (Kd.R_lt (iR HO_5))) (Kd.R_lt (iR HO_6))) (Kd.R_lt (iR HO_7))) (below_size (iL HB)))
                      have n10_ := Aside0.mk (Kd.C_below (cR HR253_0) hb)
                      have n11_ := Aside0.mk (Kd.C_below (cR HR254_0) hb)
                      have n12_ := jL HB hb
                      clear HO_5
                      clear HO_6
                      clear HO_7
                      clear HO_8
                      clear HO_9
                      clear HO_10
                      clear HL253_0
                      clear HL254_0
                      clear HO257
                      clear HR253_0
                      clear HR254_0
                      clear HB
                      have HO_5 := n0_
                      have HO_6 := n1_
                      have HO_7 := n2_
                      have HO_8 := n3_
                      have HO_9 := n4_
                      have HO_10 := n5_
                      have HL253_0 := n6_
                      have HL254_0 := n7_
                      have HO257 := n8_
                      have HO260 := n9_
                      have HR253_0 := n10_
                      have HR254_0 := n11_
                      have HB := n12_
                      clear n0_ n1_ n2_ n3_ n4_ n5_ n6_ n7_ n8_ n9_ n10_ n11_ n12_
                      (try clear hb)
                      (try clear hb2)
                      (try clear hk)
                      (try clear hi)
                      (try clear ho0)
                      refine hK.out _ _ ⟨HS0_, HS1_⟩ (fun hHeld => ?_)
                      clear hK K
                      refine norm_ (a' := ?_) ?_ ?_
                      rotate_left
                      ·show Act.put _ (some 86) _ = _
                       simp only [Act.put, List.setIfInBounds_toArray, List.set_cons_zero, List.set_cons_succ, i64_w, i32_w]
                       rfl
                      refine pv_ 9 (some 12) HT_ ?_
                      refine done_ (done_of HT_.out (by kernel_rfl)) ?_
                      try go_wp2
                      have n0_ := Aside0.mk (Kd.R_drew HO_5.out)
                      have n1_ := Aside0.mk (Kd.R_drew HO_6.out)
                      have n2_ := Aside0.mk (Kd.R_drew HO_7.out)
                      have n3_ := Aside0.mk (Kd.N_drew HO_8.out)
                      have n4_ := Aside0.mk (Kd.N_drew HO_9.out)
                      have n5_ := Aside0.mk (Kd.N_drew HO_10.out)
                      have n6_ := Aside0.mk (Kd.V_drew HL253_0.out)
                      have n7_ := Aside0.mk (Kd.V_drew HL254_0.out)
                      have n8_ := Aside0.mk (Kd.N_drew HO257.out)
                      have n9_ := Aside0.mk (Kd.R_drew HO260.out)
                      have n10_ := Aside0.mk (Kd.C_drew HR253_0.out)
                      have n11_ := Aside0.mk (Kd.C_drew HR254_0.out)
                      have n12_ := Aside0.mk (below_drew1 HB.out)
                      clear HO_5
                      clear HO_6
                      clear HO_7
                      clear HO_8
                      clear HO_9
                      clear HO_10
                      clear HL253_0
                      clear HL254_0
                      clear HO257
                      clear HO260
                      clear HR253_0
                      clear HR254_0
                      clear HB
                      have HO_5 := n0_
                      have HO_6 := n1_
                      have HO_7 := n2_
                      have HO_8 := n3_
                      have HO_9 := n4_
                      have HO_10 := n5_
                      have HL253_0 := n6_
                      have HL254_0 := n7_
                      have HO257 := n8_
                      have HO260 := n9_
                      have HR253_0 := n10_
                      have HR254_0 := n11_
                      have HB := n12_
                      clear n0_ n1_ n2_ n3_ n4_ n5_ n6_ n7_ n8_ n9_ n10_ n11_ n12_
                      have q189 := oD (((ji60) : Int) ≤ ((t244.length : Int) : Int))
                      obtain ⟨i0189, hi0189, _, hsz189, _⟩ := info_parts info26
                      have hroom189 : t244.length ≤ co181 := (Kd.N_reads' HO_8.out).2.1
                      have hC189 : Kd.F (Kd.slice 23 k23) _ _ (some ad253) t244.length t244 := (Kd.V_at (base := w.heap.size) (Kd.N_V HO_8.out)).2.2
                      have hcut189 := cut_to (P := Tryd.prog) 34 26 .i64 Tryd.underlying34 hi0189 (some ad253) t244.length co181 (ji60) (of_decide_eq_true (by first | (with_reducible assumption) | assumption)) q189 hroom189
                      have hr189 := Kd.F_take (m := ((ji60) : Int).toNat) hC189 (by omega)
                      have hy189 : y261.length = ((ji60) : Int).toNat := (by rw [Ny261.out, List.length_take]; omega)
                      rw [← Ny261.out] at hr189
                      rw [← hy189] at hcut189
                      have HO265 := Aside0.mk (show Kd.V (Kd.slice 23 k23) 26 _ w.heap.size _ (.slice (some ad253) y261.length co181) y261 from Kd.V_mk (by omega) hr189)
                      have HC265 := Aside0.mk (show y261.length ≤ co181 from by omega)
                      clear hr189 hC189 hroom189 hi0189 hsz189
                      have KY189 := Aside0.mk hy189
                      clear hy189
                      replace q189 := eq_true q189
                      have q190 := oD ((1 : Int) ≤ ((t247.length : Int) : Int))
                      obtain ⟨i0190, hi0190, _, hsz190, _⟩ := info_parts info26
                      have hroom190 : t247.length ≤ co183 := (Kd.N_reads' HO_9.out).2.1
                      have hC190 : Kd.F (Kd.slice 23 k23) _ _ (some ad254) t247.length t247 := (Kd.V_at (base := w.heap.size) (Kd.N_V HO_9.out)).2.2
                      have hcut190 := cut_from (P := Tryd.prog) 34 26 .i64 Tryd.underlying34 hi0190 1 hsz190 (some ad254) t247.length co183 1 (by omega) q190
                      have hr190 := Kd.F_cut (m := (1 : Int).toNat) (c := co183) hC190 (by omega) hroom190
                      obtain ⟨A190, hA190⟩ : ∃ A1, A1 = (if co183 = (1 : Int).toNat then (some ad254) else ((some ad254) : Option Addr).map (·.add ((1 : Int).toNat * 1))) := ⟨_, rfl⟩
                      obtain ⟨c190, hc190⟩ : ∃ c1, c1 = co183 - (1 : Int).toNat := ⟨_, rfl⟩
                      have hy190 : y269.length = t247.length - (1 : Int).toNat := (by rw [Ny269.out, List.length_drop] <;> omega)
                      rw [show (t247).drop (1 : Int).toNat = y269 from Ny269.out.symm] at hr190
                      replace hr190 : Kd.F (Kd.slice 23 k23) _ _ A190 y269.length y269 := (by rw [hA190]; exact hr190)
                      rw [← hy190, ← hA190, ← hc190] at hcut190
                      have HO273 := Aside0.mk (show Kd.V (Kd.slice 23 k23) 26 _ w.heap.size _ (.slice A190 y269.length c190) y269 from Kd.V_mk (by rw [hy190, hc190]; exact Nat.sub_le_sub_right hroom190 _) hr190)
                      have HC273 := Aside0.mk (show y269.length ≤ c190 from by rw [hy190, hc190]; exact Nat.sub_le_sub_right hroom190 _)
                      clear hr190 hC190 hroom190 hi0190 hsz190 hc190
                      have KY190 := Aside0.mk hy190
                      have KA190 := Aside0.mk hA190
                      clear hy190 hA190
                      replace q190 := eq_true q190
                      obtain ⟨Ao191, co191, eo191⟩ := Kd.R_slice HO260.out
                      (first | subst eo191 | (injection eo191 with f1_ f2_ f3_; have f4_ := f1_.symm; have f5_ := f3_.symm; clear f1_ f2_ f3_; subst f4_; subst f5_))
                      refine start_ (n := 12) (S := fun w' => True) (ds := []) #[false, false, false, false, false, false, false, false, false, false, false, false] (by kernel_rfl) rfl rfl trivial (fun hHeld => ?_); refine with_tabW ancepslaw11_SoundJoined.tab12 ancepslaw11_SoundJoined.bits12 (fun HT_ HW_ => ?_)
                      generalize w187.drew = w188 at HO_5 HO_6 HO_7 HO_8 HO_9 HO_10 HL253_0 HL254_0 HO257 HO260 HR253_0 HR254_0 HB HO265 HO273 hHeld ⊢
                      refine pv_ 0 (some 87) HT_ ?_
                      refine pv_ 1 (some 88) HT_ ?_
                      refine pv_ 2 (some 89) HT_ ?_
                      refine pv_ 3 (some 90) HT_ ?_
                      refine pv_ 4 (some 91) HT_ ?_
                      refine pv_ 6 (some 93) HT_ ?_
                      refine pv_ 7 (some 94) HT_ ?_
                      refine one_ (i := 5) (N := some 92) #[true, true, true, true, true, true, true, true, false, false, false, false] rfl rfl (one_of HT_.out (by kernel_rfl)) (by decide) (fun K hK => ?_)
                      refine Kd.N_lit_step (Kd.slice 23 k23) _ 26 ?hg (N' := 92) ?hd (xs := ([t258] : List (List (S23)))) (inner := [.slice Ao191 t258.length co191]) (ok := (fun k_ => some k_ ≠ (.slice Ao19 t220.length co19 : Value).ownBlock ∧ some k_ ≠ (.slice Ao20 t223.length co20 : Value).ownBlock ∧ some k_ ≠ (.slice Ao53 t229.length co53 : Value).ownBlock ∧ some k_ ≠ (.slice (some ad253) t244.length co181 : Value).ownBlock ∧ some k_ ≠ (.slice (some ad254) t247.length co183 : Value).ownBlock ∧ some k_ ≠ (v251 : Value).ownBlock ∧ some k_ ≠ (.slice Ao186 y255.length co186 : Value).ownBlock)) (okp := (fun k_ => some k_ ≠ (.slice Ao19 t220.length co19 : Value).ownBlock ∧ some k_ ≠ (.slice Ao20 t223.length co20 : Value).ownBlock ∧ some k_ ≠ (.slice Ao53 t229.length co53 : Value).ownBlock ∧ some k_ ≠ (.slice (some ad253) t244.length co181 : Value).ownBlock ∧ some k_ ≠ (.slice (some ad254) t247.length co183 : Value).ownBlock ∧ some k_ ≠ (v251 : Value).ownBlock ∧ some k_ ≠ (.slice Ao186 y255.length co186 : Value).ownBlock)) ?hr ?hp (fun _ hk => hk) ((show ∀ k_, w188.heap.size ≤ k_ → (fun k_ => some k_ ≠ (.slice Ao19 t220.length co19 : Value).ownBlock ∧ some k_ ≠ (.slice Ao20 t223.length co20 : Value).ownBlock ∧ some k_ ≠ (.slice Ao53 t229.length co53 : Value).ownBlock ∧ some k_ ≠ (.slice (some ad253) t244.length co181 : Value).ownBlock ∧ some k_ ≠ (.slice (some ad254) t247.length co183 : Value).ownBlock ∧ some k_ ≠ (v251 : Value).ownBlock ∧ some k_ ≠ (.slice Ao186 y255.length co186 : Value).ownBlock) k_ from fun k_ hk => ⟨Kd.fresh' (Kd.R_lt (iR HO_5)) k_ hk, Kd.fresh' (Kd.R_lt (iR HO_6)) k_ hk, Kd.fresh' (Kd.R_lt (iR HO_7)) k_ hk, Kd.fresh' (Kd.N_lt (iN HO_8)) k_ hk, Kd.fresh' (Kd.N_lt (iN HO_9)) k_ hk, Kd.fresh' (Kd.N_lt (iN HO_10)) k_ hk, Kd.fresh' (Kd.N_lt (iN HO257)) k_ hk⟩) _ (Nat.le_refl _)) (Below.refl _ _) (Nat.le_refl _) (by simp) ?_; (case hd | hg => rfl); (case hr => first | (go_simp; done) | (go_simp; rfl)); (case hp => exact (Reps.one (show Kd.FK (Kd.slice 23 k23) _ _ t258 [.slice Ao191 t258.length co191] from (Kd.FK_slice_mk (Kd.R_reads' (Kd.R_mono (ok' := (fun k_ => some k_ ≠ (.slice Ao19 t220.length co19 : Value).ownBlock ∧ some k_ ≠ (.slice Ao20 t223.length co20 : Value).ownBlock ∧ some k_ ≠ (.slice Ao53 t229.length co53 : Value).ownBlock ∧ some k_ ≠ (.slice (some ad253) t244.length co181 : Value).ownBlock ∧ some k_ ≠ (.slice (some ad254) t247.length co183 : Value).ownBlock ∧ some k_ ≠ (v251 : Value).ownBlock ∧ some k_ ≠ (.slice Ao186 y255.length co186 : Value).ownBlock)) (Kd.R_apart' (Kd.R_apart' (Kd.R_apart' (Kd.R_apart' (HO260.out) (Kd.N_typed HO_8.out) (by decide)) (Kd.N_typed HO_9.out) (by decide)) (Kd.N_typed HO_10.out) (by decide)) (Kd.N_typed HO257.out) (by decide)) (fun k_ hk => ⟨hk.1.1.1.1.1.1.2, ⟨hk.1.1.1.1.1.2, ⟨hk.1.1.1.1.2, ⟨hk.1.1.1.2, ⟨hk.1.1.2, ⟨hk.1.2, hk.2⟩⟩⟩⟩⟩⟩))).2.1 (Kd.R_F (Kd.R_mono (ok' := (fun k_ => some k_ ≠ (.slice Ao19 t220.length co19 : Value).ownBlock ∧ some k_ ≠ (.slice Ao20 t223.length co20 : Value).ownBlock ∧ some k_ ≠ (.slice Ao53 t229.length co53 : Value).ownBlock ∧ some k_ ≠ (.slice (some ad253) t244.length co181 : Value).ownBlock ∧ some k_ ≠ (.slice (some ad254) t247.length co183 : Value).ownBlock ∧ some k_ ≠ (v251 : Value).ownBlock ∧ some k_ ≠ (.slice Ao186 y255.length co186 : Value).ownBlock)) (Kd.R_apart' (Kd.R_apart' (Kd.R_apart' (Kd.R_apart' (HO260.out) (Kd.N_typed HO_8.out) (by decide)) (Kd.N_typed HO_9.out) (by decide)) (Kd.N_typed HO_10.out) (by decide)) (Kd.N_typed HO257.out) (by decide)) (fun k_ hk => ⟨hk.1.1.1.1.1.1.2, ⟨hk.1.1.1.1.1.2, ⟨hk.1.1.1.1.2, ⟨hk.1.1.1.2, ⟨hk.1.1.2, ⟨hk.1.2, hk.2⟩⟩⟩⟩⟩⟩))))) (Reps.none _ _)))
                      intro v267 w192 ho193 hb hg_ hnew_
                      clear hg_ hnew_
                      (first | rw [← Ny266.out] at ho193 | (simp only [Int.reduceToNat] at ho193; rw [← Ny266.out] at ho193))
                      have n0_ := jR HO_5 hb
                      have n1_ := jR HO_6 hb
                      have n2_ := jR HO_7 hb
                      have n3_ := Aside0.mk (Kd.N_elder' (iN HO_8) (Kd.N_base ho193) hb)
                      have n4_ := Aside0.mk (Kd.N_elder' (iN HO_9) (Kd.N_base ho193) hb)
                      have n5_ := Aside0.mk (Kd.N_elder' (iN HO_10) (Kd.N_base ho193) hb)
                      have n6_ := Aside0.mk (Kd.V_elder' (iV HL253_0) (Kd.N_base ho193) hb)
                      have n7_ := Aside0.mk (Kd.V_elder' (iV HL254_0) (Kd.N_base ho193) hb)
                      have n8_ := Aside0.mk (Kd.N_elder' (iN HO257) (Kd.N_base ho193) hb)
                      have n9_ := jR HO260 hb
                      have n10_ := Aside0.mk (Kd.V_elder' (iV HO265) (Kd.N_base ho193) hb)
                      have n11_ := Aside0.mk (Kd.V_elder' (iV HO273) (Kd.N_base ho193) hb)
                      have n12_ := Aside0.mk (Kd.N_lower ho193 (below_size (iL HB)))
                      have n13_ := Aside0.mk (Kd.C_below (cR HR253_0) hb)
                      have n14_ := Aside0.mk (Kd.C_below (cR HR254_0) hb)
                      have n15_ := jL HB hb
                      clear HO_5
                      clear HO_6
                      clear HO_7
                      clear HO_8
                      clear HO_9
                      clear HO_10
                      clear HL253_0
                      clear HL254_0
                      clear HO257
                      clear HO260
                      clear HO265
                      clear HO273
                      clear HR253_0
                      clear HR254_0
                      clear HB
                      have HO_5 := n0_
                      have HO_6 := n1_
                      have HO_7 := n2_
                      have HO_8 := n3_
                      have HO_9 := n4_
                      have HO_10 := n5_
                      have HL253_0 := n6_
                      have HL254_0 := n7_
                      have HO257 := n8_
                      have HO260 := n9_
                      have HO265 := n10_
                      have HO273 := n11_
                      have HO268 := n12_
                      have HR253_0 := n13_
                      have HR254_0 := n14_
                      have HB := n15_
                      clear n0_ n1_ n2_ n3_ n4_ n5_ n6_ n7_ n8_ n9_ n10_ n11_ n12_ n13_ n14_ n15_
                      clear hb ho193
                      obtain ⟨Ao194, co194, eo194⟩ := Kd.N_slice HO268.out
                      (first | subst eo194 | (injection eo194 with f1_ f2_ f3_; have f4_ := f1_.symm; have f5_ := f3_.symm; clear f1_ f2_ f3_; subst f4_; subst f5_))
                      refine hK.out _ _ trivial (fun hHeld => ?_)
                      clear hK K
                      refine norm_ (a' := ?_) ?_ ?_
                      rotate_left
                      ·show Act.put _ (some 92) _ = _
                       simp only [Act.put, List.setIfInBounds_toArray, List.set_cons_zero, List.set_cons_succ, i64_w, i32_w]
                       rfl
                      refine one_ (i := 8) (N := some 95) #[true, true, true, true, true, true, true, true, true, false, false, false] rfl rfl (one_of HT_.out (by kernel_rfl)) (by decide) (fun K hK => ?_)
                      refine Kd.N_lit_step (Kd.slice 26 (Kd.slice 23 k23)) _ 34 ?hg (N' := 95) ?hd (xs := ([y261, y266, y269] : List (List (List (S23))))) (inner := [.slice (some ad253) y261.length co181, .slice Ao194 y266.length co194, .slice A190 y269.length c190]) (ok := (fun k_ => some k_ ≠ (.slice Ao19 t220.length co19 : Value).ownBlock ∧ some k_ ≠ (.slice Ao20 t223.length co20 : Value).ownBlock ∧ some k_ ≠ (.slice Ao53 t229.length co53 : Value).ownBlock ∧ some k_ ≠ (v251 : Value).ownBlock ∧ some k_ ≠ (.slice Ao186 y255.length co186 : Value).ownBlock)) (okp := (fun k_ => some k_ ≠ (.slice Ao19 t220.length co19 : Value).ownBlock ∧ some k_ ≠ (.slice Ao20 t223.length co20 : Value).ownBlock ∧ some k_ ≠ (.slice Ao53 t229.length co53 : Value).ownBlock ∧ some k_ ≠ (v251 : Value).ownBlock ∧ some k_ ≠ (.slice Ao186 y255.length co186 : Value).ownBlock)) ?hr ?hp (fun _ hk => hk) ((show ∀ k_, w192.heap.size ≤ k_ → (fun k_ => some k_ ≠ (.slice Ao19 t220.length co19 : Value).ownBlock ∧ some k_ ≠ (.slice Ao20 t223.length co20 : Value).ownBlock ∧ some k_ ≠ (.slice Ao53 t229.length co53 : Value).ownBlock ∧ some k_ ≠ (v251 : Value).ownBlock ∧ some k_ ≠ (.slice Ao186 y255.length co186 : Value).ownBlock) k_ from fun k_ hk => ⟨Kd.fresh' (Kd.R_lt (iR HO_5)) k_ hk, Kd.fresh' (Kd.R_lt (iR HO_6)) k_ hk, Kd.fresh' (Kd.R_lt (iR HO_7)) k_ hk, Kd.fresh' (Kd.N_lt (iN HO_10)) k_ hk, Kd.fresh' (Kd.N_lt (iN HO257)) k_ hk⟩) _ (Nat.le_refl _)) (Below.refl _ _) (Nat.le_refl _) (by simp) ?_; (case hd | hg => rfl); (case hr => first | (go_simp; done) | (go_simp; rfl)); (case hp => exact (Reps.one (show Kd.FK (Kd.slice 26 (Kd.slice 23 k23)) _ _ y261 [.slice (some ad253) y261.length co181] from (Kd.FK_slice_mk (Kd.V_reads' (Kd.V_mono (ok' := (fun k_ => some k_ ≠ (.slice Ao19 t220.length co19 : Value).ownBlock ∧ some k_ ≠ (.slice Ao20 t223.length co20 : Value).ownBlock ∧ some k_ ≠ (.slice Ao53 t229.length co53 : Value).ownBlock ∧ some k_ ≠ (v251 : Value).ownBlock ∧ some k_ ≠ (.slice Ao186 y255.length co186 : Value).ownBlock)) (HO265.out) (fun k_ hk => ⟨hk.1.1.1.1, ⟨hk.1.1.1.2.1, ⟨hk.1.1.1.2.2.1, ⟨hk.1.1.1.2.2.2.2, hk.1.1.2⟩⟩⟩⟩))).2.1 (Kd.V_F (Kd.V_mono (ok' := (fun k_ => some k_ ≠ (.slice Ao19 t220.length co19 : Value).ownBlock ∧ some k_ ≠ (.slice Ao20 t223.length co20 : Value).ownBlock ∧ some k_ ≠ (.slice Ao53 t229.length co53 : Value).ownBlock ∧ some k_ ≠ (v251 : Value).ownBlock ∧ some k_ ≠ (.slice Ao186 y255.length co186 : Value).ownBlock)) (HO265.out) (fun k_ hk => ⟨hk.1.1.1.1, ⟨hk.1.1.1.2.1, ⟨hk.1.1.1.2.2.1, ⟨hk.1.1.1.2.2.2.2, hk.1.1.2⟩⟩⟩⟩))))) (Reps.one (show Kd.FK (Kd.slice 26 (Kd.slice 23 k23)) _ _ y266 [.slice Ao194 y266.length co194] from (Kd.FK_slice_mk (Kd.N_reads' (Kd.N_mono (ok' := (fun k_ => some k_ ≠ (.slice Ao19 t220.length co19 : Value).ownBlock ∧ some k_ ≠ (.slice Ao20 t223.length co20 : Value).ownBlock ∧ some k_ ≠ (.slice Ao53 t229.length co53 : Value).ownBlock ∧ some k_ ≠ (v251 : Value).ownBlock ∧ some k_ ≠ (.slice Ao186 y255.length co186 : Value).ownBlock)) (HO268.out) (fun k_ hk => ⟨hk.1, ⟨hk.2.1, ⟨hk.2.2.1, ⟨hk.2.2.2.2.2.1, hk.2.2.2.2.2.2⟩⟩⟩⟩))).2.1 (Kd.N_F (Kd.N_mono (ok' := (fun k_ => some k_ ≠ (.slice Ao19 t220.length co19 : Value).ownBlock ∧ some k_ ≠ (.slice Ao20 t223.length co20 : Value).ownBlock ∧ some k_ ≠ (.slice Ao53 t229.length co53 : Value).ownBlock ∧ some k_ ≠ (v251 : Value).ownBlock ∧ some k_ ≠ (.slice Ao186 y255.length co186 : Value).ownBlock)) (HO268.out) (fun k_ hk => ⟨hk.1, ⟨hk.2.1, ⟨hk.2.2.1, ⟨hk.2.2.2.2.2.1, hk.2.2.2.2.2.2⟩⟩⟩⟩))))) (Reps.one (show Kd.FK (Kd.slice 26 (Kd.slice 23 k23)) _ _ y269 [.slice A190 y269.length c190] from (Kd.FK_slice_mk (Kd.V_reads' (Kd.V_mono (ok' := (fun k_ => some k_ ≠ (.slice Ao19 t220.length co19 : Value).ownBlock ∧ some k_ ≠ (.slice Ao20 t223.length co20 : Value).ownBlock ∧ some k_ ≠ (.slice Ao53 t229.length co53 : Value).ownBlock ∧ some k_ ≠ (v251 : Value).ownBlock ∧ some k_ ≠ (.slice Ao186 y255.length co186 : Value).ownBlock)) (HO273.out) (fun k_ hk => ⟨hk.1.1.1.1, ⟨hk.1.1.1.2.1, ⟨hk.1.1.1.2.2.1, ⟨hk.1.1.1.2.2.2.2, hk.1.1.2⟩⟩⟩⟩))).2.1 (Kd.V_F (Kd.V_mono (ok' := (fun k_ => some k_ ≠ (.slice Ao19 t220.length co19 : Value).ownBlock ∧ some k_ ≠ (.slice Ao20 t223.length co20 : Value).ownBlock ∧ some k_ ≠ (.slice Ao53 t229.length co53 : Value).ownBlock ∧ some k_ ≠ (v251 : Value).ownBlock ∧ some k_ ≠ (.slice Ao186 y255.length co186 : Value).ownBlock)) (HO273.out) (fun k_ hk => ⟨hk.1.1.1.1, ⟨hk.1.1.1.2.1, ⟨hk.1.1.1.2.2.1, ⟨hk.1.1.1.2.2.2.2, hk.1.1.2⟩⟩⟩⟩))))) (Reps.none _ _)))))
                      intro v275 w195 ho196 hb hg_ hnew_
                      clear hg_ hnew_
                      (first | rw [← Ny274.out] at ho196 | (simp only [Int.reduceToNat] at ho196; rw [← Ny274.out] at ho196))
                      have n0_ := jR HO_5 hb
                      have n1_ := jR HO_6 hb
                      have n2_ := jR HO_7 hb
                      have n3_ := Aside0.mk (Kd.N_elder' (iN HO_8) (Kd.N_base ho196) hb)
                      have n4_ := Aside0.mk (Kd.N_elder' (iN HO_9) (Kd.N_base ho196) hb)
                      have n5_ := Aside0.mk (Kd.N_elder' (iN HO_10) (Kd.N_base ho196) hb)
                      have n6_ := Aside0.mk (Kd.V_elder' (iV HL253_0) (Kd.N_base ho196) hb)
                      have n7_ := Aside0.mk (Kd.V_elder' (iV HL254_0) (Kd.N_base ho196) hb)
                      have n8_ := Aside0.mk (Kd.N_elder' (iN HO257) (Kd.N_base ho196) hb)
                      have n9_ := jR HO260 hb
                      have n10_ := Aside0.mk (Kd.V_elder' (iV HO265) (Kd.N_base ho196) hb)
                      have n11_ := Aside0.mk (Kd.V_elder' (iV HO273) (Kd.N_base ho196) hb)
                      have n12_ := Aside0.mk (Kd.N_elder' (iN HO268) (Kd.N_base ho196) hb)
                      have n13_ := Aside0.mk (Kd.N_lower ho196 (below_size (iL HB)))
                      have n14_ := Aside0.mk (Kd.C_below (cR HR253_0) hb)
                      have n15_ := Aside0.mk (Kd.C_below (cR HR254_0) hb)
                      have n16_ := jL HB hb
                      clear HO_5
                      clear HO_6
                      clear HO_7
                      clear HO_8
                      clear HO_9
                      clear HO_10
                      clear HL253_0
                      clear HL254_0
                      clear HO257
                      clear HO260
                      clear HO265
                      clear HO273
                      clear HO268
                      clear HR253_0
                      clear HR254_0
                      clear HB
                      have HO_5 := n0_
                      have HO_6 := n1_
                      have HO_7 := n2_
                      have HO_8 := n3_
                      have HO_9 := n4_
                      have HO_10 := n5_
                      have HL253_0 := n6_
                      have HL254_0 := n7_
                      have HO257 := n8_
                      have HO260 := n9_
                      have HO265 := n10_
                      have HO273 := n11_
                      have HO268 := n12_
                      have HO276 := n13_
                      have HR253_0 := n14_
                      have HR254_0 := n15_
                      have HB := n16_
                      clear n0_ n1_ n2_ n3_ n4_ n5_ n6_ n7_ n8_ n9_ n10_ n11_ n12_ n13_ n14_ n15_ n16_
                      clear hb ho196
                      obtain ⟨Ao197, co197, eo197⟩ := Kd.N_slice HO276.out
                      (first | subst eo197 | (injection eo197 with f1_ f2_ f3_; have f4_ := f1_.symm; have f5_ := f3_.symm; clear f1_ f2_ f3_; subst f4_; subst f5_))
                      refine hK.out _ _ trivial (fun hHeld => ?_)
                      clear hK K
                      refine norm_ (a' := ?_) ?_ ?_
                      rotate_left
                      ·show Act.put _ (some 95) _ = _
                       simp only [Act.put, List.setIfInBounds_toArray, List.set_cons_zero, List.set_cons_succ, i64_w, i32_w]
                       rfl
                      refine one_ (i := 9) (N := some 96) #[true, true, true, true, true, true, true, true, true, true, false, false] rfl rfl (one_of HT_.out (by kernel_rfl)) (by decide) (fun K hK => ?_)
                      refine goes_ Tryd.func35 (by kernel_rfl) rfl #[.slice Ao197 y274.length co197] (by rfl) rfl rfl (by (try simp only [List.map_toArray, List.map_cons, List.map_nil]); first | done | rfl | (simp only [List.length_drop, List.length_take]; rfl)) ?_
                      with_reducible refine (api_Sound_35.calls (fun k_ => (some k_ ≠ (.slice Ao19 t220.length co19 : Value).ownBlock ∧ (some k_ ≠ (.slice Ao20 t223.length co20 : Value).ownBlock ∧ (some k_ ≠ (.slice Ao53 t229.length co53 : Value).ownBlock ∧ (some k_ ≠ (v251 : Value).ownBlock ∧ some k_ ≠ (.slice Ao186 y255.length co186 : Value).ownBlock))))) _ _ y274 t277 _ ?side1 A68.out).mono ?_
                      (case side1 => exact Kd.N_V (HO276.out))
                      rintro e w198 ⟨v278, rfl, ho0, hb⟩
                      refine ⟨_, rfl, ?_⟩
                      have n0_ := jR HO_5 hb
                      have n1_ := jR HO_6 hb
                      have n2_ := jR HO_7 hb
                      have n3_ := Aside0.mk (Kd.N_elder' (iN HO_8) (Kd.N_base ho0) hb)
                      have n4_ := Aside0.mk (Kd.N_elder' (iN HO_9) (Kd.N_base ho0) hb)
                      have n5_ := Aside0.mk (Kd.N_elder' (iN HO_10) (Kd.N_base ho0) hb)
                      have n6_ := Aside0.mk (Kd.V_elder' (iV HL253_0) (Kd.N_base ho0) hb)
                      have n7_ := Aside0.mk (Kd.V_elder' (iV HL254_0) (Kd.N_base ho0) hb)
                      have n8_ := Aside0.mk (Kd.N_elder' (iN HO257) (Kd.N_base ho0) hb)
                      have n9_ := jR HO260 hb
                      have n10_ := Aside0.mk (Kd.V_elder' (iV HO265) (Kd.N_base ho0) hb)
                      have n11_ := Aside0.mk (Kd.V_elder' (iV HO273) (Kd.N_base ho0) hb)
                      have n12_ := Aside0.mk (Kd.N_elder' (iN HO268) (Kd.N_base ho0) hb)
                      have n13_ := Aside0.mk (Kd.N_elder' (iN HO276) (Kd.N_base ho0) hb)
                      have n14_ := Aside0.mk (Kd.N_lower (Kd.N_mono (ok' := fun k_ => some k_ ≠ (.slice Ao19 t220.length co19 : Value).ownBlock ∧ some k_ ≠ (.slice Ao20 t223.length co20 : Value).ownBlock ∧ some k_ ≠ (.slice Ao53 t229.length co53 : Value).ownBlock ∧ some k_ ≠ (v251 : Value).ownBlock ∧ some k_ ≠ (.slice Ao186 y255.length co186 : Value).ownBlock) ho0 (fun k_ hk_ => ⟨Or.elim hk_ (fun hs_ => hs_.1) (fun hn_ => (Kd.fresh' (Kd.R_lt (iR HO_5)) k_ hn_)), Or.elim hk_ (fun hs_ => hs_.2.1) (fun hn_ => (Kd.fresh' (Kd.R_lt (iR HO_6)) k_ hn_)), Or.elim hk_ (fun hs_ => hs_.2.2.1) (fun hn_ => (Kd.fresh' (Kd.R_lt (iR HO_7)) k_ hn_)), Or.elim hk_ (fun hs_ => hs_.2.2.2.1) (fun hn_ => (Kd.fresh' (Kd.N_lt (iN HO_10)) k_ hn_)), Or.elim hk_ (fun hs_ => hs_.2.2.2.2) (fun hn_ => (Kd.fresh' (Kd.N_lt (iN HO257)) k_ hn_))⟩)) (below_size (iL HB)))
                      have n15_ := Aside0.mk (Kd.C_below (cR HR253_0) hb)
                      have n16_ := Aside0.mk (Kd.C_below (cR HR254_0) hb)
                      have n17_ := jL HB hb
                      clear HO_5
                      clear HO_6
                      clear HO_7
                      clear HO_8
                      clear HO_9
                      clear HO_10
                      clear HL253_0
                      clear HL254_0
                      clear HO257
                      clear HO260
                      clear HO265
                      clear HO273
                      clear HO268
                      clear HO276
                      clear HR253_0
                      clear HR254_0
                      clear HB
                      have HO_5 := n0_
                      have HO_6 := n1_
                      have HO_7 := n2_
                      have HO_8 := n3_
                      have HO_9 := n4_
                      have HO_10 := n5_
                      have HL253_0 := n6_
                      have HL254_0 := n7_
                      have HO257 := n8_
                      have HO260 := n9_
                      have HO265 := n10_
                      have HO273 := n11_
                      have HO268 := n12_
                      have HO276 := n13_
                      have HO279 := n14_
                      have HR253_0 := n15_
                      have HR254_0 := n16_
                      have HB := n17_
                      clear n0_ n1_ n2_ n3_ n4_ n5_ n6_ n7_ n8_ n9_ n10_ n11_ n12_ n13_ n14_ n15_ n16_ n17_
                      (try clear hb)
                      (try clear hb2)
                      (try clear hk)
                      (try clear hi)
                      (try clear ho0)
                      obtain ⟨Ao199, co199, eo199⟩ := Kd.N_slice HO_10.out
                      (first | subst eo199 | (injection eo199 with f1_ f2_ f3_; have f4_ := f1_.symm; have f5_ := f3_.symm; clear f1_ f2_ f3_; subst f4_; subst f5_))
                      obtain ⟨Ao200, co200, eo200⟩ := Kd.N_slice HO279.out
                      (first | subst eo200 | (injection eo200 with f1_ f2_ f3_; have f4_ := f1_.symm; have f5_ := f3_.symm; clear f1_ f2_ f3_; subst f4_; subst f5_))
                      refine hK.out _ _ trivial (fun hHeld => ?_)
                      clear hK K
                      refine norm_ (a' := ?_) ?_ ?_
                      rotate_left
                      ·show Act.put _ (some 96) _ = _
                       simp only [Act.put, List.setIfInBounds_toArray, List.set_cons_zero, List.set_cons_succ, i64_w, i32_w]
                       rfl
                      refine one_ (i := 10) (N := some 97) #[true, true, true, true, true, true, true, true, true, true, true, false] rfl rfl (one_of HT_.out (by kernel_rfl)) (by decide) (fun K hK => ?_)
                      refine goes_ Tryd.func26 (by kernel_rfl) rfl #[.slice Ao199 t250.length co199, .slice Ao200 t277.length co200] (by rfl) rfl rfl (by (try simp only [List.map_toArray, List.map_cons, List.map_nil]); first | done | rfl | (simp only [List.length_drop, List.length_take]; rfl)) ?_
                      with_reducible refine (ancepsref11_SameLists.calls kj49 _ _ t250 _ _ t277 true _ ?side1 ?side2 ?side3 ?side4 A69.out).mono ?_
                      (case side1 => repeat (first | exact (Kd.N_reads' HO_10.out).2.2 | (with_reducible refine Kd.C_alloc ?_ _) | (with_reducible refine Kd.C_drewN ?_ _) | (with_reducible refine Kd.C_drew ?_)))
                      (case side2 => exact (Kd.N_reads' HO_10.out).2.1)
                      (case side3 => repeat (first | exact (Kd.N_reads' HO279.out).2.2 | (with_reducible refine Kd.C_alloc ?_ _) | (with_reducible refine Kd.C_drewN ?_ _) | (with_reducible refine Kd.C_drew ?_)))
                      (case side4 => exact (Kd.N_reads' HO279.out).2.1)
                      rintro e w201 ⟨rfl, hb⟩
                      refine ⟨_, rfl, ?_⟩
                      have n0_ := jR HO_5 hb
                      have n1_ := jR HO_6 hb
                      have n2_ := jR HO_7 hb
                      have n3_ := Aside0.mk (Kd.N_below (iN HO_8) hb)
                      have n4_ := Aside0.mk (Kd.N_below (iN HO_9) hb)
                      have n5_ := Aside0.mk (Kd.N_below (iN HO_10) hb)
                      have n6_ := Aside0.mk (Kd.V_below (iV HL253_0) hb)
                      have n7_ := Aside0.mk (Kd.V_below (iV HL254_0) hb)
                      have n8_ := Aside0.mk (Kd.N_below (iN HO257) hb)
                      have n9_ := jR HO260 hb
                      have n10_ := Aside0.mk (Kd.V_below (iV HO265) hb)
                      have n11_ := Aside0.mk (Kd.V_below (iV HO273) hb)
                      have n12_ := Aside0.mk (Kd.N_below (iN HO268) hb)
                      have n13_ := Aside0.mk (Kd.N_below (iN HO276) hb)
                      have n14_ := Aside0.mk (Kd.N_below (iN HO279) hb)
                      have n15_ := Aside0.mk (Kd.C_below (cR HR253_0) hb)
                      have n16_ := Aside0.mk (Kd.C_below (cR HR254_0) hb)
                      have n17_ := jL HB hb
                      clear HO_5
                      clear HO_6
                      clear HO_7
                      clear HO_8
                      clear HO_9
                      clear HO_10
                      clear HL253_0
                      clear HL254_0
                      clear HO257
                      clear HO260
                      clear HO265
                      clear HO273
                      clear HO268
                      clear HO276
                      clear HO279
                      clear HR253_0
                      clear HR254_0
                      clear HB
                      have HO_5 := n0_
                      have HO_6 := n1_
                      have HO_7 := n2_
                      have HO_8 := n3_
                      have HO_9 := n4_
                      have HO_10 := n5_
                      have HL253_0 := n6_
                      have HL254_0 := n7_
                      have HO257 := n8_
                      have HO260 := n9_
                      have HO265 := n10_
                      have HO273 := n11_
                      have HO268 := n12_
                      have HO276 := n13_
                      have HO279 := n14_
                      have HR253_0 := n15_
                      have HR254_0 := n16_
                      have HB := n17_
                      clear n0_ n1_ n2_ n3_ n4_ n5_ n6_ n7_ n8_ n9_ n10_ n11_ n12_ n13_ n14_ n15_ n16_ n17_
                      (try clear hb)
                      (try clear hb2)
                      (try clear hk)
                      (try clear hi)
                      refine hK.out _ _ trivial (fun hHeld => ?_)
                      clear hK K
                      refine norm_ (a' := ?_) ?_ ?_
                      rotate_left
                      ·show Act.put _ (some 97) _ = _
                       simp only [Act.put, List.setIfInBounds_toArray, List.set_cons_zero, List.set_cons_succ, i64_w, i32_w]
                       rfl
                      refine pv_ 11 (some 98) HT_ ?_
                      refine done_ (done_of HT_.out (by kernel_rfl)) ?_
                      try go_wp2_with (first | ((with_reducible refine gate_callee (f := 32) rfl ?_); refine gL_ (some 101) Tryd.func32 #[.slice Ao19 t220.length co19] ?_; (with_reducible refine (sound_Format.calls kj49 _ _ t220 t281 t282 _ ?side1 ?side2 A71.out).mono ?_); (case side1 => repeat (first | exact (Kd.R_reads' HO_5.out).2.2 | (with_reducible refine Kd.C_alloc ?_ _) | (with_reducible refine Kd.C_drewN ?_ _) | (with_reducible refine Kd.C_drew ?_))); (case side2 => exact (Kd.R_reads' HO_5.out).2.1); rintro e w202 ⟨rfl, hb⟩; refine ⟨_, rfl, ?_⟩; have n0_ := jR HO_5 hb; have n1_ := jR HO_6 hb; have n2_ := jR HO_7 hb; have n3_ := Aside0.mk (Kd.N_below (iN HO_8) hb); have n4_ := Aside0.mk (Kd.N_below (iN HO_9) hb); have n5_ := Aside0.mk (Kd.N_below (iN HO_10) hb); have n6_ := Aside0.mk (Kd.V_below (iV HL253_0) hb); have n7_ := Aside0.mk (Kd.V_below (iV HL254_0) hb); have n8_ := Aside0.mk (Kd.N_below (iN HO257) hb); have n9_ := jR HO260 hb; have n10_ := Aside0.mk (Kd.V_below (iV HO265) hb); have n11_ := Aside0.mk (Kd.V_below (iV HO273) hb); have n12_ := Aside0.mk (Kd.N_below (iN HO268) hb); have n13_ := Aside0.mk (Kd.N_below (iN HO276) hb); have n14_ := Aside0.mk (Kd.N_below (iN HO279) hb); have n15_ := Aside0.mk (Kd.C_below (cR HR253_0) hb); have n16_ := Aside0.mk (Kd.C_below (cR HR254_0) hb); have n17_ := jL HB hb; clear HO_5; clear HO_6; clear HO_7; clear HO_8; clear HO_9; clear HO_10; clear HL253_0; clear HL254_0; clear HO257; clear HO260; clear HO265; clear HO273; clear HO268; clear HO276; clear HO279; clear HR253_0; clear HR254_0; clear HB; have HO_5 := n0_; have HO_6 := n1_; have HO_7 := n2_; have HO_8 := n3_; have HO_9 := n4_; have HO_10 := n5_; have HL253_0 := n6_; have HL254_0 := n7_; have HO257 := n8_; have HO260 := n9_; have HO265 := n10_; have HO273 := n11_; have HO268 := n12_; have HO276 := n13_; have HO279 := n14_; have HR253_0 := n15_; have HR254_0 := n16_; have HB := n17_; clear n0_ n1_ n2_ n3_ n4_ n5_ n6_ n7_ n8_ n9_ n10_ n11_ n12_ n13_ n14_ n15_ n16_ n17_; (try clear hb)) | ((with_reducible refine gate_callee (f := 32) rfl ?_); refine gL_ (some 106) Tryd.func32 #[.slice Ao20 t223.length co20] ?_; (with_reducible refine (sound_Format.calls kj49 _ _ t223 t283 t284 _ ?side1 ?side2 A72.out).mono ?_); (case side1 => repeat (first | exact (Kd.R_reads' HO_6.out).2.2 | (with_reducible refine Kd.C_alloc ?_ _) | (with_reducible refine Kd.C_drewN ?_ _) | (with_reducible refine Kd.C_drew ?_))); (case side2 => exact (Kd.R_reads' HO_6.out).2.1); rintro e w203 ⟨rfl, hb⟩; refine ⟨_, rfl, ?_⟩; have n0_ := jR HO_5 hb; have n1_ := jR HO_6 hb; have n2_ := jR HO_7 hb; have n3_ := Aside0.mk (Kd.N_below (iN HO_8) hb); have n4_ := Aside0.mk (Kd.N_below (iN HO_9) hb); have n5_ := Aside0.mk (Kd.N_below (iN HO_10) hb); have n6_ := Aside0.mk (Kd.V_below (iV HL253_0) hb); have n7_ := Aside0.mk (Kd.V_below (iV HL254_0) hb); have n8_ := Aside0.mk (Kd.N_below (iN HO257) hb); have n9_ := jR HO260 hb; have n10_ := Aside0.mk (Kd.V_below (iV HO265) hb); have n11_ := Aside0.mk (Kd.V_below (iV HO273) hb); have n12_ := Aside0.mk (Kd.N_below (iN HO268) hb); have n13_ := Aside0.mk (Kd.N_below (iN HO276) hb); have n14_ := Aside0.mk (Kd.N_below (iN HO279) hb); have n15_ := Aside0.mk (Kd.C_below (cR HR253_0) hb); have n16_ := Aside0.mk (Kd.C_below (cR HR254_0) hb); have n17_ := jL HB hb; clear HO_5; clear HO_6; clear HO_7; clear HO_8; clear HO_9; clear HO_10; clear HL253_0; clear HL254_0; clear HO257; clear HO260; clear HO265; clear HO273; clear HO268; clear HO276; clear HO279; clear HR253_0; clear HR254_0; clear HB; have HO_5 := n0_; have HO_6 := n1_; have HO_7 := n2_; have HO_8 := n3_; have HO_9 := n4_; have HO_10 := n5_; have HL253_0 := n6_; have HL254_0 := n7_; have HO257 := n8_; have HO260 := n9_; have HO265 := n10_; have HO273 := n11_; have HO268 := n12_; have HO276 := n13_; have HO279 := n14_; have HR253_0 := n15_; have HR254_0 := n16_; have HB := n17_; clear n0_ n1_ n2_ n3_ n4_ n5_ n6_ n7_ n8_ n9_ n10_ n11_ n12_ n13_ n14_ n15_ n16_ n17_; (try clear hb)) | ((with_reducible refine gate_callee (f := 32) rfl ?_); refine gL_ (some 111) Tryd.func32 #[.slice Ao53 t229.length co53] ?_; (with_reducible refine (sound_Format.calls kj49 _ _ t229 t285 t286 _ ?side1 ?side2 A73.out).mono ?_); (case side1 => repeat (first | exact (Kd.R_reads' HO_7.out).2.2 | (with_reducible refine Kd.C_alloc ?_ _) | (with_reducible refine Kd.C_drewN ?_ _) | (with_reducible refine Kd.C_drew ?_))); (case side2 => exact (Kd.R_reads' HO_7.out).2.1); rintro e w204 ⟨rfl, hb⟩; refine ⟨_, rfl, ?_⟩; have n0_ := jR HO_5 hb; have n1_ := jR HO_6 hb; have n2_ := jR HO_7 hb; have n3_ := Aside0.mk (Kd.N_below (iN HO_8) hb); have n4_ := Aside0.mk (Kd.N_below (iN HO_9) hb); have n5_ := Aside0.mk (Kd.N_below (iN HO_10) hb); have n6_ := Aside0.mk (Kd.V_below (iV HL253_0) hb); have n7_ := Aside0.mk (Kd.V_below (iV HL254_0) hb); have n8_ := Aside0.mk (Kd.N_below (iN HO257) hb); have n9_ := jR HO260 hb; have n10_ := Aside0.mk (Kd.V_below (iV HO265) hb); have n11_ := Aside0.mk (Kd.V_below (iV HO273) hb); have n12_ := Aside0.mk (Kd.N_below (iN HO268) hb); have n13_ := Aside0.mk (Kd.N_below (iN HO276) hb); have n14_ := Aside0.mk (Kd.N_below (iN HO279) hb); have n15_ := Aside0.mk (Kd.C_below (cR HR253_0) hb); have n16_ := Aside0.mk (Kd.C_below (cR HR254_0) hb); have n17_ := jL HB hb; clear HO_5; clear HO_6; clear HO_7; clear HO_8; clear HO_9; clear HO_10; clear HL253_0; clear HL254_0; clear HO257; clear HO260; clear HO265; clear HO273; clear HO268; clear HO276; clear HO279; clear HR253_0; clear HR254_0; clear HB; have HO_5 := n0_; have HO_6 := n1_; have HO_7 := n2_; have HO_8 := n3_; have HO_9 := n4_; have HO_10 := n5_; have HL253_0 := n6_; have HL254_0 := n7_; have HO257 := n8_; have HO260 := n9_; have HO265 := n10_; have HO273 := n11_; have HO268 := n12_; have HO276 := n13_; have HO279 := n14_; have HR253_0 := n15_; have HR254_0 := n16_; have HB := n17_; clear n0_ n1_ n2_ n3_ n4_ n5_ n6_ n7_ n8_ n9_ n10_ n11_ n12_ n13_ n14_ n15_ n16_ n17_; (try clear hb)))
                      go_ret
                      exact ⟨by first | rfl | (simp [errW_none, errW_some] <;> rfl) | (simp only [← hji60]; first | rfl | (simp [errW_none, errW_some] <;> rfl)) | (simp [*, errW_none, errW_some] <;> rfl), iL HB⟩
                     ·rw [if_neg c180] at H; cases H
                    ·rw [if_neg c179] at H; cases H
                   ·rw [if_neg c178] at H; cases H
                  ·rw [if_neg c177] at H; cases H
                ·rw [if_neg c74] at H
                 have c74b0 : decide (0 < (t220.length : Int)) = false := decide_eq_false c74
                 have c74b1 : decide (0 < t220.length) = false := decide_eq_false (by omega)
                 clear c74
                 by_cases c277 : t282 = 0
                 ·rw [if_pos c277] at H
                  have c277b0 : (t282 == 0) = true := beq_iff_eq.mpr c277
                  have c277b1 : (t282 != 0) = false := bne_eq_false_iff_eq.mpr c277
                  clear c277
                  by_cases c278 : t284 = 0
                  ·rw [if_pos c278] at H
                   have c278b0 : (t284 == 0) = true := beq_iff_eq.mpr c278
                   have c278b1 : (t284 != 0) = false := bne_eq_false_iff_eq.mpr c278
                   clear c278
                   by_cases c279 : t286 = 0
                   ·rw [if_pos c279] at H
                    have c279b0 : (t286 == 0) = true := beq_iff_eq.mpr c279
                    have c279b1 : (t286 != 0) = false := bne_eq_false_iff_eq.mpr c279
                    clear c279
                    by_cases c280 : t281.size + t283.size ≤ 9223372036854775807
                    ·rw [if_pos c280] at H
                     have c280b0 := eq_true c280
                     have c280b1 : decide (t281.size + t283.size ≤ 9223372036854775807) = true := decide_eq_true c280
                     try have c280b2 : (9223372036854775807 < t281.size + t283.size) = False := eq_false (Nat.not_lt.2 c280)
                     obtain rfl := Option.some.inj H
                     obtain ⟨Ao281, co281, eo281⟩ := Kd.N_slice HO_8.out
                     subst eo281
                     try go_wp2
                     have n0_ := Aside0.mk (Kd.R_drew HO_5.out)
                     have n1_ := Aside0.mk (Kd.R_drew HO_6.out)
                     have n2_ := Aside0.mk (Kd.R_drew HO_7.out)
                     have n3_ := Aside0.mk (Kd.N_drew HO_8.out)
                     have n4_ := Aside0.mk (Kd.N_drew HO_9.out)
                     have n5_ := Aside0.mk (Kd.N_drew HO_10.out)
                     have n6_ := Aside0.mk (below_drew1 HB.out)
                     clear HO_5
                     clear HO_6
                     clear HO_7
                     clear HO_8
                     clear HO_9
                     clear HO_10
                     clear HB
                     have HO_5 := n0_
                     have HO_6 := n1_
                     have HO_7 := n2_
                     have HO_8 := n3_
                     have HO_9 := n4_
                     have HO_10 := n5_
                     have HB := n6_
                     clear n0_ n1_ n2_ n3_ n4_ n5_ n6_
                     have p253 := oD (0 ≤ ((ji60) : Int))
                     have q253 := oD ((ji60) < (t244.length : Int))
                     obtain ⟨ad253, A253_0, c253_0, e253, hx253_0, hl253_0, hi253_0⟩ := at_L3 (Kd.N_reads' HO_8.out).2.2 (ji60) p253 q253
                     cases e253
                     obtain ⟨ce253, hce253, hMe253, hcc253⟩ := Kd.N_get HO_8.out [] (ji60) p253 (by first | exact q253 | exact of_decide_eq_true (by first | (with_reducible assumption) | assumption) | (have e_ := (Kd.N_reads' HO_8.out).1; omega))
                     obtain ⟨ua253_0, uc253_0, rfl, ul253_0, ge253_0⟩ := Kd.FK_slice_open hMe253
                     have hv253_0 := hcc253 0 _ rfl
                     rw [Nat.add_zero, show ((Kd.slice 23 k23)).sz = 1 from rfl, Nat.mul_one] at hv253_0
                     replace hv253_0 := Option.some.inj (hv253_0.symm.trans hx253_0)
                     injection hv253_0 with hva_ hvn_ hvc_
                     rw [hva_] at ge253_0
                     rw [hvc_] at ul253_0
                     have HL253_0 := Aside0.mk (show Kd.V k23 23 _ w.heap.size _ _ (rd_L3 t244 (ji60)) from Kd.V_mk ul253_0 ge253_0)
                     clear hva_ hvn_ hvc_ ge253_0 ul253_0
                     clear hcc253 hce253
                     have HR253_0 := Aside0.mk hi253_0
                     have HC253_0 := Aside0.mk hl253_0
                     clear hi253_0 hl253_0
                     replace p253 := eq_true p253
                     replace q253 := eq_true q253
                     obtain ⟨Ao283, co283, eo283⟩ := Kd.N_slice HO_9.out
                     (first | subst eo283 | (injection eo283 with f1_ f2_ f3_; have f4_ := f1_.symm; have f5_ := f3_.symm; clear f1_ f2_ f3_; subst f4_; subst f5_))
                     have p254 : 0 ≤ (0 : Int) := (by omega)
                     have q254 := oD (0 < (t247.length : Int))
                     obtain ⟨ad254, A254_0, c254_0, e254, hx254_0, hl254_0, hi254_0⟩ := at_L3 (Kd.N_reads' HO_9.out).2.2 0 p254 q254
                     cases e254
                     obtain ⟨ce254, hce254, hMe254, hcc254⟩ := Kd.N_get HO_9.out [] 0 p254 (by first | exact q254 | exact of_decide_eq_true (by first | (with_reducible assumption) | assumption) | (have e_ := (Kd.N_reads' HO_9.out).1; omega))
                     obtain ⟨ua254_0, uc254_0, rfl, ul254_0, ge254_0⟩ := Kd.FK_slice_open hMe254
                     have hv254_0 := hcc254 0 _ rfl
                     rw [Nat.add_zero, show ((Kd.slice 23 k23)).sz = 1 from rfl, Nat.mul_one] at hv254_0
                     replace hv254_0 := Option.some.inj (hv254_0.symm.trans hx254_0)
                     injection hv254_0 with hva_ hvn_ hvc_
                     rw [hva_] at ge254_0
                     rw [hvc_] at ul254_0
                     have HL254_0 := Aside0.mk (show Kd.V k23 23 _ w.heap.size _ _ (rd_L3 t247 0) from Kd.V_mk ul254_0 ge254_0)
                     clear hva_ hvn_ hvc_ ge254_0 ul254_0
                     clear hcc254 hce254
                     have qi254 : (0 < t247.length) = True := eq_true (by omega)
                     (try rw [show ((0 : Int)).toNat = 0 from rfl] at hx254_0)
                     (try rw [Addr.add_zero'] at hx254_0)
                     have HR254_0 := Aside0.mk hi254_0
                     have HC254_0 := Aside0.mk hl254_0
                     clear hi254_0 hl254_0
                     replace p254 := eq_true p254
                     replace q254 := eq_true q254
                     refine start_ (n := 10) (S := fun w' => w'.cell? (ad253.add ((ji60)).toNat) = some (.slice A253_0 (rd_L3 t244 (ji60)).length c253_0) ∧ w'.cell? ad254 = some (.slice A254_0 (rd_L3 t247 0).length c254_0)) (ds := []) #[false, false, false, false, false, false, false, false, false, false] (by kernel_rfl) rfl rfl ⟨hx253_0, hx254_0⟩ (fun hHeld => ?_); refine with_tabW ancepslaw11_SoundJoined.tab11 ancepslaw11_SoundJoined.bits11 (fun HT_ HW_ => ?_)
                     generalize wc.drew = w282 at HO_5 HO_6 HO_7 HO_8 HO_9 HO_10 HB HL253_0 HL254_0 HR253_0 HR254_0 hx253_0 hx254_0 hHeld ⊢
                     refine pv_ 0 (some 78) HT_ ?_
                     refine pv_ 1 (some 79) HT_ ?_
                     refine pv_ 2 (some 80) HT_ ?_
                     refine pv_ 4 (some 82) HT_ ?_
                     refine pv_ 5 (some 83) HT_ ?_
                     refine tw_ 3 (some 81) HT_ HW_ hHeld ?_
                     refine tw_ 6 (some 84) HT_ HW_ hHeld ?_
                     refine one_ (i := 7) (N := some 85) #[true, true, true, true, true, true, true, true, false, false] rfl rfl (one_of HT_.out (by kernel_rfl)) (by decide) (fun K hK => ?_)
                     refine Kd.N_lit_step (Kd.slice 23 k23) _ 26 ?hg (N' := 85) ?hd (xs := ([rd_L3 t244 (ji60), rd_L3 t247 0] : List (List (S23)))) (inner := [.slice A253_0 (rd_L3 t244 (ji60)).length c253_0, .slice A254_0 (rd_L3 t247 0).length c254_0]) (ok := (fun k_ => some k_ ≠ (.slice Ao19 t220.length co19 : Value).ownBlock ∧ some k_ ≠ (.slice Ao20 t223.length co20 : Value).ownBlock ∧ some k_ ≠ (.slice Ao53 t229.length co53 : Value).ownBlock ∧ some k_ ≠ (.slice (some ad253) t244.length co281 : Value).ownBlock ∧ some k_ ≠ (.slice (some ad254) t247.length co283 : Value).ownBlock ∧ some k_ ≠ (v251 : Value).ownBlock)) (okp := (fun k_ => some k_ ≠ (.slice Ao19 t220.length co19 : Value).ownBlock ∧ some k_ ≠ (.slice Ao20 t223.length co20 : Value).ownBlock ∧ some k_ ≠ (.slice Ao53 t229.length co53 : Value).ownBlock ∧ some k_ ≠ (.slice (some ad253) t244.length co281 : Value).ownBlock ∧ some k_ ≠ (.slice (some ad254) t247.length co283 : Value).ownBlock ∧ some k_ ≠ (v251 : Value).ownBlock)) ?hr ?hp (fun _ hk => hk) ((show ∀ k_, w282.heap.size ≤ k_ → (fun k_ => some k_ ≠ (.slice Ao19 t220.length co19 : Value).ownBlock ∧ some k_ ≠ (.slice Ao20 t223.length co20 : Value).ownBlock ∧ some k_ ≠ (.slice Ao53 t229.length co53 : Value).ownBlock ∧ some k_ ≠ (.slice (some ad253) t244.length co281 : Value).ownBlock ∧ some k_ ≠ (.slice (some ad254) t247.length co283 : Value).ownBlock ∧ some k_ ≠ (v251 : Value).ownBlock) k_ from fun k_ hk => ⟨Kd.fresh' (Kd.R_lt (iR HO_5)) k_ hk, Kd.fresh' (Kd.R_lt (iR HO_6)) k_ hk, Kd.fresh' (Kd.R_lt (iR HO_7)) k_ hk, Kd.fresh' (Kd.N_lt (iN HO_8)) k_ hk, Kd.fresh' (Kd.N_lt (iN HO_9)) k_ hk, Kd.fresh' (Kd.N_lt (iN HO_10)) k_ hk⟩) _ (Nat.le_refl _)) (Below.refl _ _) (Nat.le_refl _) (by simp) ?_; (case hd | hg => rfl); (case hr => first | (go_simp; done) | (go_simp; rfl)); (case hp => exact (Reps.one (show Kd.FK (Kd.slice 23 k23) _ _ (rd_L3 t244 (ji60)) [.slice A253_0 (rd_L3 t244 (ji60)).length c253_0] from (Kd.FK_slice_mk (Kd.V_reads' (Kd.V_mono (ok' := (fun k_ => some k_ ≠ (.slice Ao19 t220.length co19 : Value).ownBlock ∧ some k_ ≠ (.slice Ao20 t223.length co20 : Value).ownBlock ∧ some k_ ≠ (.slice Ao53 t229.length co53 : Value).ownBlock ∧ some k_ ≠ (.slice (some ad253) t244.length co281 : Value).ownBlock ∧ some k_ ≠ (.slice (some ad254) t247.length co283 : Value).ownBlock ∧ some k_ ≠ (v251 : Value).ownBlock)) (HL253_0.out) (fun k_ hk => ⟨hk.1.1, ⟨hk.1.2.1, ⟨hk.1.2.2.1, ⟨hk.2, ⟨hk.1.2.2.2.1, hk.1.2.2.2.2⟩⟩⟩⟩⟩))).2.1 (Kd.V_F (Kd.V_mono (ok' := (fun k_ => some k_ ≠ (.slice Ao19 t220.length co19 : Value).ownBlock ∧ some k_ ≠ (.slice Ao20 t223.length co20 : Value).ownBlock ∧ some k_ ≠ (.slice Ao53 t229.length co53 : Value).ownBlock ∧ some k_ ≠ (.slice (some ad253) t244.length co281 : Value).ownBlock ∧ some k_ ≠ (.slice (some ad254) t247.length co283 : Value).ownBlock ∧ some k_ ≠ (v251 : Value).ownBlock)) (HL253_0.out) (fun k_ hk => ⟨hk.1.1, ⟨hk.1.2.1, ⟨hk.1.2.2.1, ⟨hk.2, ⟨hk.1.2.2.2.1, hk.1.2.2.2.2⟩⟩⟩⟩⟩))))) (Reps.one (show Kd.FK (Kd.slice 23 k23) _ _ (rd_L3 t247 0) [.slice A254_0 (rd_L3 t247 0).length c254_0] from (Kd.FK_slice_mk (Kd.V_reads' (Kd.V_mono (ok' := (fun k_ => some k_ ≠ (.slice Ao19 t220.length co19 : Value).ownBlock ∧ some k_ ≠ (.slice Ao20 t223.length co20 : Value).ownBlock ∧ some k_ ≠ (.slice Ao53 t229.length co53 : Value).ownBlock ∧ some k_ ≠ (.slice (some ad253) t244.length co281 : Value).ownBlock ∧ some k_ ≠ (.slice (some ad254) t247.length co283 : Value).ownBlock ∧ some k_ ≠ (v251 : Value).ownBlock)) (HL254_0.out) (fun k_ hk => ⟨hk.1.1, ⟨hk.1.2.1, ⟨hk.1.2.2.1, ⟨hk.1.2.2.2.1, ⟨hk.2, hk.1.2.2.2.2⟩⟩⟩⟩⟩))).2.1 (Kd.V_F (Kd.V_mono (ok' := (fun k_ => some k_ ≠ (.slice Ao19 t220.length co19 : Value).ownBlock ∧ some k_ ≠ (.slice Ao20 t223.length co20 : Value).ownBlock ∧ some k_ ≠ (.slice Ao53 t229.length co53 : Value).ownBlock ∧ some k_ ≠ (.slice (some ad253) t244.length co281 : Value).ownBlock ∧ some k_ ≠ (.slice (some ad254) t247.length co283 : Value).ownBlock ∧ some k_ ≠ (v251 : Value).ownBlock)) (HL254_0.out) (fun k_ hk => ⟨hk.1.1, ⟨hk.1.2.1, ⟨hk.1.2.2.1, ⟨hk.1.2.2.2.1, ⟨hk.2, hk.1.2.2.2.2⟩⟩⟩⟩⟩))))) (Reps.none _ _))))
                     intro v256 w284 ho285 hb hg_ hnew_
                     have HS0_ := (hb.cell (World.block_lt_of_cell? _ _ (hHeld.1))).trans (hHeld.1)
                     have HS1_ := (hb.cell (World.block_lt_of_cell? _ _ (hHeld.2))).trans (hHeld.2)
                     clear hg_ hnew_
                     (first | rw [← Ny255.out] at ho285 | (simp only [Int.reduceToNat] at ho285; rw [← Ny255.out] at ho285))
                     have n0_ := jR HO_5 hb
                     have n1_ := jR HO_6 hb
                     have n2_ := jR HO_7 hb
                     have n3_ := Aside0.mk (Kd.N_elder' (iN HO_8) (Kd.N_base ho285) hb)
                     have n4_ := Aside0.mk (Kd.N_elder' (iN HO_9) (Kd.N_base ho285) hb)
                     have n5_ := Aside0.mk (Kd.N_elder' (iN HO_10) (Kd.N_base ho285) hb)
                     have n6_ := Aside0.mk (Kd.V_elder' (iV HL253_0) (Kd.N_base ho285) hb)
                     have n7_ := Aside0.mk (Kd.V_elder' (iV HL254_0) (Kd.N_base ho285) hb)
                     have n8_ := Aside0.mk (Kd.N_lower ho285 (below_size (iL HB)))
                     have n9_ := Aside0.mk (Kd.C_below (cR HR253_0) hb)
                     have n10_ := Aside0.mk (Kd.C_below (cR HR254_0) hb)
                     have n11_ := jL HB hb
                     clear HO_5
                     clear HO_6
                     clear HO_7
                     clear HO_8
                     clear HO_9
                     clear HO_10
                     clear HL253_0
                     clear HL254_0
                     clear HR253_0
                     clear HR254_0
                     clear HB
                     have HO_5 := n0_
                     have HO_6 := n1_
                     have HO_7 := n2_
                     have HO_8 := n3_
                     have HO_9 := n4_
                     have HO_10 := n5_
                     have HL253_0 := n6_
                     have HL254_0 := n7_
                     have HO257 := n8_
                     have HR253_0 := n9_
                     have HR254_0 := n10_
                     have HB := n11_
                     clear n0_ n1_ n2_ n3_ n4_ n5_ n6_ n7_ n8_ n9_ n10_ n11_
                     clear hb ho285
                     obtain ⟨Ao286, co286, eo286⟩ := Kd.N_slice HO257.out
                     (first | subst eo286 | (injection eo286 with f1_ f2_ f3_; have f4_ := f1_.symm; have f5_ := f3_.symm; clear f1_ f2_ f3_; subst f4_; subst f5_))
                     refine hK.out _ _ ⟨HS0_, HS1_⟩ (fun hHeld => ?_)
                     clear hK K
                     refine norm_ (a' := ?_) ?_ ?_
                     rotate_left
                     ·show Act.put _ (some 85) _ = _
                      simp only [Act.put, List.setIfInBounds_toArray, List.set_cons_zero, List.set_cons_succ, i64_w, i32_w]
                      rfl
                     refine one_ (i := 8) (N := some 86) #[true, true, true, true, true, true, true, true, true, false] rfl rfl (one_of HT_.out (by kernel_rfl)) (by decide) (fun K hK => ?_)
                     refine goes_ Tryd.func34 (by kernel_rfl) rfl #[.slice Ao286 y255.length co286] (by rfl) rfl rfl (by (try simp only [List.map_toArray, List.map_cons, List.map_nil]); first | done | rfl | (simp only [List.length_drop, List.length_take]; rfl)) ?_
                     with_reducible refine (api_Sound_34.calls _ _ y255 t258 _ ?side1 ?side2 A64.out).mono ?_
                     (case side1 => repeat (first | exact (Kd.N_reads' HO257.out).2.2 | (with_reducible refine Kd.C_alloc ?_ _) | (with_reducible refine Kd.C_drewN ?_ _) | (with_reducible refine Kd.C_drew ?_)))
                     (case side2 => exact (Kd.N_reads' HO257.out).2.1)
                     rintro e w287 ⟨v259, rfl, ho0, hb⟩
                     have HS0_ := (hb.cell (World.block_lt_of_cell? _ _ (hHeld.1))).trans (hHeld.1)
                     have HS1_ := (hb.cell (World.block_lt_of_cell? _ _ (hHeld.2))).trans (hHeld.2)
                     refine ⟨_, rfl, ?_⟩
                     have n0_ := Aside0.mk (Kd.R_elder' (iR HO_5) (Kd.R_base ho0) hb)
                     have n1_ := Aside0.mk (Kd.R_elder' (iR HO_6) (Kd.R_base ho0) hb)
                     have n2_ := Aside0.mk (Kd.R_elder' (iR HO_7) (Kd.R_base ho0) hb)
                     have n3_ := Aside0.mk (Kd.N_elder' (iN HO_8) (Kd.R_base ho0) hb)
                     have n4_ := Aside0.mk (Kd.N_elder' (iN HO_9) (Kd.R_base ho0) hb)
                     have n5_ := Aside0.mk (Kd.N_elder' (iN HO_10) (Kd.R_base ho0) hb)
                     have n6_ := Aside0.mk (Kd.V_elder' (iV HL253_0) (Kd.R_base ho0) hb)
                     have n7_ := Aside0.mk (Kd.V_elder' (iV HL254_0) (Kd.R_base ho0) hb)
                     have n8_ := Aside0.mk (Kd.N_elder' (iN HO257) (Kd.R_base ho0) hb)
                     have n9_ := Aside0.mk (Kd.R_lower (Kd.R_new' (Kd.R_new' (Kd.R_new' ho0 (Kd.R_lt (iR HO_5))) (Kd.R_lt (iR HO_6))) (Kd.R_lt (iR HO_7))) (below_size (iL HB)))
                     have n10_ := Aside0.mk (Kd.C_below (cR HR253_0) hb)
                     have n11_ := Aside0.mk (Kd.C_below (cR HR254_0) hb)
                     have n12_ := jL HB hb
                     clear HO_5
                     clear HO_6
                     clear HO_7
                     clear HO_8
                     clear HO_9
                     clear HO_10
                     clear HL253_0
                     clear HL254_0
                     clear HO257
                     clear HR253_0
                     clear HR254_0
                     clear HB
                     have HO_5 := n0_
                     have HO_6 := n1_
                     have HO_7 := n2_
                     have HO_8 := n3_
                     have HO_9 := n4_
                     have HO_10 := n5_
                     have HL253_0 := n6_
                     have HL254_0 := n7_
                     have HO257 := n8_
                     have HO260 := n9_
                     have HR253_0 := n10_
                     have HR254_0 := n11_
                     have HB := n12_
                     clear n0_ n1_ n2_ n3_ n4_ n5_ n6_ n7_ n8_ n9_ n10_ n11_ n12_
                     (try clear hb)
                     (try clear hb2)
                     (try clear hk)
                     (try clear hi)
                     (try clear ho0)
                     refine hK.out _ _ ⟨HS0_, HS1_⟩ (fun hHeld => ?_)
                     clear hK K
                     refine norm_ (a' := ?_) ?_ ?_
                     rotate_left
                     ·show Act.put _ (some 86) _ = _
                      simp only [Act.put, List.setIfInBounds_toArray, List.set_cons_zero, List.set_cons_succ, i64_w, i32_w]
                      rfl
                     refine pv_ 9 (some 12) HT_ ?_
                     refine done_ (done_of HT_.out (by kernel_rfl)) ?_
                     try go_wp2
                     have n0_ := Aside0.mk (Kd.R_drew HO_5.out)
                     have n1_ := Aside0.mk (Kd.R_drew HO_6.out)
                     have n2_ := Aside0.mk (Kd.R_drew HO_7.out)
                     have n3_ := Aside0.mk (Kd.N_drew HO_8.out)
                     have n4_ := Aside0.mk (Kd.N_drew HO_9.out)
                     have n5_ := Aside0.mk (Kd.N_drew HO_10.out)
                     have n6_ := Aside0.mk (Kd.V_drew HL253_0.out)
                     have n7_ := Aside0.mk (Kd.V_drew HL254_0.out)
                     have n8_ := Aside0.mk (Kd.N_drew HO257.out)
                     have n9_ := Aside0.mk (Kd.R_drew HO260.out)
                     have n10_ := Aside0.mk (Kd.C_drew HR253_0.out)
                     have n11_ := Aside0.mk (Kd.C_drew HR254_0.out)
                     have n12_ := Aside0.mk (below_drew1 HB.out)
                     clear HO_5
                     clear HO_6
                     clear HO_7
                     clear HO_8
                     clear HO_9
                     clear HO_10
                     clear HL253_0
                     clear HL254_0
                     clear HO257
                     clear HO260
                     clear HR253_0
                     clear HR254_0
                     clear HB
                     have HO_5 := n0_
                     have HO_6 := n1_
                     have HO_7 := n2_
                     have HO_8 := n3_
                     have HO_9 := n4_
                     have HO_10 := n5_
                     have HL253_0 := n6_
                     have HL254_0 := n7_
                     have HO257 := n8_
                     have HO260 := n9_
                     have HR253_0 := n10_
                     have HR254_0 := n11_
                     have HB := n12_
                     clear n0_ n1_ n2_ n3_ n4_ n5_ n6_ n7_ n8_ n9_ n10_ n11_ n12_
                     have q289 := oD (((ji60) : Int) ≤ ((t244.length : Int) : Int))
                     obtain ⟨i0289, hi0289, _, hsz289, _⟩ := info_parts info26
                     have hroom289 : t244.length ≤ co281 := (Kd.N_reads' HO_8.out).2.1
                     have hC289 : Kd.F (Kd.slice 23 k23) _ _ (some ad253) t244.length t244 := (Kd.V_at (base := w.heap.size) (Kd.N_V HO_8.out)).2.2
                     have hcut289 := cut_to (P := Tryd.prog) 34 26 .i64 Tryd.underlying34 hi0289 (some ad253) t244.length co281 (ji60) (of_decide_eq_true (by first | (with_reducible assumption) | assumption)) q289 hroom289
                     have hr289 := Kd.F_take (m := ((ji60) : Int).toNat) hC289 (by omega)
                     have hy289 : y261.length = ((ji60) : Int).toNat := (by rw [Ny261.out, List.length_take]; omega)
                     rw [← Ny261.out] at hr289
                     rw [← hy289] at hcut289
                     have HO265 := Aside0.mk (show Kd.V (Kd.slice 23 k23) 26 _ w.heap.size _ (.slice (some ad253) y261.length co281) y261 from Kd.V_mk (by omega) hr289)
                     have HC265 := Aside0.mk (show y261.length ≤ co281 from by omega)
                     clear hr289 hC289 hroom289 hi0289 hsz289
                     have KY289 := Aside0.mk hy289
                     clear hy289
                     replace q289 := eq_true q289
                     have q290 := oD ((1 : Int) ≤ ((t247.length : Int) : Int))
                     obtain ⟨i0290, hi0290, _, hsz290, _⟩ := info_parts info26
                     have hroom290 : t247.length ≤ co283 := (Kd.N_reads' HO_9.out).2.1
                     have hC290 : Kd.F (Kd.slice 23 k23) _ _ (some ad254) t247.length t247 := (Kd.V_at (base := w.heap.size) (Kd.N_V HO_9.out)).2.2
                     have hcut290 := cut_from (P := Tryd.prog) 34 26 .i64 Tryd.underlying34 hi0290 1 hsz290 (some ad254) t247.length co283 1 (by omega) q290
                     have hr290 := Kd.F_cut (m := (1 : Int).toNat) (c := co283) hC290 (by omega) hroom290
                     obtain ⟨A290, hA290⟩ : ∃ A1, A1 = (if co283 = (1 : Int).toNat then (some ad254) else ((some ad254) : Option Addr).map (·.add ((1 : Int).toNat * 1))) := ⟨_, rfl⟩
                     obtain ⟨c290, hc290⟩ : ∃ c1, c1 = co283 - (1 : Int).toNat := ⟨_, rfl⟩
                     have hy290 : y269.length = t247.length - (1 : Int).toNat := (by rw [Ny269.out, List.length_drop] <;> omega)
                     rw [show (t247).drop (1 : Int).toNat = y269 from Ny269.out.symm] at hr290
                     replace hr290 : Kd.F (Kd.slice 23 k23) _ _ A290 y269.length y269 := (by rw [hA290]; exact hr290)
                     rw [← hy290, ← hA290, ← hc290] at hcut290
                     have HO273 := Aside0.mk (show Kd.V (Kd.slice 23 k23) 26 _ w.heap.size _ (.slice A290 y269.length c290) y269 from Kd.V_mk (by rw [hy290, hc290]; exact Nat.sub_le_sub_right hroom290 _) hr290)
                     have HC273 := Aside0.mk (show y269.length ≤ c290 from by rw [hy290, hc290]; exact Nat.sub_le_sub_right hroom290 _)
                     clear hr290 hC290 hroom290 hi0290 hsz290 hc290
                     have KY290 := Aside0.mk hy290
                     have KA290 := Aside0.mk hA290
                     clear hy290 hA290
                     replace q290 := eq_true q290
                     obtain ⟨Ao291, co291, eo291⟩ := Kd.R_slice HO260.out
                     (first | subst eo291 | (injection eo291 with f1_ f2_ f3_; have f4_ := f1_.symm; have f5_ := f3_.symm; clear f1_ f2_ f3_; subst f4_; subst f5_))
                     refine start_ (n := 12) (S := fun w' => True) (ds := []) #[false, false, false, false, false, false, false, false, false, false, false, false] (by kernel_rfl) rfl rfl trivial (fun hHeld => ?_); refine with_tabW ancepslaw11_SoundJoined.tab12 ancepslaw11_SoundJoined.bits12 (fun HT_ HW_ => ?_)
                     generalize w287.drew = w288 at HO_5 HO_6 HO_7 HO_8 HO_9 HO_10 HL253_0 HL254_0 HO257 HO260 HR253_0 HR254_0 HB HO265 HO273 hHeld ⊢
                     refine pv_ 0 (some 87) HT_ ?_
                     refine pv_ 1 (some 88) HT_ ?_
                     refine pv_ 2 (some 89) HT_ ?_
                     refine pv_ 3 (some 90) HT_ ?_
                     refine pv_ 4 (some 91) HT_ ?_
                     refine pv_ 6 (some 93) HT_ ?_
                     refine pv_ 7 (some 94) HT_ ?_
                     refine one_ (i := 5) (N := some 92) #[true, true, true, true, true, true, true, true, false, false, false, false] rfl rfl (one_of HT_.out (by kernel_rfl)) (by decide) (fun K hK => ?_)
                     refine Kd.N_lit_step (Kd.slice 23 k23) _ 26 ?hg (N' := 92) ?hd (xs := ([t258] : List (List (S23)))) (inner := [.slice Ao291 t258.length co291]) (ok := (fun k_ => some k_ ≠ (.slice Ao19 t220.length co19 : Value).ownBlock ∧ some k_ ≠ (.slice Ao20 t223.length co20 : Value).ownBlock ∧ some k_ ≠ (.slice Ao53 t229.length co53 : Value).ownBlock ∧ some k_ ≠ (.slice (some ad253) t244.length co281 : Value).ownBlock ∧ some k_ ≠ (.slice (some ad254) t247.length co283 : Value).ownBlock ∧ some k_ ≠ (v251 : Value).ownBlock ∧ some k_ ≠ (.slice Ao286 y255.length co286 : Value).ownBlock)) (okp := (fun k_ => some k_ ≠ (.slice Ao19 t220.length co19 : Value).ownBlock ∧ some k_ ≠ (.slice Ao20 t223.length co20 : Value).ownBlock ∧ some k_ ≠ (.slice Ao53 t229.length co53 : Value).ownBlock ∧ some k_ ≠ (.slice (some ad253) t244.length co281 : Value).ownBlock ∧ some k_ ≠ (.slice (some ad254) t247.length co283 : Value).ownBlock ∧ some k_ ≠ (v251 : Value).ownBlock ∧ some k_ ≠ (.slice Ao286 y255.length co286 : Value).ownBlock)) ?hr ?hp (fun _ hk => hk) ((show ∀ k_, w288.heap.size ≤ k_ → (fun k_ => some k_ ≠ (.slice Ao19 t220.length co19 : Value).ownBlock ∧ some k_ ≠ (.slice Ao20 t223.length co20 : Value).ownBlock ∧ some k_ ≠ (.slice Ao53 t229.length co53 : Value).ownBlock ∧ some k_ ≠ (.slice (some ad253) t244.length co281 : Value).ownBlock ∧ some k_ ≠ (.slice (some ad254) t247.length co283 : Value).ownBlock ∧ some k_ ≠ (v251 : Value).ownBlock ∧ some k_ ≠ (.slice Ao286 y255.length co286 : Value).ownBlock) k_ from fun k_ hk => ⟨Kd.fresh' (Kd.R_lt (iR HO_5)) k_ hk, Kd.fresh' (Kd.R_lt (iR HO_6)) k_ hk, Kd.fresh' (Kd.R_lt (iR HO_7)) k_ hk, Kd.fresh' (Kd.N_lt (iN HO_8)) k_ hk, Kd.fresh' (Kd.N_lt (iN HO_9)) k_ hk, Kd.fresh' (Kd.N_lt (iN HO_10)) k_ hk, Kd.fresh' (Kd.N_lt (iN HO257)) k_ hk⟩) _ (Nat.le_refl _)) (Below.refl _ _) (Nat.le_refl _) (by simp) ?_; (case hd | hg => rfl); (case hr => first | (go_simp; done) | (go_simp; rfl)); (case hp => exact (Reps.one (show Kd.FK (Kd.slice 23 k23) _ _ t258 [.slice Ao291 t258.length co291] from (Kd.FK_slice_mk (Kd.R_reads' (Kd.R_mono (ok' := (fun k_ => some k_ ≠ (.slice Ao19 t220.length co19 : Value).ownBlock ∧ some k_ ≠ (.slice Ao20 t223.length co20 : Value).ownBlock ∧ some k_ ≠ (.slice Ao53 t229.length co53 : Value).ownBlock ∧ some k_ ≠ (.slice (some ad253) t244.length co281 : Value).ownBlock ∧ some k_ ≠ (.slice (some ad254) t247.length co283 : Value).ownBlock ∧ some k_ ≠ (v251 : Value).ownBlock ∧ some k_ ≠ (.slice Ao286 y255.length co286 : Value).ownBlock)) (Kd.R_apart' (Kd.R_apart' (Kd.R_apart' (Kd.R_apart' (HO260.out) (Kd.N_typed HO_8.out) (by decide)) (Kd.N_typed HO_9.out) (by decide)) (Kd.N_typed HO_10.out) (by decide)) (Kd.N_typed HO257.out) (by decide)) (fun k_ hk => ⟨hk.1.1.1.1.1.1.2, ⟨hk.1.1.1.1.1.2, ⟨hk.1.1.1.1.2, ⟨hk.1.1.1.2, ⟨hk.1.1.2, ⟨hk.1.2, hk.2⟩⟩⟩⟩⟩⟩))).2.1 (Kd.R_F (Kd.R_mono (ok' := (fun k_ => some k_ ≠ (.slice Ao19 t220.length co19 : Value).ownBlock ∧ some k_ ≠ (.slice Ao20 t223.length co20 : Value).ownBlock ∧ some k_ ≠ (.slice Ao53 t229.length co53 : Value).ownBlock ∧ some k_ ≠ (.slice (some ad253) t244.length co281 : Value).ownBlock ∧ some k_ ≠ (.slice (some ad254) t247.length co283 : Value).ownBlock ∧ some k_ ≠ (v251 : Value).ownBlock ∧ some k_ ≠ (.slice Ao286 y255.length co286 : Value).ownBlock)) (Kd.R_apart' (Kd.R_apart' (Kd.R_apart' (Kd.R_apart' (HO260.out) (Kd.N_typed HO_8.out) (by decide)) (Kd.N_typed HO_9.out) (by decide)) (Kd.N_typed HO_10.out) (by decide)) (Kd.N_typed HO257.out) (by decide)) (fun k_ hk => ⟨hk.1.1.1.1.1.1.2, ⟨hk.1.1.1.1.1.2, ⟨hk.1.1.1.1.2, ⟨hk.1.1.1.2, ⟨hk.1.1.2, ⟨hk.1.2, hk.2⟩⟩⟩⟩⟩⟩))))) (Reps.none _ _)))
                     intro v267 w292 ho293 hb hg_ hnew_
                     clear hg_ hnew_
                     (first | rw [← Ny266.out] at ho293 | (simp only [Int.reduceToNat] at ho293; rw [← Ny266.out] at ho293))
                     have n0_ := jR HO_5 hb
                     have n1_ := jR HO_6 hb
                     have n2_ := jR HO_7 hb
                     have n3_ := Aside0.mk (Kd.N_elder' (iN HO_8) (Kd.N_base ho293) hb)
                     have n4_ := Aside0.mk (Kd.N_elder' (iN HO_9) (Kd.N_base ho293) hb)
                     have n5_ := Aside0.mk (Kd.N_elder' (iN HO_10) (Kd.N_base ho293) hb)
                     have n6_ := Aside0.mk (Kd.V_elder' (iV HL253_0) (Kd.N_base ho293) hb)
                     have n7_ := Aside0.mk (Kd.V_elder' (iV HL254_0) (Kd.N_base ho293) hb)
                     have n8_ := Aside0.mk (Kd.N_elder' (iN HO257) (Kd.N_base ho293) hb)
                     have n9_ := jR HO260 hb
                     have n10_ := Aside0.mk (Kd.V_elder' (iV HO265) (Kd.N_base ho293) hb)
                     have n11_ := Aside0.mk (Kd.V_elder' (iV HO273) (Kd.N_base ho293) hb)
                     have n12_ := Aside0.mk (Kd.N_lower ho293 (below_size (iL HB)))
                     have n13_ := Aside0.mk (Kd.C_below (cR HR253_0) hb)
                     have n14_ := Aside0.mk (Kd.C_below (cR HR254_0) hb)
                     have n15_ := jL HB hb
                     clear HO_5
                     clear HO_6
                     clear HO_7
                     clear HO_8
                     clear HO_9
                     clear HO_10
                     clear HL253_0
                     clear HL254_0
                     clear HO257
                     clear HO260
                     clear HO265
                     clear HO273
                     clear HR253_0
                     clear HR254_0
                     clear HB
                     have HO_5 := n0_
                     have HO_6 := n1_
                     have HO_7 := n2_
                     have HO_8 := n3_
                     have HO_9 := n4_
                     have HO_10 := n5_
                     have HL253_0 := n6_
                     have HL254_0 := n7_
                     have HO257 := n8_
                     have HO260 := n9_
                     have HO265 := n10_
                     have HO273 := n11_
                     have HO268 := n12_
                     have HR253_0 := n13_
                     have HR254_0 := n14_
                     have HB := n15_
                     clear n0_ n1_ n2_ n3_ n4_ n5_ n6_ n7_ n8_ n9_ n10_ n11_ n12_ n13_ n14_ n15_
                     clear hb ho293
                     obtain ⟨Ao294, co294, eo294⟩ := Kd.N_slice HO268.out
                     (first | subst eo294 | (injection eo294 with f1_ f2_ f3_; have f4_ := f1_.symm; have f5_ := f3_.symm; clear f1_ f2_ f3_; subst f4_; subst f5_))
                     refine hK.out _ _ trivial (fun hHeld => ?_)
                     clear hK K
                     refine norm_ (a' := ?_) ?_ ?_
                     rotate_left
                     ·show Act.put _ (some 92) _ = _
                      simp only [Act.put, List.setIfInBounds_toArray, List.set_cons_zero, List.set_cons_succ, i64_w, i32_w]
                      rfl
                     refine one_ (i := 8) (N := some 95) #[true, true, true, true, true, true, true, true, true, false, false, false] rfl rfl (one_of HT_.out (by kernel_rfl)) (by decide) (fun K hK => ?_)
                     refine Kd.N_lit_step (Kd.slice 26 (Kd.slice 23 k23)) _ 34 ?hg (N' := 95) ?hd (xs := ([y261, y266, y269] : List (List (List (S23))))) (inner := [.slice (some ad253) y261.length co281, .slice Ao294 y266.length co294, .slice A290 y269.length c290]) (ok := (fun k_ => some k_ ≠ (.slice Ao19 t220.length co19 : Value).ownBlock ∧ some k_ ≠ (.slice Ao20 t223.length co20 : Value).ownBlock ∧ some k_ ≠ (.slice Ao53 t229.length co53 : Value).ownBlock ∧ some k_ ≠ (v251 : Value).ownBlock ∧ some k_ ≠ (.slice Ao286 y255.length co286 : Value).ownBlock)) (okp := (fun k_ => some k_ ≠ (.slice Ao19 t220.length co19 : Value).ownBlock ∧ some k_ ≠ (.slice Ao20 t223.length co20 : Value).ownBlock ∧ some k_ ≠ (.slice Ao53 t229.length co53 : Value).ownBlock ∧ some k_ ≠ (v251 : Value).ownBlock ∧ some k_ ≠ (.slice Ao286 y255.length co286 : Value).ownBlock)) ?hr ?hp (fun _ hk => hk) ((show ∀ k_, w292.heap.size ≤ k_ → (fun k_ => some k_ ≠ (.slice Ao19 t220.length co19 : Value).ownBlock ∧ some k_ ≠ (.slice Ao20 t223.length co20 : Value).ownBlock ∧ some k_ ≠ (.slice Ao53 t229.length co53 : Value).ownBlock ∧ some k_ ≠ (v251 : Value).ownBlock ∧ some k_ ≠ (.slice Ao286 y255.length co286 : Value).ownBlock) k_ from fun k_ hk => ⟨Kd.fresh' (Kd.R_lt (iR HO_5)) k_ hk, Kd.fresh' (Kd.R_lt (iR HO_6)) k_ hk, Kd.fresh' (Kd.R_lt (iR HO_7)) k_ hk, Kd.fresh' (Kd.N_lt (iN HO_10)) k_ hk, Kd.fresh' (Kd.N_lt (iN HO257)) k_ hk⟩) _ (Nat.le_refl _)) (Below.refl _ _) (Nat.le_refl _) (by simp) ?_; (case hd | hg => rfl); (case hr => first | (go_simp; done) | (go_simp; rfl)); (case hp => exact (Reps.one (show Kd.FK (Kd.slice 26 (Kd.slice 23 k23)) _ _ y261 [.slice (some ad253) y261.length co281] from (Kd.FK_slice_mk (Kd.V_reads' (Kd.V_mono (ok' := (fun k_ => some k_ ≠ (.slice Ao19 t220.length co19 : Value).ownBlock ∧ some k_ ≠ (.slice Ao20 t223.length co20 : Value).ownBlock ∧ some k_ ≠ (.slice Ao53 t229.length co53 : Value).ownBlock ∧ some k_ ≠ (v251 : Value).ownBlock ∧ some k_ ≠ (.slice Ao286 y255.length co286 : Value).ownBlock)) (HO265.out) (fun k_ hk => ⟨hk.1.1.1.1, ⟨hk.1.1.1.2.1, ⟨hk.1.1.1.2.2.1, ⟨hk.1.1.1.2.2.2.2, hk.1.1.2⟩⟩⟩⟩))).2.1 (Kd.V_F (Kd.V_mono (ok' := (fun k_ => some k_ ≠ (.slice Ao19 t220.length co19 : Value).ownBlock ∧ some k_ ≠ (.slice Ao20 t223.length co20 : Value).ownBlock ∧ some k_ ≠ (.slice Ao53 t229.length co53 : Value).ownBlock ∧ some k_ ≠ (v251 : Value).ownBlock ∧ some k_ ≠ (.slice Ao286 y255.length co286 : Value).ownBlock)) (HO265.out) (fun k_ hk => ⟨hk.1.1.1.1, ⟨hk.1.1.1.2.1, ⟨hk.1.1.1.2.2.1, ⟨hk.1.1.1.2.2.2.2, hk.1.1.2⟩⟩⟩⟩))))) (Reps.one (show Kd.FK (Kd.slice 26 (Kd.slice 23 k23)) _ _ y266 [.slice Ao294 y266.length co294] from (Kd.FK_slice_mk (Kd.N_reads' (Kd.N_mono (ok' := (fun k_ => some k_ ≠ (.slice Ao19 t220.length co19 : Value).ownBlock ∧ some k_ ≠ (.slice Ao20 t223.length co20 : Value).ownBlock ∧ some k_ ≠ (.slice Ao53 t229.length co53 : Value).ownBlock ∧ some k_ ≠ (v251 : Value).ownBlock ∧ some k_ ≠ (.slice Ao286 y255.length co286 : Value).ownBlock)) (HO268.out) (fun k_ hk => ⟨hk.1, ⟨hk.2.1, ⟨hk.2.2.1, ⟨hk.2.2.2.2.2.1, hk.2.2.2.2.2.2⟩⟩⟩⟩))).2.1 (Kd.N_F (Kd.N_mono (ok' := (fun k_ => some k_ ≠ (.slice Ao19 t220.length co19 : Value).ownBlock ∧ some k_ ≠ (.slice Ao20 t223.length co20 : Value).ownBlock ∧ some k_ ≠ (.slice Ao53 t229.length co53 : Value).ownBlock ∧ some k_ ≠ (v251 : Value).ownBlock ∧ some k_ ≠ (.slice Ao286 y255.length co286 : Value).ownBlock)) (HO268.out) (fun k_ hk => ⟨hk.1, ⟨hk.2.1, ⟨hk.2.2.1, ⟨hk.2.2.2.2.2.1, hk.2.2.2.2.2.2⟩⟩⟩⟩))))) (Reps.one (show Kd.FK (Kd.slice 26 (Kd.slice 23 k23)) _ _ y269 [.slice A290 y269.length c290] from (Kd.FK_slice_mk (Kd.V_reads' (Kd.V_mono (ok' := (fun k_ => some k_ ≠ (.slice Ao19 t220.length co19 : Value).ownBlock ∧ some k_ ≠ (.slice Ao20 t223.length co20 : Value).ownBlock ∧ some k_ ≠ (.slice Ao53 t229.length co53 : Value).ownBlock ∧ some k_ ≠ (v251 : Value).ownBlock ∧ some k_ ≠ (.slice Ao286 y255.length co286 : Value).ownBlock)) (HO273.out) (fun k_ hk => ⟨hk.1.1.1.1, ⟨hk.1.1.1.2.1, ⟨hk.1.1.1.2.2.1, ⟨hk.1.1.1.2.2.2.2, hk.1.1.2⟩⟩⟩⟩))).2.1 (Kd.V_F (Kd.V_mono (ok' := (fun k_ => some k_ ≠ (.slice Ao19 t220.length co19 : Value).ownBlock ∧ some k_ ≠ (.slice Ao20 t223.length co20 : Value).ownBlock ∧ some k_ ≠ (.slice Ao53 t229.length co53 : Value).ownBlock ∧ some k_ ≠ (v251 : Value).ownBlock ∧ some k_ ≠ (.slice Ao286 y255.length co286 : Value).ownBlock)) (HO273.out) (fun k_ hk => ⟨hk.1.1.1.1, ⟨hk.1.1.1.2.1, ⟨hk.1.1.1.2.2.1, ⟨hk.1.1.1.2.2.2.2, hk.1.1.2⟩⟩⟩⟩))))) (Reps.none _ _)))))
                     intro v275 w295 ho296 hb hg_ hnew_
                     clear hg_ hnew_
                     (first | rw [← Ny274.out] at ho296 | (simp only [Int.reduceToNat] at ho296; rw [← Ny274.out] at ho296))
                     have n0_ := jR HO_5 hb
                     have n1_ := jR HO_6 hb
                     have n2_ := jR HO_7 hb
                     have n3_ := Aside0.mk (Kd.N_elder' (iN HO_8) (Kd.N_base ho296) hb)
                     have n4_ := Aside0.mk (Kd.N_elder' (iN HO_9) (Kd.N_base ho296) hb)
                     have n5_ := Aside0.mk (Kd.N_elder' (iN HO_10) (Kd.N_base ho296) hb)
                     have n6_ := Aside0.mk (Kd.V_elder' (iV HL253_0) (Kd.N_base ho296) hb)
                     have n7_ := Aside0.mk (Kd.V_elder' (iV HL254_0) (Kd.N_base ho296) hb)
                     have n8_ := Aside0.mk (Kd.N_elder' (iN HO257) (Kd.N_base ho296) hb)
                     have n9_ := jR HO260 hb
                     have n10_ := Aside0.mk (Kd.V_elder' (iV HO265) (Kd.N_base ho296) hb)
                     have n11_ := Aside0.mk (Kd.V_elder' (iV HO273) (Kd.N_base ho296) hb)
                     have n12_ := Aside0.mk (Kd.N_elder' (iN HO268) (Kd.N_base ho296) hb)
                     have n13_ := Aside0.mk (Kd.N_lower ho296 (below_size (iL HB)))
                     have n14_ := Aside0.mk (Kd.C_below (cR HR253_0) hb)
                     have n15_ := Aside0.mk (Kd.C_below (cR HR254_0) hb)
                     have n16_ := jL HB hb
                     clear HO_5
                     clear HO_6
                     clear HO_7
                     clear HO_8
                     clear HO_9
                     clear HO_10
                     clear HL253_0
                     clear HL254_0
                     clear HO257
                     clear HO260
                     clear HO265
                     clear HO273
                     clear HO268
                     clear HR253_0
                     clear HR254_0
                     clear HB
                     have HO_5 := n0_
                     have HO_6 := n1_
                     have HO_7 := n2_
                     have HO_8 := n3_
                     have HO_9 := n4_
                     have HO_10 := n5_
                     have HL253_0 := n6_
                     have HL254_0 := n7_
                     have HO257 := n8_
                     have HO260 := n9_
                     have HO265 := n10_
                     have HO273 := n11_
                     have HO268 := n12_
                     have HO276 := n13_
                     have HR253_0 := n14_
                     have HR254_0 := n15_
                     have HB := n16_
                     clear n0_ n1_ n2_ n3_ n4_ n5_ n6_ n7_ n8_ n9_ n10_ n11_ n12_ n13_ n14_ n15_ n16_
                     clear hb ho296
                     obtain ⟨Ao297, co297, eo297⟩ := Kd.N_slice HO276.out
                     (first | subst eo297 | (injection eo297 with f1_ f2_ f3_; have f4_ := f1_.symm; have f5_ := f3_.symm; clear f1_ f2_ f3_; subst f4_; subst f5_))
                     refine hK.out _ _ trivial (fun hHeld => ?_)
                     clear hK K
                     refine norm_ (a' := ?_) ?_ ?_
                     rotate_left
                     ·show Act.put _ (some 95) _ = _
                      simp only [Act.put, List.setIfInBounds_toArray, List.set_cons_zero, List.set_cons_succ, i64_w, i32_w]
                      rfl
                     refine one_ (i := 9) (N := some 96) #[true, true, true, true, true, true, true, true, true, true, false, false] rfl rfl (one_of HT_.out (by kernel_rfl)) (by decide) (fun K hK => ?_)
                     refine goes_ Tryd.func35 (by kernel_rfl) rfl #[.slice Ao297 y274.length co297] (by rfl) rfl rfl (by (try simp only [List.map_toArray, List.map_cons, List.map_nil]); first | done | rfl | (simp only [List.length_drop, List.length_take]; rfl)) ?_
                     with_reducible refine (api_Sound_35.calls (fun k_ => (some k_ ≠ (.slice Ao19 t220.length co19 : Value).ownBlock ∧ (some k_ ≠ (.slice Ao20 t223.length co20 : Value).ownBlock ∧ (some k_ ≠ (.slice Ao53 t229.length co53 : Value).ownBlock ∧ (some k_ ≠ (v251 : Value).ownBlock ∧ some k_ ≠ (.slice Ao286 y255.length co286 : Value).ownBlock))))) _ _ y274 t277 _ ?side1 A68.out).mono ?_
                     (case side1 => exact Kd.N_V (HO276.out))
                     rintro e w298 ⟨v278, rfl, ho0, hb⟩
                     refine ⟨_, rfl, ?_⟩
                     have n0_ := jR HO_5 hb
                     have n1_ := jR HO_6 hb
                     have n2_ := jR HO_7 hb
                     have n3_ := Aside0.mk (Kd.N_elder' (iN HO_8) (Kd.N_base ho0) hb)
                     have n4_ := Aside0.mk (Kd.N_elder' (iN HO_9) (Kd.N_base ho0) hb)
                     have n5_ := Aside0.mk (Kd.N_elder' (iN HO_10) (Kd.N_base ho0) hb)
                     have n6_ := Aside0.mk (Kd.V_elder' (iV HL253_0) (Kd.N_base ho0) hb)
                     have n7_ := Aside0.mk (Kd.V_elder' (iV HL254_0) (Kd.N_base ho0) hb)
                     have n8_ := Aside0.mk (Kd.N_elder' (iN HO257) (Kd.N_base ho0) hb)
                     have n9_ := jR HO260 hb
                     have n10_ := Aside0.mk (Kd.V_elder' (iV HO265) (Kd.N_base ho0) hb)
                     have n11_ := Aside0.mk (Kd.V_elder' (iV HO273) (Kd.N_base ho0) hb)
                     have n12_ := Aside0.mk (Kd.N_elder' (iN HO268) (Kd.N_base ho0) hb)
                     have n13_ := Aside0.mk (Kd.N_elder' (iN HO276) (Kd.N_base ho0) hb)
                     have n14_ := Aside0.mk (Kd.N_lower (Kd.N_mono (ok' := fun k_ => some k_ ≠ (.slice Ao19 t220.length co19 : Value).ownBlock ∧ some k_ ≠ (.slice Ao20 t223.length co20 : Value).ownBlock ∧ some k_ ≠ (.slice Ao53 t229.length co53 : Value).ownBlock ∧ some k_ ≠ (v251 : Value).ownBlock ∧ some k_ ≠ (.slice Ao286 y255.length co286 : Value).ownBlock) ho0 (fun k_ hk_ => ⟨Or.elim hk_ (fun hs_ => hs_.1) (fun hn_ => (Kd.fresh' (Kd.R_lt (iR HO_5)) k_ hn_)), Or.elim hk_ (fun hs_ => hs_.2.1) (fun hn_ => (Kd.fresh' (Kd.R_lt (iR HO_6)) k_ hn_)), Or.elim hk_ (fun hs_ => hs_.2.2.1) (fun hn_ => (Kd.fresh' (Kd.R_lt (iR HO_7)) k_ hn_)), Or.elim hk_ (fun hs_ => hs_.2.2.2.1) (fun hn_ => (Kd.fresh' (Kd.N_lt (iN HO_10)) k_ hn_)), Or.elim hk_ (fun hs_ => hs_.2.2.2.2) (fun hn_ => (Kd.fresh' (Kd.N_lt (iN HO257)) k_ hn_))⟩)) (below_size (iL HB)))
                     have n15_ := Aside0.mk (Kd.C_below (cR HR253_0) hb)
                     have n16_ := Aside0.mk (Kd.C_below (cR HR254_0) hb)
                     have n17_ := jL HB hb
                     clear HO_5
                     clear HO_6
                     clear HO_7
                     clear HO_8
                     clear HO_9
                     clear HO_10
                     clear HL253_0
                     clear HL254_0
                     clear HO257
                     clear HO260
                     clear HO265
                     clear HO273
                     clear HO268
                     clear HO276
                     clear HR253_0
                     clear HR254_0
                     clear HB
                     have HO_5 := n0_
                     have HO_6 := n1_
                     have HO_7 := n2_
                     have HO_8 := n3_
                     have HO_9 := n4_
                     have HO_10 := n5_
                     have HL253_0 := n6_
                     have HL254_0 := n7_
                     have HO257 := n8_
                     have HO260 := n9_
                     have HO265 := n10_
                     have HO273 := n11_
                     have HO268 := n12_
                     have HO276 := n13_
                     have HO279 := n14_
                     have HR253_0 := n15_
                     have HR254_0 := n16_
                     have HB := n17_
                     clear n0_ n1_ n2_ n3_ n4_ n5_ n6_ n7_ n8_ n9_ n10_ n11_ n12_ n13_ n14_ n15_ n16_ n17_
                     (try clear hb)
                     (try clear hb2)
                     (try clear hk)
                     (try clear hi)
                     (try clear ho0)
                     obtain ⟨Ao299, co299, eo299⟩ := Kd.N_slice HO_10.out
                     (first | subst eo299 | (injection eo299 with f1_ f2_ f3_; have f4_ := f1_.symm; have f5_ := f3_.symm; clear f1_ f2_ f3_; subst f4_; subst f5_))
                     obtain ⟨Ao300, co300, eo300⟩ := Kd.N_slice HO279.out
                     (first | subst eo300 | (injection eo300 with f1_ f2_ f3_; have f4_ := f1_.symm; have f5_ := f3_.symm; clear f1_ f2_ f3_; subst f4_; subst f5_))
                     refine hK.out _ _ trivial (fun hHeld => ?_)
                     clear hK K
                     refine norm_ (a' := ?_) ?_ ?_
                     rotate_left
                     ·show Act.put _ (some 96) _ = _
                      simp only [Act.put, List.setIfInBounds_toArray, List.set_cons_zero, List.set_cons_succ, i64_w, i32_w]
                      rfl
                     refine one_ (i := 10) (N := some 97) #[true, true, true, true, true, true, true, true, true, true, true, false] rfl rfl (one_of HT_.out (by kernel_rfl)) (by decide) (fun K hK => ?_)
                     refine goes_ Tryd.func26 (by kernel_rfl) rfl #[.slice Ao299 t250.length co299, .slice Ao300 t277.length co300] (by rfl) rfl rfl (by (try simp only [List.map_toArray, List.map_cons, List.map_nil]); first | done | rfl | (simp only [List.length_drop, List.length_take]; rfl)) ?_
                     with_reducible refine (ancepsref11_SameLists.calls kj49 _ _ t250 _ _ t277 true _ ?side1 ?side2 ?side3 ?side4 A69.out).mono ?_
                     (case side1 => repeat (first | exact (Kd.N_reads' HO_10.out).2.2 | (with_reducible refine Kd.C_alloc ?_ _) | (with_reducible refine Kd.C_drewN ?_ _) | (with_reducible refine Kd.C_drew ?_)))
                     (case side2 => exact (Kd.N_reads' HO_10.out).2.1)
                     (case side3 => repeat (first | exact (Kd.N_reads' HO279.out).2.2 | (with_reducible refine Kd.C_alloc ?_ _) | (with_reducible refine Kd.C_drewN ?_ _) | (with_reducible refine Kd.C_drew ?_)))
                     (case side4 => exact (Kd.N_reads' HO279.out).2.1)
                     rintro e w301 ⟨rfl, hb⟩
                     refine ⟨_, rfl, ?_⟩
                     have n0_ := jR HO_5 hb
                     have n1_ := jR HO_6 hb
                     have n2_ := jR HO_7 hb
                     have n3_ := Aside0.mk (Kd.N_below (iN HO_8) hb)
                     have n4_ := Aside0.mk (Kd.N_below (iN HO_9) hb)
                     have n5_ := Aside0.mk (Kd.N_below (iN HO_10) hb)
                     have n6_ := Aside0.mk (Kd.V_below (iV HL253_0) hb)
                     have n7_ := Aside0.mk (Kd.V_below (iV HL254_0) hb)
                     have n8_ := Aside0.mk (Kd.N_below (iN HO257) hb)
                     have n9_ := jR HO260 hb
                     have n10_ := Aside0.mk (Kd.V_below (iV HO265) hb)
                     have n11_ := Aside0.mk (Kd.V_below (iV HO273) hb)
                     have n12_ := Aside0.mk (Kd.N_below (iN HO268) hb)
                     have n13_ := Aside0.mk (Kd.N_below (iN HO276) hb)
                     have n14_ := Aside0.mk (Kd.N_below (iN HO279) hb)
                     have n15_ := Aside0.mk (Kd.C_below (cR HR253_0) hb)
                     have n16_ := Aside0.mk (Kd.C_below (cR HR254_0) hb)
                     have n17_ := jL HB hb
                     clear HO_5
                     clear HO_6
                     clear HO_7
                     clear HO_8
                     clear HO_9
                     clear HO_10
                     clear HL253_0
                     clear HL254_0
                     clear HO257
                     clear HO260
                     clear HO265
                     clear HO273
                     clear HO268
                     clear HO276
                     clear HO279
                     clear HR253_0
                     clear HR254_0
                     clear HB
                     have HO_5 := n0_
                     have HO_6 := n1_
                     have HO_7 := n2_
                     have HO_8 := n3_
                     have HO_9 := n4_
                     have HO_10 := n5_
                     have HL253_0 := n6_
                     have HL254_0 := n7_
                     have HO257 := n8_
                     have HO260 := n9_
                     have HO265 := n10_
                     have HO273 := n11_
                     have HO268 := n12_
                     have HO276 := n13_
                     have HO279 := n14_
                     have HR253_0 := n15_
                     have HR254_0 := n16_
                     have HB := n17_
                     clear n0_ n1_ n2_ n3_ n4_ n5_ n6_ n7_ n8_ n9_ n10_ n11_ n12_ n13_ n14_ n15_ n16_ n17_
                     (try clear hb)
                     (try clear hb2)
                     (try clear hk)
                     (try clear hi)
                     refine hK.out _ _ trivial (fun hHeld => ?_)
                     clear hK K
                     refine norm_ (a' := ?_) ?_ ?_
                     rotate_left
                     ·show Act.put _ (some 97) _ = _
                      simp only [Act.put, List.setIfInBounds_toArray, List.set_cons_zero, List.set_cons_succ, i64_w, i32_w]
                      rfl
                     refine pv_ 11 (some 98) HT_ ?_
                     refine done_ (done_of HT_.out (by kernel_rfl)) ?_
                     try go_wp2_with (first | ((with_reducible refine gate_callee (f := 32) rfl ?_); refine gL_ (some 101) Tryd.func32 #[.slice Ao19 t220.length co19] ?_; (with_reducible refine (sound_Format.calls kj49 _ _ t220 t281 t282 _ ?side1 ?side2 A71.out).mono ?_); (case side1 => repeat (first | exact (Kd.R_reads' HO_5.out).2.2 | (with_reducible refine Kd.C_alloc ?_ _) | (with_reducible refine Kd.C_drewN ?_ _) | (with_reducible refine Kd.C_drew ?_))); (case side2 => exact (Kd.R_reads' HO_5.out).2.1); rintro e w302 ⟨rfl, hb⟩; refine ⟨_, rfl, ?_⟩; have n0_ := jR HO_5 hb; have n1_ := jR HO_6 hb; have n2_ := jR HO_7 hb; have n3_ := Aside0.mk (Kd.N_below (iN HO_8) hb); have n4_ := Aside0.mk (Kd.N_below (iN HO_9) hb); have n5_ := Aside0.mk (Kd.N_below (iN HO_10) hb); have n6_ := Aside0.mk (Kd.V_below (iV HL253_0) hb); have n7_ := Aside0.mk (Kd.V_below (iV HL254_0) hb); have n8_ := Aside0.mk (Kd.N_below (iN HO257) hb); have n9_ := jR HO260 hb; have n10_ := Aside0.mk (Kd.V_below (iV HO265) hb); have n11_ := Aside0.mk (Kd.V_below (iV HO273) hb); have n12_ := Aside0.mk (Kd.N_below (iN HO268) hb); have n13_ := Aside0.mk (Kd.N_below (iN HO276) hb); have n14_ := Aside0.mk (Kd.N_below (iN HO279) hb); have n15_ := Aside0.mk (Kd.C_below (cR HR253_0) hb); have n16_ := Aside0.mk (Kd.C_below (cR HR254_0) hb); have n17_ := jL HB hb; clear HO_5; clear HO_6; clear HO_7; clear HO_8; clear HO_9; clear HO_10; clear HL253_0; clear HL254_0; clear HO257; clear HO260; clear HO265; clear HO273; clear HO268; clear HO276; clear HO279; clear HR253_0; clear HR254_0; clear HB; have HO_5 := n0_; have HO_6 := n1_; have HO_7 := n2_; have HO_8 := n3_; have HO_9 := n4_; have HO_10 := n5_; have HL253_0 := n6_; have HL254_0 := n7_; have HO257 := n8_; have HO260 := n9_; have HO265 := n10_; have HO273 := n11_; have HO268 := n12_; have HO276 := n13_; have HO279 := n14_; have HR253_0 := n15_; have HR254_0 := n16_; have HB := n17_; clear n0_ n1_ n2_ n3_ n4_ n5_ n6_ n7_ n8_ n9_ n10_ n11_ n12_ n13_ n14_ n15_ n16_ n17_; (try clear hb)) | ((with_reducible refine gate_callee (f := 32) rfl ?_); refine gL_ (some 106) Tryd.func32 #[.slice Ao20 t223.length co20] ?_; (with_reducible refine (sound_Format.calls kj49 _ _ t223 t283 t284 _ ?side1 ?side2 A72.out).mono ?_); (case side1 => repeat (first | exact (Kd.R_reads' HO_6.out).2.2 | (with_reducible refine Kd.C_alloc ?_ _) | (with_reducible refine Kd.C_drewN ?_ _) | (with_reducible refine Kd.C_drew ?_))); (case side2 => exact (Kd.R_reads' HO_6.out).2.1); rintro e w303 ⟨rfl, hb⟩; refine ⟨_, rfl, ?_⟩; have n0_ := jR HO_5 hb; have n1_ := jR HO_6 hb; have n2_ := jR HO_7 hb; have n3_ := Aside0.mk (Kd.N_below (iN HO_8) hb); have n4_ := Aside0.mk (Kd.N_below (iN HO_9) hb); have n5_ := Aside0.mk (Kd.N_below (iN HO_10) hb); have n6_ := Aside0.mk (Kd.V_below (iV HL253_0) hb); have n7_ := Aside0.mk (Kd.V_below (iV HL254_0) hb); have n8_ := Aside0.mk (Kd.N_below (iN HO257) hb); have n9_ := jR HO260 hb; have n10_ := Aside0.mk (Kd.V_below (iV HO265) hb); have n11_ := Aside0.mk (Kd.V_below (iV HO273) hb); have n12_ := Aside0.mk (Kd.N_below (iN HO268) hb); have n13_ := Aside0.mk (Kd.N_below (iN HO276) hb); have n14_ := Aside0.mk (Kd.N_below (iN HO279) hb); have n15_ := Aside0.mk (Kd.C_below (cR HR253_0) hb); have n16_ := Aside0.mk (Kd.C_below (cR HR254_0) hb); have n17_ := jL HB hb; clear HO_5; clear HO_6; clear HO_7; clear HO_8; clear HO_9; clear HO_10; clear HL253_0; clear HL254_0; clear HO257; clear HO260; clear HO265; clear HO273; clear HO268; clear HO276; clear HO279; clear HR253_0; clear HR254_0; clear HB; have HO_5 := n0_; have HO_6 := n1_; have HO_7 := n2_; have HO_8 := n3_; have HO_9 := n4_; have HO_10 := n5_; have HL253_0 := n6_; have HL254_0 := n7_; have HO257 := n8_; have HO260 := n9_; have HO265 := n10_; have HO273 := n11_; have HO268 := n12_; have HO276 := n13_; have HO279 := n14_; have HR253_0 := n15_; have HR254_0 := n16_; have HB := n17_; clear n0_ n1_ n2_ n3_ n4_ n5_ n6_ n7_ n8_ n9_ n10_ n11_ n12_ n13_ n14_ n15_ n16_ n17_; (try clear hb)) | ((with_reducible refine gate_callee (f := 32) rfl ?_); refine gL_ (some 111) Tryd.func32 #[.slice Ao53 t229.length co53] ?_; (with_reducible refine (sound_Format.calls kj49 _ _ t229 t285 t286 _ ?side1 ?side2 A73.out).mono ?_); (case side1 => repeat (first | exact (Kd.R_reads' HO_7.out).2.2 | (with_reducible refine Kd.C_alloc ?_ _) | (with_reducible refine Kd.C_drewN ?_ _) | (with_reducible refine Kd.C_drew ?_))); (case side2 => exact (Kd.R_reads' HO_7.out).2.1); rintro e w304 ⟨rfl, hb⟩; refine ⟨_, rfl, ?_⟩; have n0_ := jR HO_5 hb; have n1_ := jR HO_6 hb; have n2_ := jR HO_7 hb; have n3_ := Aside0.mk (Kd.N_below (iN HO_8) hb); have n4_ := Aside0.mk (Kd.N_below (iN HO_9) hb); have n5_ := Aside0.mk (Kd.N_below (iN HO_10) hb); have n6_ := Aside0.mk (Kd.V_below (iV HL253_0) hb); have n7_ := Aside0.mk (Kd.V_below (iV HL254_0) hb); have n8_ := Aside0.mk (Kd.N_below (iN HO257) hb); have n9_ := jR HO260 hb; have n10_ := Aside0.mk (Kd.V_below (iV HO265) hb); have n11_ := Aside0.mk (Kd.V_below (iV HO273) hb); have n12_ := Aside0.mk (Kd.N_below (iN HO268) hb); have n13_ := Aside0.mk (Kd.N_below (iN HO276) hb); have n14_ := Aside0.mk (Kd.N_below (iN HO279) hb); have n15_ := Aside0.mk (Kd.C_below (cR HR253_0) hb); have n16_ := Aside0.mk (Kd.C_below (cR HR254_0) hb); have n17_ := jL HB hb; clear HO_5; clear HO_6; clear HO_7; clear HO_8; clear HO_9; clear HO_10; clear HL253_0; clear HL254_0; clear HO257; clear HO260; clear HO265; clear HO273; clear HO268; clear HO276; clear HO279; clear HR253_0; clear HR254_0; clear HB; have HO_5 := n0_; have HO_6 := n1_; have HO_7 := n2_; have HO_8 := n3_; have HO_9 := n4_; have HO_10 := n5_; have HL253_0 := n6_; have HL254_0 := n7_; have HO257 := n8_; have HO260 := n9_; have HO265 := n10_; have HO273 := n11_; have HO268 := n12_; have HO276 := n13_; have HO279 := n14_; have HR253_0 := n15_; have HR254_0 := n16_; have HB := n17_; clear n0_ n1_ n2_ n3_ n4_ n5_ n6_ n7_ n8_ n9_ n10_ n11_ n12_ n13_ n14_ n15_ n16_ n17_; (try clear hb)))
                     go_ret
                     exact ⟨by first | rfl | (simp [errW_none, errW_some] <;> rfl) | (simp only [← hji60]; first | rfl | (simp [errW_none, errW_some] <;> rfl)) | (simp [*, errW_none, errW_some] <;> rfl), iL HB⟩
                    ·rw [if_neg c280] at H; cases H
                   ·rw [if_neg c279] at H; cases H
                  ·rw [if_neg c278] at H; cases H
                 ·rw [if_neg c277] at H; cases H
               ·rw [if_neg (show ¬ _ from c70)] at H; cases H
              ·rw [if_neg c67] at H; cases H
             ·rw [if_neg c66] at H; cases H
            ·rw [if_neg c63] at H; cases H
           ·rw [if_neg c62] at H; cases H
          ·rw [if_neg c61] at H; cases H
/-- THE ONE PURE STATEMENT of ancepslaw11_SoundJoined: yours. -/
def ancepslaw11_SoundJoined.Pure : Prop := ∀ (l0 : List Int) (l1 : List Int), l0.length ≤ maxLen → l0.length * 1 ≤ 140737488351232 → (∀ x ∈ l0, (Lit.int .u8 x).wf = true) → l1.length ≤ maxLen → l1.length * 1 ≤ 140737488351232 → (∀ x ∈ l1, (Lit.int .u8 x).wf = true) → ∃ k, ancepslaw11_SoundJoined.f k l0 l1 = some true
theorem ancepslaw11_SoundJoined.walk (P : ancepslaw11_SoundJoined.Pure) (a0 : Option Addr) (len0 cap0 : Nat) (z0 : List Int) (a1 : Option Addr) (len1 cap1 : Nat) (z1 : List Int) (w : World) (w0 : (a0 = none ∧ len0 = 0 ∧ cap0 = 0 ∧ z0 = []) ∨ ∃ x, a0 = some x ∧ len0 ≤ cap0 ∧ cap0 ≤ maxLen ∧ z0.length = cap0 ∧ (∀ i, i < z0.length → w.cell? (x.add i) = some (.int .u8 (z0.getD i 0))) ∧ ∀ n ∈ z0, (Lit.int .u8 n).wf = true) (y0 : len0 * 1 ≤ 140737488351232) (w1 : (a1 = none ∧ len1 = 0 ∧ cap1 = 0 ∧ z1 = []) ∨ ∃ x, a1 = some x ∧ len1 ≤ cap1 ∧ cap1 ≤ maxLen ∧ z1.length = cap1 ∧ (∀ i, i < z1.length → w.cell? (x.add i) = some (.int .u8 (z1.getD i 0))) ∧ ∀ n ∈ z1, (Lit.int .u8 n).wf = true) (y1 : len1 * 1 ≤ 140737488351232) :
  Calls Tryd.prog 10 #[.slice a0 len0 cap0, .slice a1 len1 cap1] w fun e w' => e = .returned (.bool true) ∧ Below w.heap.size w w' := by
 obtain ⟨l0, rfl, hr0, hm0, hw0, hc0⟩ := ReadsInt.ofRowC w0
 obtain ⟨l1, rfl, hr1, hm1, hw1, hc1⟩ := ReadsInt.ofRowC w1
 obtain ⟨k, h⟩ := P l0 l1 hm0 y0 hw0 hm1 y1 hw1
 refine (ancepslaw11_SoundJoined.calls k _ _ l0 _ _ l1 true w (Kd.C_of_reads (d := (0 : Int)) (h1 := fun _ => rfl) hr0) hc0 (Kd.C_of_reads (d := (0 : Int)) (h1 := fun _ => rfl) hr1) hc1 h).mono ?_
 rintro e w' ⟨rfl, hd⟩
 exact ⟨rfl, hd⟩

end Go.Proofs.YtnjiniegpjfemaaDoor.X
