-- printed by this session's xprint.py: out of the translation, by the kit's print with additions; Lean checks it
import Derived.Test.YtnjiniegpjfemaaDoorWN
import Derived.Test.YtnjiniegpjfemaaDoorWShare
import Derived.Test.YtnjiniegpjfemaaDoorWRepsOne
import Derived.Test.YtnjiniegpjfemaaDoorWGuard
import Derived.Test.YtnjiniegpjfemaaDoorX0
import Derived.Test.YtnjiniegpjfemaaDoorX2
import Derived.Test.YtnjiniegpjfemaaDoorX4
import Derived.Test.YtnjiniegpjfemaaDoorX9
import Derived.Test.YtnjiniegpjfemaaDoorX11
namespace Go.Proofs.YtnjiniegpjfemaaDoor.X
open Go.RowKit Go.Proofs.YtnjiniegpjfemaaDoorW.PrintWords Go.Proofs.YtnjiniegpjfemaaDoorW.PrintLast Go.Proofs.YtnjiniegpjfemaaDoorW.PrintMore
attribute [local go_sem] max2_int min2_int max_two min_two max_three min_three max_four min_four isSome_setCell binOp_gtr_str binOp_leq_str   -- for this text's walks alone
set_option linter.unusedVariables false
set_option linter.unusedSimpArgs false

/-! ### ancepslaw11_SoundRebuilt: function 4 -/
mutual
def ancepslaw11_SoundRebuilt.j0 : Nat → List Int → Bool → Option (Bool)
  | 0, _, _ => none
  | k + 1, x0, x16 => if x16 = true then ((ancepslaw11_awake.f k).bind fun t220 => (some t220)) else ((ancepsref11_All.f k x0).bind fun t221 => ((sound_Nuclei.f k t221).bind fun t224 => ((sound_Clusters.f k t221).bind fun t227 => (if (t227.length : Int) = (wrap64 ((t224.length : Int) + 1)) then (ancepslaw11_SoundRebuilt.l0 k t221 t224 ([] : List (S23)) 0 t227 (t227.length : Int) 0) else (some false)))))
def ancepslaw11_SoundRebuilt.l0 : Nat → List (S23) → List Int → List (S23) → Int → List (List (S23)) → Int → Int → Option (Bool)
  | 0, _, _, _, _, _, _, _ => none
  | k + 1, x3, x4, x6, x7, x23, x31, x32 => if x32 < x31 then (if 0 ≤ x32 then (if x32 < (x23.length : Int) then (if x6.length + (rd_L3 x23 x32).length < 4398046511104 then ((some (x6 ++ (rd_L3 x23 x32) : List (S23))).bind fun y233 => ((sound_Beats.f k (rd_L3 x23 x32)).bind fun t236 => (if x32 < (x4.length : Int) then (if (rd x4 x32) < 0 then (some false) else (if (rd x4 x32) ≥ (x3.length : Int) then (some false) else (if 0 ≤ (rd x4 x32) then (if (rd x4 x32) < (x3.length : Int) then ((sound_Nucleus.f ((rd_T23 x3 (rd x4 x32)).f0) ((rd_T23 x3 (rd x4 x32)).f1) ((rd_T23 x3 (rd x4 x32)).f2)).bind fun t241 => (if t241 = true then (if y233.length < 4398046511104 then (ancepslaw11_SoundRebuilt.l0 k x3 x4 (y233 ++ [(⟨(rd_T23 x3 (rd x4 x32)).f0, (rd_T23 x3 (rd x4 x32)).f1, (rd_T23 x3 (rd x4 x32)).f2⟩ : S23)]) (wrap64 (x7 + t236)) x23 x31 (wrap64 (x32 + 1))) else (none)) else (some false))) else (none)) else (none)))) else (ancepslaw11_SoundRebuilt.l0 k x3 x4 y233 (wrap64 (x7 + t236)) x23 x31 (wrap64 (x32 + 1)))))) else (none)) else (none)) else (none)) else ((ancepsref11_Same.f k x6 x3).bind fun t230 => (if t230 = true then ((sound_Beats.f k x3).bind fun t231 => (some (x7 == t231))) else (some false)))
end
def ancepslaw11_SoundRebuilt.f (k : Nat) (l0 : List Int) : Option (Bool) := (ancepslaw11_awake.f k).bind fun t219 => (if t219 = true then (ancepslaw11_SoundRebuilt.j0 k l0 (decide ((l0.length : Int) > 100))) else (ancepslaw11_SoundRebuilt.j0 k l0 true))
theorem ancepslaw11_SoundRebuilt.mono_l : ∀ k, (∀ y0 y1, LeO (ancepslaw11_SoundRebuilt.j0 k y0 y1) (ancepslaw11_SoundRebuilt.j0 (k + 1) y0 y1)) ∧ (∀ y0 y1 y2 y3 y4 y5 y6, LeO (ancepslaw11_SoundRebuilt.l0 k y0 y1 y2 y3 y4 y5 y6) (ancepslaw11_SoundRebuilt.l0 (k + 1) y0 y1 y2 y3 y4 y5 y6))
  | 0 => ⟨fun _ _ r h => by simp [ancepslaw11_SoundRebuilt.j0] at h, fun _ _ _ _ _ _ _ r h => by simp [ancepslaw11_SoundRebuilt.l0] at h⟩
  | k + 1 => by
    obtain ⟨ih0, ih1⟩ := ancepslaw11_SoundRebuilt.mono_l k
    refine ⟨?_, ?_⟩
    · intro y0 y1
      unfold ancepslaw11_SoundRebuilt.j0
      repeat' first
      | (with_reducible exact ih0 _ _)
      | (with_reducible exact ih1 _ _ _ _ _ _ _)
      | (with_reducible exact ancepslaw11_awake.mono _)
      | (with_reducible exact ancepsref11_All.mono _ _)
      | (with_reducible exact ancepsref11_Same.mono _ _ _)
      | (with_reducible exact sound_Beats.mono _ _)
      | (with_reducible exact sound_Clusters.mono _ _)
      | (with_reducible exact sound_Nuclei.mono _ _)
      | (with_reducible exact LeO.refl _)
      | (with_reducible exact LeO.none _)
      | (with_reducible refine LeO.ite ?_ ?_)
      | (with_reducible refine LeO.bind ?_ (fun _ => ?_))
      | exact ih0 _ _
      | exact ih1 _ _ _ _ _ _ _
      | exact ancepslaw11_awake.mono _
      | exact ancepsref11_All.mono _ _
      | exact ancepsref11_Same.mono _ _ _
      | exact sound_Beats.mono _ _
      | exact sound_Clusters.mono _ _
      | exact sound_Nuclei.mono _ _
      | exact LeO.none _
      | refine LeO.ite ?_ ?_
      | refine LeO.bind ?_ (fun _ => ?_)
    · intro y0 y1 y2 y3 y4 y5 y6
      unfold ancepslaw11_SoundRebuilt.l0
      repeat' first
      | (with_reducible exact ih0 _ _)
      | (with_reducible exact ih1 _ _ _ _ _ _ _)
      | (with_reducible exact ancepslaw11_awake.mono _)
      | (with_reducible exact ancepsref11_All.mono _ _)
      | (with_reducible exact ancepsref11_Same.mono _ _ _)
      | (with_reducible exact sound_Beats.mono _ _)
      | (with_reducible exact sound_Clusters.mono _ _)
      | (with_reducible exact sound_Nuclei.mono _ _)
      | (with_reducible exact LeO.refl _)
      | (with_reducible exact LeO.none _)
      | (with_reducible refine LeO.ite ?_ ?_)
      | (with_reducible refine LeO.bind ?_ (fun _ => ?_))
      | exact ih0 _ _
      | exact ih1 _ _ _ _ _ _ _
      | exact ancepslaw11_awake.mono _
      | exact ancepsref11_All.mono _ _
      | exact ancepsref11_Same.mono _ _ _
      | exact sound_Beats.mono _ _
      | exact sound_Clusters.mono _ _
      | exact sound_Nuclei.mono _ _
      | exact LeO.none _
      | refine LeO.ite ?_ ?_
      | refine LeO.bind ?_ (fun _ => ?_)
theorem ancepslaw11_SoundRebuilt.mono : ∀ a0 k, LeO (ancepslaw11_SoundRebuilt.f k a0) (ancepslaw11_SoundRebuilt.f (k + 1) a0) := by
  intro a0 k
  obtain ⟨ih0, ih1⟩ := ancepslaw11_SoundRebuilt.mono_l k
  unfold ancepslaw11_SoundRebuilt.f
  repeat' first
      | (with_reducible exact ih0 _ _)
      | (with_reducible exact ih1 _ _ _ _ _ _ _)
      | (with_reducible exact ancepslaw11_awake.mono _)
      | (with_reducible exact ancepsref11_All.mono _ _)
      | (with_reducible exact ancepsref11_Same.mono _ _ _)
      | (with_reducible exact sound_Beats.mono _ _)
      | (with_reducible exact sound_Clusters.mono _ _)
      | (with_reducible exact sound_Nuclei.mono _ _)
      | (with_reducible exact LeO.refl _)
      | (with_reducible exact LeO.none _)
      | (with_reducible refine LeO.ite ?_ ?_)
      | (with_reducible refine LeO.bind ?_ (fun _ => ?_))
      | exact ih0 _ _
      | exact ih1 _ _ _ _ _ _ _
      | exact ancepslaw11_awake.mono _
      | exact ancepsref11_All.mono _ _
      | exact ancepsref11_Same.mono _ _ _
      | exact sound_Beats.mono _ _
      | exact sound_Clusters.mono _ _
      | exact sound_Nuclei.mono _ _
      | exact LeO.none _
      | refine LeO.ite ?_ ?_
      | refine LeO.bind ?_ (fun _ => ?_)
set_option maxHeartbeats 8000000 in
set_option maxRecDepth 100000 in
theorem ancepslaw11_SoundRebuilt.calls (k : Nat) (A0 : Option Addr) (c0 : Nat) (l0 : List Int) (r : Bool) (w : World) (hr0 : Kd.C (Kd.int .u8) w A0 l0.length l0) (hc0 : l0.length ≤ c0) (h : ancepslaw11_SoundRebuilt.f k l0 = some r) :
    Calls Tryd.prog 4 #[.slice A0 l0.length c0] w fun e w' => e = .returned (.bool r) ∧ Below w.heap.size w w' := by
  have hu23 := Tryd.underlying23
  have HR0 := Aside0.mk hr0
  have HC0 := Aside0.mk hc0
  clear hr0 hc0
  have HB := Aside0.mk (Below.refl w.heap.size w)
  have H : ((ancepslaw11_awake.f k).bind fun t219 => (if t219 = true then (ancepslaw11_SoundRebuilt.j0 k l0 (decide ((l0.length : Int) > 100))) else (ancepslaw11_SoundRebuilt.j0 k l0 true))) = some r := h
  clear h
  have HC2 := Aside0.mk H
  clear H
  go_enter Tryd.func4, Tryd.ntmps4
  go_upto_region 1 with (fail)
  go_cut [16] (fun v16 wc => ∃ (kq : Nat) (x16_1 : Bool), v16 = .bool x16_1 ∧ Aside0 (ancepslaw11_SoundRebuilt.j0 kq l0 x16_1 = some r) ∧ Aside0 (kq ≤ k) ∧ Aside0 (Below w.heap.size w wc))
  case first =>
    have H := HC2.out
    clear HC2
    replace H := Option.bind_eq_some_iff.mp H
    obtain ⟨t219, A30, H⟩ := H
    replace H : (if t219 = true then (ancepslaw11_SoundRebuilt.j0 k l0 (decide ((l0.length : Int) > 100))) else (ancepslaw11_SoundRebuilt.j0 k l0 true)) = some r := H
    have A3 := Aside0.mk A30
    clear A30
    by_cases c4 : t219 = true
    · subst c4
      have H1 : (ancepslaw11_SoundRebuilt.j0 k l0 (decide ((l0.length : Int) > 100))) = some r := by rw [if_pos rfl] at H; exact H
      clear H
      have H := H1
      clear H1
      have H' := Aside0.mk H
      clear H
      go_wp2_with (first | ((with_reducible refine gate_callee (f := 11) rfl ?_); refine goesL_ (some 10) rfl rfl Tryd.func11 (by kernel_rfl) rfl #[] rfl (by (try simp only [List.map_toArray, List.map_cons, List.map_nil]); first | done | rfl | (simp only [List.length_drop, List.length_take]; rfl)) ?_; (with_reducible refine (ancepslaw11_awake.calls k  true _ A3.out).mono ?_); rintro e w5 ⟨rfl, hb⟩; refine ⟨_, rfl, ?_⟩; have n0_ := Aside0.mk (below_step (by repeat (first | (with_reducible first | exact HB.out | apply below_alloc | apply pw_below_drewN | apply below_drew1) | exact HB.out)) hb); clear HB; have HB := n0_; clear n0_; (try clear hb); (try clear hb2); (try clear hk); (try clear hi)))
      go_meet
      case rel => exact ⟨_, (decide ((l0.length : Int) > 100)), (by first | rfl | (simp; done) | (simp [*]; done)), H', ⟨by first | omega | exact Nat.le_refl _⟩, ⟨by repeat (first | (with_reducible first | exact HB.out | apply below_alloc | apply pw_below_drewN | apply below_drew1) | exact HB.out)⟩⟩
    · replace c4 := Bool.eq_false_iff.mpr c4
      subst c4
      have H1 : (ancepslaw11_SoundRebuilt.j0 k l0 true) = some r := by rw [if_neg (show ¬ (false = true) by decide)] at H; exact H
      clear H
      have H := H1
      clear H1
      have H' := Aside0.mk H
      clear H
      go_wp2_with (first | ((with_reducible refine gate_callee (f := 11) rfl ?_); refine goesL_ (some 10) rfl rfl Tryd.func11 (by kernel_rfl) rfl #[] rfl (by (try simp only [List.map_toArray, List.map_cons, List.map_nil]); first | done | rfl | (simp only [List.length_drop, List.length_take]; rfl)) ?_; (with_reducible refine (ancepslaw11_awake.calls k  false _ A3.out).mono ?_); rintro e w6 ⟨rfl, hb⟩; refine ⟨_, rfl, ?_⟩; have n0_ := Aside0.mk (below_step (by repeat (first | (with_reducible first | exact HB.out | apply below_alloc | apply pw_below_drewN | apply below_drew1) | exact HB.out)) hb); clear HB; have HB := n0_; clear n0_; (try clear hb); (try clear hb2); (try clear hk); (try clear hi)))
      go_meet
      case rel => exact ⟨_, (true), (by first | rfl | (simp; done) | (simp [*]; done)), H', ⟨by first | omega | exact Nat.le_refl _⟩, ⟨by repeat (first | (with_reducible first | exact HB.out | apply below_alloc | apply pw_below_drewN | apply below_drew1) | exact HB.out)⟩⟩
  case rest =>
    clear HC2
    try clear c1
    try clear p2
    try clear c4
    obtain ⟨kq, x16_1, rfl, HA, HJ1, HB⟩ := hcut
    cases kq with
    | zero => exact absurd HA.out (by simp [ancepslaw11_SoundRebuilt.j0])
    | succ kj1 =>
      have H := HA.out
      clear HA
      simp only [ancepslaw11_SoundRebuilt.j0] at H
      by_cases c7 : x16_1 = true
      · subst c7
        have H1 : ((ancepslaw11_awake.f kj1).bind fun t220 => (some t220)) = some r := by rw [if_pos rfl] at H; exact H
        clear H
        have H := H1
        clear H1
        replace H := Option.bind_eq_some_iff.mp H
        obtain ⟨t220, A80, H⟩ := H
        replace H : (some t220) = some r := H
        have A8 := Aside0.mk A80
        clear A80
        obtain rfl := Option.some.inj H
        go_wp2_with (first | ((with_reducible refine gate_callee (f := 11) rfl ?_); refine goesL_ (some 17) rfl rfl Tryd.func11 (by kernel_rfl) rfl #[] rfl (by (try simp only [List.map_toArray, List.map_cons, List.map_nil]); first | done | rfl | (simp only [List.length_drop, List.length_take]; rfl)) ?_; (with_reducible refine (ancepslaw11_awake.calls kj1  t220 _ A8.out).mono ?_); rintro e w9 ⟨rfl, hb⟩; refine ⟨_, rfl, ?_⟩; have n0_ := Aside0.mk (below_step (by repeat (first | (with_reducible first | exact HB.out | apply below_alloc | apply pw_below_drewN | apply below_drew1) | exact HB.out)) hb); clear HB; have HB := n0_; clear n0_; (try clear hb); (try clear hb2); (try clear hk); (try clear hi)))
        go_ret
        exact ⟨by first | rfl | (simp [errW_none, errW_some] <;> rfl) | (simp [*, errW_none, errW_some] <;> rfl), by repeat (first | (with_reducible first | exact HB.out | apply below_alloc | apply pw_below_drewN | apply below_drew1) | exact HB.out)⟩
      · replace c7 := Bool.eq_false_iff.mpr c7
        subst c7
        have H1 : ((ancepsref11_All.f kj1 l0).bind fun t221 => ((sound_Nuclei.f kj1 t221).bind fun t224 => ((sound_Clusters.f kj1 t221).bind fun t227 => (if (t227.length : Int) = (wrap64 ((t224.length : Int) + 1)) then (ancepslaw11_SoundRebuilt.l0 kj1 t221 t224 ([] : List (S23)) 0 t227 (t227.length : Int) 0) else (some false))))) = some r := by rw [if_neg (show ¬ (false = true) by decide)] at H; exact H
        clear H
        have H := H1
        clear H1
        replace H := Option.bind_eq_some_iff.mp H
        obtain ⟨t221, A100, H⟩ := H
        replace H : ((sound_Nuclei.f kj1 t221).bind fun t224 => ((sound_Clusters.f kj1 t221).bind fun t227 => (if (t227.length : Int) = (wrap64 ((t224.length : Int) + 1)) then (ancepslaw11_SoundRebuilt.l0 kj1 t221 t224 ([] : List (S23)) 0 t227 (t227.length : Int) 0) else (some false)))) = some r := H
        have A10 := Aside0.mk A100
        clear A100
        replace H := Option.bind_eq_some_iff.mp H
        obtain ⟨t224, A110, H⟩ := H
        replace H : ((sound_Clusters.f kj1 t221).bind fun t227 => (if (t227.length : Int) = (wrap64 ((t224.length : Int) + 1)) then (ancepslaw11_SoundRebuilt.l0 kj1 t221 t224 ([] : List (S23)) 0 t227 (t227.length : Int) 0) else (some false))) = some r := H
        have A11 := Aside0.mk A110
        clear A110
        replace H := Option.bind_eq_some_iff.mp H
        obtain ⟨t227, A120, H⟩ := H
        replace H : (if (t227.length : Int) = (wrap64 ((t224.length : Int) + 1)) then (ancepslaw11_SoundRebuilt.l0 kj1 t221 t224 ([] : List (S23)) 0 t227 (t227.length : Int) 0) else (some false)) = some r := H
        have A12 := Aside0.mk A120
        clear A120
        by_cases c13 : (t227.length : Int) = (wrap64 ((t224.length : Int) + 1))
        · rw [if_pos c13] at H
          have c13b0 : ((t227.length : Int) == (wrap64 ((t224.length : Int) + 1))) = true := beq_iff_eq.mpr c13
          have c13b1 : ((t227.length : Int) != (wrap64 ((t224.length : Int) + 1))) = false := bne_eq_false_iff_eq.mpr c13
          clear c13
          have H' := Aside0.mk H
          clear H
          go_wp2_with (first | ((with_reducible refine gate_callee (f := 17) rfl ?_); refine goesL_ (some 19) rfl rfl Tryd.func17 (by kernel_rfl) rfl #[.slice A0 l0.length c0] rfl (by (try simp only [List.map_toArray, List.map_cons, List.map_nil]); first | done | rfl | (simp only [List.length_drop, List.length_take]; rfl)) ?_; (with_reducible refine (ancepsref11_All.calls kj1 _ _ l0 t221 _ ?side1 ?side2 A10.out).mono ?_); (case side1 => repeat (first | exact (Kd.C_below HR0.out HB.out) | (with_reducible refine Kd.C_alloc ?_ _) | (with_reducible refine Kd.C_drewN ?_ _) | (with_reducible refine Kd.C_drew ?_))); (case side2 => exact HC0.out); rintro e w14 ⟨v222, rfl, ho0, hb⟩; refine ⟨_, rfl, ?_⟩; have n0_ := Aside0.mk (Kd.R_lower ho0 (below_size (by repeat (first | (with_reducible first | exact HB.out | apply below_alloc | apply pw_below_drewN | apply below_drew1) | exact HB.out)))); have n1_ := Aside0.mk (below_step (by repeat (first | (with_reducible first | exact HB.out | apply below_alloc | apply pw_below_drewN | apply below_drew1) | exact HB.out)) hb); clear HB; have HO223 := n0_; have HB := n1_; clear n0_ n1_; (try clear hb); (try clear hb2); (try clear hk); (try clear hi); (try clear ho0); obtain ⟨Ao15, co15, eo15⟩ := Kd.R_slice HO223.out; subst eo15) | ((with_reducible refine gate_callee (f := 18) rfl ?_); refine goesL_ (some 21) rfl rfl Tryd.func18 (by kernel_rfl) rfl #[.slice Ao15 t221.length co15] rfl (by (try simp only [List.map_toArray, List.map_cons, List.map_nil]); first | done | rfl | (simp only [List.length_drop, List.length_take]; rfl)) ?_; (with_reducible refine (sound_Nuclei.calls kj1 _ _ t221 t224 _ ?side1 ?side2 A11.out).mono ?_); (case side1 => repeat (first | exact (Kd.R_reads' HO223.out).2.2 | (with_reducible refine Kd.C_alloc ?_ _) | (with_reducible refine Kd.C_drewN ?_ _) | (with_reducible refine Kd.C_drew ?_))); (case side2 => exact (Kd.R_reads' HO223.out).2.1); rintro e w16 ⟨v225, rfl, ho0, hb⟩; refine ⟨_, rfl, ?_⟩; have n0_ := Aside0.mk (Kd.R_below (by (with_reducible repeat (first | apply Kd.R_alloc | apply Kd.R_drewN | apply Kd.R_drew)); exact HO223.out) hb); have n1_ := Aside0.mk (Kd.R_lower ho0 (below_size (by repeat (first | (with_reducible first | exact HB.out | apply below_alloc | apply pw_below_drewN | apply below_drew1) | exact HB.out)))); have n2_ := Aside0.mk (below_step (by repeat (first | (with_reducible first | exact HB.out | apply below_alloc | apply pw_below_drewN | apply below_drew1) | exact HB.out)) hb); clear HO223; clear HB; have HO223 := n0_; have HO226 := n1_; have HB := n2_; clear n0_ n1_ n2_; (try clear hb); (try clear hb2); (try clear hk); (try clear hi); (try clear ho0)) | ((with_reducible refine gate_callee (f := 19) rfl ?_); refine goesL_ (some 23) rfl rfl Tryd.func19 (by kernel_rfl) rfl #[.slice Ao15 t221.length co15] rfl (by (try simp only [List.map_toArray, List.map_cons, List.map_nil]); first | done | rfl | (simp only [List.length_drop, List.length_take]; rfl)) ?_; (with_reducible refine (sound_Clusters.calls kj1 _ _ t221 t227 _ ?side1 ?side2 A12.out).mono ?_); (case side1 => repeat (first | exact (Kd.R_reads' HO223.out).2.2 | (with_reducible refine Kd.C_alloc ?_ _) | (with_reducible refine Kd.C_drewN ?_ _) | (with_reducible refine Kd.C_drew ?_))); (case side2 => exact (Kd.R_reads' HO223.out).2.1); rintro e w17 ⟨v228, rfl, ho0, hb⟩; refine ⟨_, rfl, ?_⟩; have n0_ := Aside0.mk (Kd.R_below (by (with_reducible repeat (first | apply Kd.R_alloc | apply Kd.R_drewN | apply Kd.R_drew)); exact HO223.out) hb); have n1_ := Aside0.mk (Kd.R_below (by (with_reducible repeat (first | apply Kd.R_alloc | apply Kd.R_drewN | apply Kd.R_drew)); exact HO226.out) hb); have n2_ := Aside0.mk (Kd.S_lower (Kd.S_new' ho0 (Kd.R_lt (by (with_reducible repeat (first | apply Kd.R_alloc | apply Kd.R_drewN | apply Kd.R_drew)); exact HO223.out))) (below_size (by repeat (first | (with_reducible first | exact HB.out | apply below_alloc | apply pw_below_drewN | apply below_drew1) | exact HB.out)))); have n3_ := Aside0.mk (below_step (by repeat (first | (with_reducible first | exact HB.out | apply below_alloc | apply pw_below_drewN | apply below_drew1) | exact HB.out)) hb); clear HO223; clear HO226; clear HB; have HO223 := n0_; have HO226 := n1_; have HO229 := n2_; have HB := n3_; clear n0_ n1_ n2_ n3_; (try clear hb); (try clear hb2); (try clear hk); (try clear hi); (try clear ho0); obtain ⟨Ao18, co18, eo18⟩ := Kd.S_slice HO229.out; subst eo18; obtain ⟨Ao19, co19, eo19⟩ := Kd.R_slice HO226.out; subst eo19))
          go_loopg [6, 7, 32] kj1 (fun kq v6 v7 v32 w' => ∃ (x6_2 : List (S23)) (x7_2 : Int) (x32_2 : Int), v7 = .int .i64 x7_2 ∧ v32 = .int .i64 x32_2 ∧ Aside0 (ancepslaw11_SoundRebuilt.l0 kq t221 t224 x6_2 x7_2 t227 (t227.length : Int) x32_2 = some r) ∧ Aside0 (kq ≤ kj1) ∧ Aside0 (Kd.R k23 23 w' w.heap.size (fun k_ => some k_ ≠ (v6 : Value).ownBlock) (.slice Ao15 t221.length co15) t221) ∧ Aside0 (Kd.R (Kd.int .i64) 3 w' w.heap.size (fun _ => True) (.slice Ao19 t224.length co19) t224) ∧ Aside0 (Kd.R k23 23 w' w.heap.size (fun k_ => some k_ ≠ ((.slice Ao15 t221.length co15) : Value).ownBlock) v6 x6_2) ∧ Aside0 (Kd.S (Kd.slice 23 k23) 26 w' w.heap.size (fun k_ => some k_ ≠ ((.slice Ao15 t221.length co15) : Value).ownBlock ∧ some k_ ≠ (v6 : Value).ownBlock) (.slice Ao18 t227.length co18) t227) ∧ Aside0 (Below w.heap.size w w'))
          case atStart => exact ⟨(([] : List (S23))), (0), (0), (by first | rfl | (simp; done) | (simp [*]; done)), (by first | rfl | (simp; done) | (simp [*]; done)), H', ⟨Nat.le_refl _⟩, ⟨by (with_reducible repeat (first | apply Kd.R_alloc | apply Kd.R_drewN | apply Kd.R_drew)); exact Kd.R_mono HO223.out (fun _ hk => (by simp [Value.ownBlock]))⟩, ⟨by (with_reducible repeat (first | apply Kd.R_alloc | apply Kd.R_drewN | apply Kd.R_drew)); exact HO226.out⟩, ⟨by first | exact Kd.R_nil _ _ _ _ _ | exact Kd.N_nil _ _ _ _ _ | exact Kd.V_nil _ _ _ _ _ | exact Kd.Q_nil _ _ _ _ _ | exact Kd.S_nil _ _ _ _ _⟩, ⟨by (with_reducible repeat (first | apply Kd.S_alloc | apply Kd.S_drewN | apply Kd.S_drew)); exact Kd.S_mono HO229.out (fun _ hk => ⟨hk.2, (by simp [Value.ownBlock])⟩)⟩, ⟨by repeat (first | (with_reducible first | exact HB.out | apply below_alloc | apply pw_below_drewN | apply below_drew1) | exact HB.out)⟩⟩
          case round =>
            clear H'
            try clear c1
            try clear p2
            try clear c4
            try clear p6
            try clear c7
            try clear c11
            try clear c13
            try clear c13b0
            try clear c13b1
            try clear c17
            try clear c18
            try clear c19
            try clear p2
            obtain ⟨x6_2, x7_2, x32_2, rfl, rfl, HA, HK2, HO_3, HO_4, HO_6, HO_23, HB⟩ := hrel
            cases gk with
            | zero => exact absurd HA.out (by simp [ancepslaw11_SoundRebuilt.l0])
            | succ k2 =>
              have H := HA.out
              clear HA
              simp only [ancepslaw11_SoundRebuilt.l0] at H
              by_cases c20 : x32_2 < (t227.length : Int)
              · rw [if_pos c20] at H
                have c20b0 : decide (x32_2 < (t227.length : Int)) = true := decide_eq_true c20
                clear c20
                by_cases c21 : 0 ≤ x32_2
                · rw [if_pos c21] at H
                  have c21b0 : decide (0 ≤ x32_2) = true := decide_eq_true c21
                  clear c21
                  by_cases c22 : x32_2 < (t227.length : Int)
                  · rw [if_pos c22] at H
                    have c22b0 : decide (x32_2 < (t227.length : Int)) = true := decide_eq_true c22
                    clear c22
                    by_cases c23 : x6_2.length + (rd_L3 t227 x32_2).length < 4398046511104
                    · rw [if_pos c23] at H
                      have LMc23 := Aside0.mk c23
                      clear c23
                      obtain ⟨y233, hy233⟩ : ∃ y_ : List (S23), y_ = (x6_2 ++ (rd_L3 t227 x32_2)) := ⟨_, rfl⟩
                      replace H : ((sound_Beats.f k2 (rd_L3 t227 x32_2)).bind fun t236 => (if x32_2 < (t224.length : Int) then (if (rd t224 x32_2) < 0 then (some false) else (if (rd t224 x32_2) ≥ (t221.length : Int) then (some false) else (if 0 ≤ (rd t224 x32_2) then (if (rd t224 x32_2) < (t221.length : Int) then ((sound_Nucleus.f ((rd_T23 t221 (rd t224 x32_2)).f0) ((rd_T23 t221 (rd t224 x32_2)).f1) ((rd_T23 t221 (rd t224 x32_2)).f2)).bind fun t241 => (if t241 = true then (if y233.length < 4398046511104 then (ancepslaw11_SoundRebuilt.l0 k2 t221 t224 (y233 ++ [(⟨(rd_T23 t221 (rd t224 x32_2)).f0, (rd_T23 t221 (rd t224 x32_2)).f1, (rd_T23 t221 (rd t224 x32_2)).f2⟩ : S23)]) (wrap64 (x7_2 + t236)) t227 (t227.length : Int) (wrap64 (x32_2 + 1))) else (none)) else (some false))) else (none)) else (none)))) else (ancepslaw11_SoundRebuilt.l0 k2 t221 t224 y233 (wrap64 (x7_2 + t236)) t227 (t227.length : Int) (wrap64 (x32_2 + 1))))) = some r := by first | (rw [hy233]; with_reducible exact H) | (have H2_ := (Option.bind_some _ _).symm.trans H; rw [hy233]; with_reducible exact H2_) | (have H2_ := (Option.bind_some _ _).symm.trans H; with_reducible exact H2_) | with_reducible exact H | (rw [hy233]; exact H) | exact H
                      have Ny233 := Aside0.mk hy233
                      clear hy233
                      replace H := Option.bind_eq_some_iff.mp H
                      obtain ⟨t236, A240, H⟩ := H
                      replace H : (if x32_2 < (t224.length : Int) then (if (rd t224 x32_2) < 0 then (some false) else (if (rd t224 x32_2) ≥ (t221.length : Int) then (some false) else (if 0 ≤ (rd t224 x32_2) then (if (rd t224 x32_2) < (t221.length : Int) then ((sound_Nucleus.f ((rd_T23 t221 (rd t224 x32_2)).f0) ((rd_T23 t221 (rd t224 x32_2)).f1) ((rd_T23 t221 (rd t224 x32_2)).f2)).bind fun t241 => (if t241 = true then (if y233.length < 4398046511104 then (ancepslaw11_SoundRebuilt.l0 k2 t221 t224 (y233 ++ [(⟨(rd_T23 t221 (rd t224 x32_2)).f0, (rd_T23 t221 (rd t224 x32_2)).f1, (rd_T23 t221 (rd t224 x32_2)).f2⟩ : S23)]) (wrap64 (x7_2 + t236)) t227 (t227.length : Int) (wrap64 (x32_2 + 1))) else (none)) else (some false))) else (none)) else (none)))) else (ancepslaw11_SoundRebuilt.l0 k2 t221 t224 y233 (wrap64 (x7_2 + t236)) t227 (t227.length : Int) (wrap64 (x32_2 + 1)))) = some r := H
                      have A24 := Aside0.mk A240
                      clear A240
                      by_cases c25 : x32_2 < (t224.length : Int)
                      · rw [if_pos c25] at H
                        have c25b0 : decide (x32_2 < (t224.length : Int)) = true := decide_eq_true c25
                        clear c25
                        by_cases c26 : (rd t224 x32_2) < 0
                        · rw [if_pos c26] at H
                          have c26b0 : decide ((rd t224 x32_2) < 0) = true := decide_eq_true c26
                          clear c26
                          obtain rfl := Option.some.inj H
                          have p232 : 0 ≤ (x32_2 : Int) := of_decide_eq_true (by first | (with_reducible assumption) | assumption)
                          have q232 : x32_2 < (t227.length : Int) := of_decide_eq_true (by first | (with_reducible assumption) | assumption)
                          obtain ⟨ad232, A232_0, c232_0, e232, hx232_0, hl232_0, hi232_0⟩ := at_L3 (Kd.S_reads' HO_23.out).2.2 x32_2 p232 q232
                          cases e232
                          obtain ⟨ce232, hce232, hMe232, hcc232⟩ := Kd.S_get HO_23.out [] x32_2 p232 (by first | exact q232 | exact of_decide_eq_true (by first | (with_reducible assumption) | assumption) | (have e_ := (Kd.S_reads' HO_23.out).1; omega))
                          obtain ⟨ve232_0, rfl, ge232_0⟩ := hMe232
                          have hv232_0 := hcc232 0 _ rfl
                          rw [Nat.add_zero, show ((Kd.slice 23 k23)).sz = 1 from rfl, Nat.mul_one] at hv232_0
                          replace hv232_0 := Option.some.inj (hv232_0.symm.trans hx232_0)
                          rw [hv232_0] at ge232_0
                          have HL232_0 := Aside0.mk (show Kd.R k23 23 _ _ _ _ (rd_L3 t227 x32_2) from ge232_0)
                          clear hv232_0 ge232_0
                          clear hcc232 hce232
                          have HR232_0 := Aside0.mk hi232_0
                          have HC232_0 := Aside0.mk hl232_0
                          clear hi232_0 hl232_0
                          replace p232 := eq_true p232
                          replace q232 := eq_true q232
                          go_wp2_with (first | ((with_reducible refine gate_builtin (b := .append) (xs := #[.tmp 37, .tmp 38]) rfl ?_); (try (refine gate_guard (by rfl) ?_; dsimp only)); at_builtin; refine Kd.R_append_rows k23 (w0 := w) w.heap.size rfl (.tmp 37) (.tmp 38) 26 23 (.agg #[(.int .i64 0), (.int .i64 0), (.string ⟨#[]⟩)]) 32 rfl Tryd.underlying26 info23 rfl (by decide) (by omega) u6 x6_2 (rd_L3 t227 x32_2) _ _ _ (fun k_ => some k_ ≠ (.slice Ao15 t221.length co15 : Value).ownBlock) (fun _ => False) rfl rfl ?aO ?aR (fun _ _ h => h) (fun _ h => h.elim) ?aF ?aB ?aS ?aL ?_; (case aR => repeat (first | exact (by repeat (first | (with_reducible exact HR232_0.out) | (with_reducible refine Kd.C_alloc ?_ _) | (with_reducible refine Kd.C_drewN ?_ _) | (with_reducible refine Kd.C_drew ?_) | exact HR232_0.out)) | (with_reducible refine Kd.C_alloc ?_ _) | (with_reducible refine Kd.C_drewN ?_ _) | (with_reducible refine Kd.C_drew ?_))); (case aB => exact (by repeat (first | (with_reducible first | exact HB.out | apply below_alloc | apply pw_below_drewN | apply below_drew1) | exact HB.out))); (case aF => exact (fun k_ hk => Kd.fresh' (Kd.R_lt (by (with_reducible repeat (first | apply Kd.R_alloc | apply Kd.R_drewN | apply Kd.R_drew)); exact HO_3.out)) k_ hk)); (case aO => exact (by (with_reducible repeat (first | apply Kd.R_alloc | apply Kd.R_drewN | apply Kd.R_drew)); exact HO_6.out)); (case aS => exact (below_size (by repeat (first | (with_reducible first | exact HB.out | apply below_alloc | apply pw_below_drewN | apply below_drew1) | exact HB.out)))); (case aL => have := LMc23.out; omega); intro v234 w27 ho hb hg hat; rw [← Ny233.out] at ho; have n0_ := Aside0.mk (Kd.R_after (ok := (fun _ => True)) (by (with_reducible repeat (first | apply Kd.R_alloc | apply Kd.R_drewN | apply Kd.R_drew)); exact Kd.R_mono HO_3.out (fun _ hk => ⟨trivial, hk⟩)) hg hat); have n1_ := Aside0.mk (Kd.R_over' (by (with_reducible repeat (first | apply Kd.R_alloc | apply Kd.R_drewN | apply Kd.R_drew)); exact HO_4.out) (Kd.R_typed (by (with_reducible repeat (first | apply Kd.R_alloc | apply Kd.R_drewN | apply Kd.R_drew)); exact HO_6.out)) (by decide) hg); have n2_ := Aside0.mk (Kd.S_after (ok := (fun k_ => some k_ ≠ (.slice Ao15 t221.length co15 : Value).ownBlock)) (by (with_reducible repeat (first | apply Kd.S_alloc | apply Kd.S_drewN | apply Kd.S_drew)); exact HO_23.out) hg hat); have n3_ := Aside0.mk (Kd.R_after (ok := (fun k_ => some k_ ≠ (.slice Ao15 t221.length co15 : Value).ownBlock ∧ some k_ ≠ (.slice (some ad232) t227.length co18 : Value).ownBlock)) (by (with_reducible repeat (first | apply Kd.R_alloc | apply Kd.R_drewN | apply Kd.R_drew)); exact Kd.R_mono HL232_0.out (fun _ hk => ⟨⟨hk.1.1, hk.2⟩, hk.1.2⟩)) hg hat); have n4_ := Aside0.mk (hb); have n5_ := Aside0.mk (ho); clear HO_3; clear HO_4; clear HO_23; clear HL232_0; clear HB; clear HO_6; have HO_3 := n0_; have HO_4 := n1_; have HO_23 := n2_; have HL232_0 := n3_; have HB := n4_; have HO235 := n5_; clear n0_ n1_ n2_ n3_ n4_ n5_; clear ho hb hg hat) | ((with_reducible refine gate_callee (f := 20) rfl ?_); refine goesL_ (some 42) rfl rfl Tryd.func20 (by kernel_rfl) rfl #[.slice A232_0 (rd_L3 t227 x32_2).length c232_0] rfl (by (try simp only [List.map_toArray, List.map_cons, List.map_nil]); first | done | rfl | (simp only [List.length_drop, List.length_take]; rfl)) ?_; (with_reducible refine (sound_Beats.calls k2 _ _ (rd_L3 t227 x32_2) t236 _ ?side1 ?side2 A24.out).mono ?_); (case side1 => repeat (first | exact ((Kd.R_reads' (by (with_reducible repeat (first | apply Kd.R_alloc | apply Kd.R_drewN | apply Kd.R_drew)); exact HL232_0.out)).2.2) | (with_reducible refine Kd.C_alloc ?_ _) | (with_reducible refine Kd.C_drewN ?_ _) | (with_reducible refine Kd.C_drew ?_))); (case side2 => exact HC232_0.out); rintro e w28 ⟨rfl, hb⟩; refine ⟨_, rfl, ?_⟩; have n0_ := Aside0.mk (Kd.R_below (by (with_reducible repeat (first | apply Kd.R_alloc | apply Kd.R_drewN | apply Kd.R_drew)); exact HO_3.out) hb); have n1_ := Aside0.mk (Kd.R_below (by (with_reducible repeat (first | apply Kd.R_alloc | apply Kd.R_drewN | apply Kd.R_drew)); exact HO_4.out) hb); have n2_ := Aside0.mk (Kd.S_below (by (with_reducible repeat (first | apply Kd.S_alloc | apply Kd.S_drewN | apply Kd.S_drew)); exact HO_23.out) hb); have n3_ := Aside0.mk (Kd.R_below (by (with_reducible repeat (first | apply Kd.R_alloc | apply Kd.R_drewN | apply Kd.R_drew)); exact HL232_0.out) hb); have n4_ := Aside0.mk (Kd.R_below (by (with_reducible repeat (first | apply Kd.R_alloc | apply Kd.R_drewN | apply Kd.R_drew)); exact HO235.out) hb); have n5_ := Aside0.mk (below_step (by repeat (first | (with_reducible first | exact HB.out | apply below_alloc | apply pw_below_drewN | apply below_drew1) | exact HB.out)) hb); clear HO_3; clear HO_4; clear HO_23; clear HL232_0; clear HO235; clear HB; have HO_3 := n0_; have HO_4 := n1_; have HO_23 := n2_; have HL232_0 := n3_; have HO235 := n4_; have HB := n5_; clear n0_ n1_ n2_ n3_ n4_ n5_; (try clear hb); (try clear hb2); (try clear hk); (try clear hi); have p237 : 0 ≤ (x32_2 : Int) := of_decide_eq_true (by first | (with_reducible assumption) | assumption); have q237 : x32_2 < (t224.length : Int) := of_decide_eq_true (by first | (with_reducible assumption) | assumption); obtain ⟨ad237, e237, hx237_0⟩ := Kd.at_int (Kd.R_reads' HO_4.out).2.2 x32_2 p237 q237; cases e237; replace p237 := eq_true p237; replace q237 := eq_true q237))
                          go_ret
                          exact ⟨by first | rfl | (simp [errW_none, errW_some] <;> rfl) | (simp [*, errW_none, errW_some] <;> rfl), by repeat (first | (with_reducible first | exact HB.out | apply below_alloc | apply pw_below_drewN | apply below_drew1) | exact HB.out)⟩
                        · rw [if_neg c26] at H
                          have c26b0 : decide ((rd t224 x32_2) < 0) = false := decide_eq_false c26
                          clear c26
                          by_cases c29 : (rd t224 x32_2) ≥ (t221.length : Int)
                          · rw [if_pos c29] at H
                            have c29b0 : decide ((t221.length : Int) ≤ (rd t224 x32_2)) = true := decide_eq_true c29
                            clear c29
                            obtain rfl := Option.some.inj H
                            have p232 : 0 ≤ (x32_2 : Int) := of_decide_eq_true (by first | (with_reducible assumption) | assumption)
                            have q232 : x32_2 < (t227.length : Int) := of_decide_eq_true (by first | (with_reducible assumption) | assumption)
                            obtain ⟨ad232, A232_0, c232_0, e232, hx232_0, hl232_0, hi232_0⟩ := at_L3 (Kd.S_reads' HO_23.out).2.2 x32_2 p232 q232
                            cases e232
                            obtain ⟨ce232, hce232, hMe232, hcc232⟩ := Kd.S_get HO_23.out [] x32_2 p232 (by first | exact q232 | exact of_decide_eq_true (by first | (with_reducible assumption) | assumption) | (have e_ := (Kd.S_reads' HO_23.out).1; omega))
                            obtain ⟨ve232_0, rfl, ge232_0⟩ := hMe232
                            have hv232_0 := hcc232 0 _ rfl
                            rw [Nat.add_zero, show ((Kd.slice 23 k23)).sz = 1 from rfl, Nat.mul_one] at hv232_0
                            replace hv232_0 := Option.some.inj (hv232_0.symm.trans hx232_0)
                            rw [hv232_0] at ge232_0
                            have HL232_0 := Aside0.mk (show Kd.R k23 23 _ _ _ _ (rd_L3 t227 x32_2) from ge232_0)
                            clear hv232_0 ge232_0
                            clear hcc232 hce232
                            have HR232_0 := Aside0.mk hi232_0
                            have HC232_0 := Aside0.mk hl232_0
                            clear hi232_0 hl232_0
                            replace p232 := eq_true p232
                            replace q232 := eq_true q232
                            go_wp2_with (first | ((with_reducible refine gate_builtin (b := .append) (xs := #[.tmp 37, .tmp 38]) rfl ?_); (try (refine gate_guard (by rfl) ?_; dsimp only)); at_builtin; refine Kd.R_append_rows k23 (w0 := w) w.heap.size rfl (.tmp 37) (.tmp 38) 26 23 (.agg #[(.int .i64 0), (.int .i64 0), (.string ⟨#[]⟩)]) 32 rfl Tryd.underlying26 info23 rfl (by decide) (by omega) u6 x6_2 (rd_L3 t227 x32_2) _ _ _ (fun k_ => some k_ ≠ (.slice Ao15 t221.length co15 : Value).ownBlock) (fun _ => False) rfl rfl ?aO ?aR (fun _ _ h => h) (fun _ h => h.elim) ?aF ?aB ?aS ?aL ?_; (case aR => repeat (first | exact (by repeat (first | (with_reducible exact HR232_0.out) | (with_reducible refine Kd.C_alloc ?_ _) | (with_reducible refine Kd.C_drewN ?_ _) | (with_reducible refine Kd.C_drew ?_) | exact HR232_0.out)) | (with_reducible refine Kd.C_alloc ?_ _) | (with_reducible refine Kd.C_drewN ?_ _) | (with_reducible refine Kd.C_drew ?_))); (case aB => exact (by repeat (first | (with_reducible first | exact HB.out | apply below_alloc | apply pw_below_drewN | apply below_drew1) | exact HB.out))); (case aF => exact (fun k_ hk => Kd.fresh' (Kd.R_lt (by (with_reducible repeat (first | apply Kd.R_alloc | apply Kd.R_drewN | apply Kd.R_drew)); exact HO_3.out)) k_ hk)); (case aO => exact (by (with_reducible repeat (first | apply Kd.R_alloc | apply Kd.R_drewN | apply Kd.R_drew)); exact HO_6.out)); (case aS => exact (below_size (by repeat (first | (with_reducible first | exact HB.out | apply below_alloc | apply pw_below_drewN | apply below_drew1) | exact HB.out)))); (case aL => have := LMc23.out; omega); intro v234 w30 ho hb hg hat; rw [← Ny233.out] at ho; have n0_ := Aside0.mk (Kd.R_after (ok := (fun _ => True)) (by (with_reducible repeat (first | apply Kd.R_alloc | apply Kd.R_drewN | apply Kd.R_drew)); exact Kd.R_mono HO_3.out (fun _ hk => ⟨trivial, hk⟩)) hg hat); have n1_ := Aside0.mk (Kd.R_over' (by (with_reducible repeat (first | apply Kd.R_alloc | apply Kd.R_drewN | apply Kd.R_drew)); exact HO_4.out) (Kd.R_typed (by (with_reducible repeat (first | apply Kd.R_alloc | apply Kd.R_drewN | apply Kd.R_drew)); exact HO_6.out)) (by decide) hg); have n2_ := Aside0.mk (Kd.S_after (ok := (fun k_ => some k_ ≠ (.slice Ao15 t221.length co15 : Value).ownBlock)) (by (with_reducible repeat (first | apply Kd.S_alloc | apply Kd.S_drewN | apply Kd.S_drew)); exact HO_23.out) hg hat); have n3_ := Aside0.mk (Kd.R_after (ok := (fun k_ => some k_ ≠ (.slice Ao15 t221.length co15 : Value).ownBlock ∧ some k_ ≠ (.slice (some ad232) t227.length co18 : Value).ownBlock)) (by (with_reducible repeat (first | apply Kd.R_alloc | apply Kd.R_drewN | apply Kd.R_drew)); exact Kd.R_mono HL232_0.out (fun _ hk => ⟨⟨hk.1.1, hk.2⟩, hk.1.2⟩)) hg hat); have n4_ := Aside0.mk (hb); have n5_ := Aside0.mk (ho); clear HO_3; clear HO_4; clear HO_23; clear HL232_0; clear HB; clear HO_6; have HO_3 := n0_; have HO_4 := n1_; have HO_23 := n2_; have HL232_0 := n3_; have HB := n4_; have HO235 := n5_; clear n0_ n1_ n2_ n3_ n4_ n5_; clear ho hb hg hat) | ((with_reducible refine gate_callee (f := 20) rfl ?_); refine goesL_ (some 42) rfl rfl Tryd.func20 (by kernel_rfl) rfl #[.slice A232_0 (rd_L3 t227 x32_2).length c232_0] rfl (by (try simp only [List.map_toArray, List.map_cons, List.map_nil]); first | done | rfl | (simp only [List.length_drop, List.length_take]; rfl)) ?_; (with_reducible refine (sound_Beats.calls k2 _ _ (rd_L3 t227 x32_2) t236 _ ?side1 ?side2 A24.out).mono ?_); (case side1 => repeat (first | exact ((Kd.R_reads' (by (with_reducible repeat (first | apply Kd.R_alloc | apply Kd.R_drewN | apply Kd.R_drew)); exact HL232_0.out)).2.2) | (with_reducible refine Kd.C_alloc ?_ _) | (with_reducible refine Kd.C_drewN ?_ _) | (with_reducible refine Kd.C_drew ?_))); (case side2 => exact HC232_0.out); rintro e w31 ⟨rfl, hb⟩; refine ⟨_, rfl, ?_⟩; have n0_ := Aside0.mk (Kd.R_below (by (with_reducible repeat (first | apply Kd.R_alloc | apply Kd.R_drewN | apply Kd.R_drew)); exact HO_3.out) hb); have n1_ := Aside0.mk (Kd.R_below (by (with_reducible repeat (first | apply Kd.R_alloc | apply Kd.R_drewN | apply Kd.R_drew)); exact HO_4.out) hb); have n2_ := Aside0.mk (Kd.S_below (by (with_reducible repeat (first | apply Kd.S_alloc | apply Kd.S_drewN | apply Kd.S_drew)); exact HO_23.out) hb); have n3_ := Aside0.mk (Kd.R_below (by (with_reducible repeat (first | apply Kd.R_alloc | apply Kd.R_drewN | apply Kd.R_drew)); exact HL232_0.out) hb); have n4_ := Aside0.mk (Kd.R_below (by (with_reducible repeat (first | apply Kd.R_alloc | apply Kd.R_drewN | apply Kd.R_drew)); exact HO235.out) hb); have n5_ := Aside0.mk (below_step (by repeat (first | (with_reducible first | exact HB.out | apply below_alloc | apply pw_below_drewN | apply below_drew1) | exact HB.out)) hb); clear HO_3; clear HO_4; clear HO_23; clear HL232_0; clear HO235; clear HB; have HO_3 := n0_; have HO_4 := n1_; have HO_23 := n2_; have HL232_0 := n3_; have HO235 := n4_; have HB := n5_; clear n0_ n1_ n2_ n3_ n4_ n5_; (try clear hb); (try clear hb2); (try clear hk); (try clear hi); have p237 : 0 ≤ (x32_2 : Int) := of_decide_eq_true (by first | (with_reducible assumption) | assumption); have q237 : x32_2 < (t224.length : Int) := of_decide_eq_true (by first | (with_reducible assumption) | assumption); obtain ⟨ad237, e237, hx237_0⟩ := Kd.at_int (Kd.R_reads' HO_4.out).2.2 x32_2 p237 q237; cases e237; replace p237 := eq_true p237; replace q237 := eq_true q237; have p238 : 0 ≤ (x32_2 : Int) := of_decide_eq_true (by first | (with_reducible assumption) | assumption); have q238 : x32_2 < (t224.length : Int) := of_decide_eq_true (by first | (with_reducible assumption) | assumption); obtain ⟨ad238, e238, hx238_0⟩ := Kd.at_int (Kd.R_reads' HO_4.out).2.2 x32_2 p238 q238; obtain rfl : ad237 = ad238 := (by injection e238); replace p238 := eq_true p238; replace q238 := eq_true q238))
                            go_ret
                            exact ⟨by first | rfl | (simp [errW_none, errW_some] <;> rfl) | (simp [*, errW_none, errW_some] <;> rfl), by repeat (first | (with_reducible first | exact HB.out | apply below_alloc | apply pw_below_drewN | apply below_drew1) | exact HB.out)⟩
                          · rw [if_neg c29] at H
                            have c29b0 : decide ((t221.length : Int) ≤ (rd t224 x32_2)) = false := decide_eq_false c29
                            clear c29
                            by_cases c32 : 0 ≤ (rd t224 x32_2)
                            · rw [if_pos c32] at H
                              have c32b0 : decide (0 ≤ (rd t224 x32_2)) = true := decide_eq_true c32
                              clear c32
                              by_cases c33 : (rd t224 x32_2) < (t221.length : Int)
                              · rw [if_pos c33] at H
                                have c33b0 : decide ((rd t224 x32_2) < (t221.length : Int)) = true := decide_eq_true c33
                                clear c33
                                replace H := Option.bind_eq_some_iff.mp H
                                obtain ⟨t241, A340, H⟩ := H
                                replace H : (if t241 = true then (if y233.length < 4398046511104 then (ancepslaw11_SoundRebuilt.l0 k2 t221 t224 (y233 ++ [(⟨(rd_T23 t221 (rd t224 x32_2)).f0, (rd_T23 t221 (rd t224 x32_2)).f1, (rd_T23 t221 (rd t224 x32_2)).f2⟩ : S23)]) (wrap64 (x7_2 + t236)) t227 (t227.length : Int) (wrap64 (x32_2 + 1))) else (none)) else (some false)) = some r := H
                                have A34 := Aside0.mk A340
                                clear A340
                                by_cases c35 : t241 = true
                                · subst c35
                                  have H1 : (if y233.length < 4398046511104 then (ancepslaw11_SoundRebuilt.l0 k2 t221 t224 (y233 ++ [(⟨(rd_T23 t221 (rd t224 x32_2)).f0, (rd_T23 t221 (rd t224 x32_2)).f1, (rd_T23 t221 (rd t224 x32_2)).f2⟩ : S23)]) (wrap64 (x7_2 + t236)) t227 (t227.length : Int) (wrap64 (x32_2 + 1))) else (none)) = some r := by rw [if_pos rfl] at H; exact H
                                  clear H
                                  have H := H1
                                  clear H1
                                  by_cases c36 : y233.length < 4398046511104
                                  · rw [if_pos c36] at H
                                    have LMc36 := Aside0.mk c36
                                    clear c36
                                    obtain ⟨y244, hy244⟩ : ∃ y_ : List (S23), y_ = (y233 ++ [(⟨(rd_T23 t221 (rd t224 x32_2)).f0, (rd_T23 t221 (rd t224 x32_2)).f1, (rd_T23 t221 (rd t224 x32_2)).f2⟩ : S23)]) := ⟨_, rfl⟩
                                    replace H : (ancepslaw11_SoundRebuilt.l0 k2 t221 t224 y244 (wrap64 (x7_2 + t236)) t227 (t227.length : Int) (wrap64 (x32_2 + 1))) = some r := by first | (rw [hy244]; with_reducible exact H) | (have H2_ := (Option.bind_some _ _).symm.trans H; rw [hy244]; with_reducible exact H2_) | (have H2_ := (Option.bind_some _ _).symm.trans H; with_reducible exact H2_) | with_reducible exact H | (rw [hy244]; exact H) | exact H
                                    have Ny244 := Aside0.mk hy244
                                    clear hy244
                                    have H' := Aside0.mk H
                                    clear H
                                    have p232 : 0 ≤ (x32_2 : Int) := of_decide_eq_true (by first | (with_reducible assumption) | assumption)
                                    have q232 : x32_2 < (t227.length : Int) := of_decide_eq_true (by first | (with_reducible assumption) | assumption)
                                    obtain ⟨ad232, A232_0, c232_0, e232, hx232_0, hl232_0, hi232_0⟩ := at_L3 (Kd.S_reads' HO_23.out).2.2 x32_2 p232 q232
                                    cases e232
                                    obtain ⟨ce232, hce232, hMe232, hcc232⟩ := Kd.S_get HO_23.out [] x32_2 p232 (by first | exact q232 | exact of_decide_eq_true (by first | (with_reducible assumption) | assumption) | (have e_ := (Kd.S_reads' HO_23.out).1; omega))
                                    obtain ⟨ve232_0, rfl, ge232_0⟩ := hMe232
                                    have hv232_0 := hcc232 0 _ rfl
                                    rw [Nat.add_zero, show ((Kd.slice 23 k23)).sz = 1 from rfl, Nat.mul_one] at hv232_0
                                    replace hv232_0 := Option.some.inj (hv232_0.symm.trans hx232_0)
                                    rw [hv232_0] at ge232_0
                                    have HL232_0 := Aside0.mk (show Kd.R k23 23 _ _ _ _ (rd_L3 t227 x32_2) from ge232_0)
                                    clear hv232_0 ge232_0
                                    clear hcc232 hce232
                                    have HR232_0 := Aside0.mk hi232_0
                                    have HC232_0 := Aside0.mk hl232_0
                                    clear hi232_0 hl232_0
                                    replace p232 := eq_true p232
                                    replace q232 := eq_true q232
                                    go_wp2_with (first | ((with_reducible refine gate_builtin (b := .append) (xs := #[.tmp 37, .tmp 38]) rfl ?_); (try (refine gate_guard (by rfl) ?_; dsimp only)); at_builtin; refine Kd.R_append_rows k23 (w0 := w) w.heap.size rfl (.tmp 37) (.tmp 38) 26 23 (.agg #[(.int .i64 0), (.int .i64 0), (.string ⟨#[]⟩)]) 32 rfl Tryd.underlying26 info23 rfl (by decide) (by omega) u6 x6_2 (rd_L3 t227 x32_2) _ _ _ (fun k_ => some k_ ≠ (.slice Ao15 t221.length co15 : Value).ownBlock) (fun _ => False) rfl rfl ?aO ?aR (fun _ _ h => h) (fun _ h => h.elim) ?aF ?aB ?aS ?aL ?_; (case aR => repeat (first | exact (by repeat (first | (with_reducible exact HR232_0.out) | (with_reducible refine Kd.C_alloc ?_ _) | (with_reducible refine Kd.C_drewN ?_ _) | (with_reducible refine Kd.C_drew ?_) | exact HR232_0.out)) | (with_reducible refine Kd.C_alloc ?_ _) | (with_reducible refine Kd.C_drewN ?_ _) | (with_reducible refine Kd.C_drew ?_))); (case aB => exact (by repeat (first | (with_reducible first | exact HB.out | apply below_alloc | apply pw_below_drewN | apply below_drew1) | exact HB.out))); (case aF => exact (fun k_ hk => Kd.fresh' (Kd.R_lt (by (with_reducible repeat (first | apply Kd.R_alloc | apply Kd.R_drewN | apply Kd.R_drew)); exact HO_3.out)) k_ hk)); (case aO => exact (by (with_reducible repeat (first | apply Kd.R_alloc | apply Kd.R_drewN | apply Kd.R_drew)); exact HO_6.out)); (case aS => exact (below_size (by repeat (first | (with_reducible first | exact HB.out | apply below_alloc | apply pw_below_drewN | apply below_drew1) | exact HB.out)))); (case aL => have := LMc23.out; omega); intro v234 w37 ho hb hg hat; rw [← Ny233.out] at ho; have n0_ := Aside0.mk (Kd.R_after (ok := (fun _ => True)) (by (with_reducible repeat (first | apply Kd.R_alloc | apply Kd.R_drewN | apply Kd.R_drew)); exact Kd.R_mono HO_3.out (fun _ hk => ⟨trivial, hk⟩)) hg hat); have n1_ := Aside0.mk (Kd.R_over' (by (with_reducible repeat (first | apply Kd.R_alloc | apply Kd.R_drewN | apply Kd.R_drew)); exact HO_4.out) (Kd.R_typed (by (with_reducible repeat (first | apply Kd.R_alloc | apply Kd.R_drewN | apply Kd.R_drew)); exact HO_6.out)) (by decide) hg); have n2_ := Aside0.mk (Kd.S_after (ok := (fun k_ => some k_ ≠ (.slice Ao15 t221.length co15 : Value).ownBlock)) (by (with_reducible repeat (first | apply Kd.S_alloc | apply Kd.S_drewN | apply Kd.S_drew)); exact HO_23.out) hg hat); have n3_ := Aside0.mk (Kd.R_after (ok := (fun k_ => some k_ ≠ (.slice Ao15 t221.length co15 : Value).ownBlock ∧ some k_ ≠ (.slice (some ad232) t227.length co18 : Value).ownBlock)) (by (with_reducible repeat (first | apply Kd.R_alloc | apply Kd.R_drewN | apply Kd.R_drew)); exact Kd.R_mono HL232_0.out (fun _ hk => ⟨⟨hk.1.1, hk.2⟩, hk.1.2⟩)) hg hat); have n4_ := Aside0.mk (hb); have n5_ := Aside0.mk (ho); clear HO_3; clear HO_4; clear HO_23; clear HL232_0; clear HB; clear HO_6; have HO_3 := n0_; have HO_4 := n1_; have HO_23 := n2_; have HL232_0 := n3_; have HB := n4_; have HO235 := n5_; clear n0_ n1_ n2_ n3_ n4_ n5_; clear ho hb hg hat) | ((with_reducible refine gate_callee (f := 20) rfl ?_); refine goesL_ (some 42) rfl rfl Tryd.func20 (by kernel_rfl) rfl #[.slice A232_0 (rd_L3 t227 x32_2).length c232_0] rfl (by (try simp only [List.map_toArray, List.map_cons, List.map_nil]); first | done | rfl | (simp only [List.length_drop, List.length_take]; rfl)) ?_; (with_reducible refine (sound_Beats.calls k2 _ _ (rd_L3 t227 x32_2) t236 _ ?side1 ?side2 A24.out).mono ?_); (case side1 => repeat (first | exact ((Kd.R_reads' (by (with_reducible repeat (first | apply Kd.R_alloc | apply Kd.R_drewN | apply Kd.R_drew)); exact HL232_0.out)).2.2) | (with_reducible refine Kd.C_alloc ?_ _) | (with_reducible refine Kd.C_drewN ?_ _) | (with_reducible refine Kd.C_drew ?_))); (case side2 => exact HC232_0.out); rintro e w38 ⟨rfl, hb⟩; refine ⟨_, rfl, ?_⟩; have n0_ := Aside0.mk (Kd.R_below (by (with_reducible repeat (first | apply Kd.R_alloc | apply Kd.R_drewN | apply Kd.R_drew)); exact HO_3.out) hb); have n1_ := Aside0.mk (Kd.R_below (by (with_reducible repeat (first | apply Kd.R_alloc | apply Kd.R_drewN | apply Kd.R_drew)); exact HO_4.out) hb); have n2_ := Aside0.mk (Kd.S_below (by (with_reducible repeat (first | apply Kd.S_alloc | apply Kd.S_drewN | apply Kd.S_drew)); exact HO_23.out) hb); have n3_ := Aside0.mk (Kd.R_below (by (with_reducible repeat (first | apply Kd.R_alloc | apply Kd.R_drewN | apply Kd.R_drew)); exact HL232_0.out) hb); have n4_ := Aside0.mk (Kd.R_below (by (with_reducible repeat (first | apply Kd.R_alloc | apply Kd.R_drewN | apply Kd.R_drew)); exact HO235.out) hb); have n5_ := Aside0.mk (below_step (by repeat (first | (with_reducible first | exact HB.out | apply below_alloc | apply pw_below_drewN | apply below_drew1) | exact HB.out)) hb); clear HO_3; clear HO_4; clear HO_23; clear HL232_0; clear HO235; clear HB; have HO_3 := n0_; have HO_4 := n1_; have HO_23 := n2_; have HL232_0 := n3_; have HO235 := n4_; have HB := n5_; clear n0_ n1_ n2_ n3_ n4_ n5_; (try clear hb); (try clear hb2); (try clear hk); (try clear hi); have p237 : 0 ≤ (x32_2 : Int) := of_decide_eq_true (by first | (with_reducible assumption) | assumption); have q237 : x32_2 < (t224.length : Int) := of_decide_eq_true (by first | (with_reducible assumption) | assumption); obtain ⟨ad237, e237, hx237_0⟩ := Kd.at_int (Kd.R_reads' HO_4.out).2.2 x32_2 p237 q237; cases e237; replace p237 := eq_true p237; replace q237 := eq_true q237; have p238 : 0 ≤ (x32_2 : Int) := of_decide_eq_true (by first | (with_reducible assumption) | assumption); have q238 : x32_2 < (t224.length : Int) := of_decide_eq_true (by first | (with_reducible assumption) | assumption); obtain ⟨ad238, e238, hx238_0⟩ := Kd.at_int (Kd.R_reads' HO_4.out).2.2 x32_2 p238 q238; obtain rfl : ad237 = ad238 := (by injection e238); replace p238 := eq_true p238; replace q238 := eq_true q238; have p239 : 0 ≤ (x32_2 : Int) := of_decide_eq_true (by first | (with_reducible assumption) | assumption); have q239 : x32_2 < (t224.length : Int) := of_decide_eq_true (by first | (with_reducible assumption) | assumption); obtain ⟨ad239, e239, hx239_0⟩ := Kd.at_int (Kd.R_reads' HO_4.out).2.2 x32_2 p239 q239; obtain rfl : ad237 = ad239 := (by injection e239); replace p239 := eq_true p239; replace q239 := eq_true q239; have p240 : 0 ≤ ((rd t224 x32_2) : Int) := of_decide_eq_true (by first | (with_reducible assumption) | assumption); have q240 : (rd t224 x32_2) < (t221.length : Int) := of_decide_eq_true (by first | (with_reducible assumption) | assumption); obtain ⟨ad240, e240, hx240_0, hx240_1, hx240_2⟩ := at_T23 (Kd.R_reads' HO_3.out).2.2 (rd t224 x32_2) p240 q240; cases e240; replace p240 := eq_true p240; replace q240 := eq_true q240) | (go_at_call 15; (with_reducible refine (sound_Nucleus.calls ((rd_T23 t221 (rd t224 x32_2)).f0) ((rd_T23 t221 (rd t224 x32_2)).f1) ((rd_T23 t221 (rd t224 x32_2)).f2) true _ A34.out).mono ?_); rintro e w39 ⟨rfl, hb⟩; have n0_ := Aside0.mk (Kd.R_below (by (with_reducible repeat (first | apply Kd.R_alloc | apply Kd.R_drewN | apply Kd.R_drew)); exact HO_3.out) hb); have n1_ := Aside0.mk (Kd.R_below (by (with_reducible repeat (first | apply Kd.R_alloc | apply Kd.R_drewN | apply Kd.R_drew)); exact HO_4.out) hb); have n2_ := Aside0.mk (Kd.S_below (by (with_reducible repeat (first | apply Kd.S_alloc | apply Kd.S_drewN | apply Kd.S_drew)); exact HO_23.out) hb); have n3_ := Aside0.mk (Kd.R_below (by (with_reducible repeat (first | apply Kd.R_alloc | apply Kd.R_drewN | apply Kd.R_drew)); exact HL232_0.out) hb); have n4_ := Aside0.mk (Kd.R_below (by (with_reducible repeat (first | apply Kd.R_alloc | apply Kd.R_drewN | apply Kd.R_drew)); exact HO235.out) hb); have n5_ := Aside0.mk (below_step (by repeat (first | (with_reducible first | exact HB.out | apply below_alloc | apply pw_below_drewN | apply below_drew1) | exact HB.out)) hb); clear HO_3; clear HO_4; clear HO_23; clear HL232_0; clear HO235; clear HB; have HO_3 := n0_; have HO_4 := n1_; have HO_23 := n2_; have HL232_0 := n3_; have HO235 := n4_; have HB := n5_; clear n0_ n1_ n2_ n3_ n4_ n5_; (try clear hb); (try clear hb2); (try clear hk); (try clear hi); have p242 : 0 ≤ (x32_2 : Int) := of_decide_eq_true (by first | (with_reducible assumption) | assumption); have q242 : x32_2 < (t224.length : Int) := of_decide_eq_true (by first | (with_reducible assumption) | assumption); obtain ⟨ad242, e242, hx242_0⟩ := Kd.at_int (Kd.R_reads' HO_4.out).2.2 x32_2 p242 q242; obtain rfl : ad237 = ad242 := (by injection e242); replace p242 := eq_true p242; replace q242 := eq_true q242; have p243 : 0 ≤ ((rd t224 x32_2) : Int) := of_decide_eq_true (by first | (with_reducible assumption) | assumption); have q243 : (rd t224 x32_2) < (t221.length : Int) := of_decide_eq_true (by first | (with_reducible assumption) | assumption); obtain ⟨ad243, e243, hx243_0, hx243_1, hx243_2⟩ := at_T23 (Kd.R_reads' HO_3.out).2.2 (rd t224 x32_2) p243 q243; obtain rfl : ad240 = ad243 := (by injection e243); replace p243 := eq_true p243; replace q243 := eq_true q243) | ((with_reducible refine gate_builtin (b := .append) (xs := #[.tmp 73, .tmp 81]) rfl ?_); (try (refine gate_guard (by rfl) ?_; dsimp only)); at_builtin; refine Kd.R_append k23 (w0 := w) w.heap.size rfl (.tmp 73) (.tmp 81) 26 23 (.agg #[(.int .i64 0), (.int .i64 0), (.string ⟨#[]⟩)]) 32 rfl Tryd.underlying26 info23 rfl (by decide) (by omega) v234 y233 (⟨(rd_T23 t221 (rd t224 x32_2)).f0, (rd_T23 t221 (rd t224 x32_2)).f1, (rd_T23 t221 (rd t224 x32_2)).f2⟩ : S23) [.int .i64 ((rd_T23 t221 (rd t224 x32_2)).f0), .int .i64 ((rd_T23 t221 (rd t224 x32_2)).f1), .string ((rd_T23 t221 (rd t224 x32_2)).f2)] (fun k_ => some k_ ≠ (.slice (some ad240) t221.length co15 : Value).ownBlock) (fun _ => False) rfl rfl ?aP (fun _ hk => hk.elim) ?aF ?aO ?aB ?aS ?aL ?_; (case aP => exact k23_mkM _ _ _ (⟨(rd_T23 t221 (rd t224 x32_2)).f0, (rd_T23 t221 (rd t224 x32_2)).f1, (rd_T23 t221 (rd t224 x32_2)).f2⟩ : S23)); (case aB => exact (by repeat (first | (with_reducible first | exact HB.out | apply below_alloc | apply pw_below_drewN | apply below_drew1) | exact HB.out))); (case aF => exact (fun k_ hk => Kd.fresh' (Kd.R_lt (by (with_reducible repeat (first | apply Kd.R_alloc | apply Kd.R_drewN | apply Kd.R_drew)); exact HO_3.out)) k_ hk)); (case aO => exact (by (with_reducible repeat (first | apply Kd.R_alloc | apply Kd.R_drewN | apply Kd.R_drew)); exact HO235.out)); (case aS => exact (below_size (by repeat (first | (with_reducible first | exact HB.out | apply below_alloc | apply pw_below_drewN | apply below_drew1) | exact HB.out)))); (case aL => have := LMc36.out; omega); intro v245 w40 ho hb hg hat; rw [← Ny244.out] at ho; have n0_ := Aside0.mk (Kd.R_after (ok := (fun _ => True)) (by (with_reducible repeat (first | apply Kd.R_alloc | apply Kd.R_drewN | apply Kd.R_drew)); exact HO_3.out) hg hat); have n1_ := Aside0.mk (Kd.R_over' (by (with_reducible repeat (first | apply Kd.R_alloc | apply Kd.R_drewN | apply Kd.R_drew)); exact HO_4.out) (Kd.R_typed (by (with_reducible repeat (first | apply Kd.R_alloc | apply Kd.R_drewN | apply Kd.R_drew)); exact HO235.out)) (by decide) hg); have n2_ := Aside0.mk (Kd.S_after (ok := (fun k_ => some k_ ≠ (.slice (some ad240) t221.length co15 : Value).ownBlock)) (by (with_reducible repeat (first | apply Kd.S_alloc | apply Kd.S_drewN | apply Kd.S_drew)); exact HO_23.out) hg hat); have n3_ := Aside0.mk (Kd.R_after (ok := (fun k_ => some k_ ≠ (.slice (some ad240) t221.length co15 : Value).ownBlock ∧ some k_ ≠ (.slice (some ad232) t227.length co18 : Value).ownBlock)) (by (with_reducible repeat (first | apply Kd.R_alloc | apply Kd.R_drewN | apply Kd.R_drew)); exact HL232_0.out) hg hat); have n4_ := Aside0.mk (hb); have n5_ := Aside0.mk (ho); clear HO_3; clear HO_4; clear HO_23; clear HL232_0; clear HB; clear HO235; have HO_3 := n0_; have HO_4 := n1_; have HO_23 := n2_; have HL232_0 := n3_; have HB := n4_; have HO246 := n5_; clear n0_ n1_ n2_ n3_ n4_ n5_; clear ho hb hg hat))
                                    go_roundg k2
                                    case measure => have := HJ1.out; have := HK2.out; omega
                                    case rel => exact ⟨(y244), (wrap64 (x7_2 + t236)), (wrap64 (x32_2 + 1)), (by first | rfl | (simp; done) | (simp [*]; done)), (by first | rfl | (simp; done) | (simp [*]; done)), H', ⟨by have := HJ1.out; have := HK2.out; omega⟩, ⟨by (with_reducible repeat (first | apply Kd.R_alloc | apply Kd.R_drewN | apply Kd.R_drew)); exact Kd.R_mono HO_3.out (fun _ hk => hk.2)⟩, ⟨by (with_reducible repeat (first | apply Kd.R_alloc | apply Kd.R_drewN | apply Kd.R_drew)); exact HO_4.out⟩, ⟨by (with_reducible repeat (first | apply Kd.R_alloc | apply Kd.R_drewN | apply Kd.R_drew)); exact HO246.out⟩, ⟨by (with_reducible repeat (first | apply Kd.S_alloc | apply Kd.S_drewN | apply Kd.S_drew)); exact HO_23.out⟩, ⟨by repeat (first | (with_reducible first | exact HB.out | apply below_alloc | apply pw_below_drewN | apply below_drew1) | exact HB.out)⟩⟩
                                  · rw [if_neg c36] at H
                                    exact absurd H (by simp)
                                · replace c35 := Bool.eq_false_iff.mpr c35
                                  subst c35
                                  have H1 : (some false) = some r := by rw [if_neg (show ¬ (false = true) by decide)] at H; exact H
                                  clear H
                                  have H := H1
                                  clear H1
                                  obtain rfl := Option.some.inj H
                                  have p232 : 0 ≤ (x32_2 : Int) := of_decide_eq_true (by first | (with_reducible assumption) | assumption)
                                  have q232 : x32_2 < (t227.length : Int) := of_decide_eq_true (by first | (with_reducible assumption) | assumption)
                                  obtain ⟨ad232, A232_0, c232_0, e232, hx232_0, hl232_0, hi232_0⟩ := at_L3 (Kd.S_reads' HO_23.out).2.2 x32_2 p232 q232
                                  cases e232
                                  obtain ⟨ce232, hce232, hMe232, hcc232⟩ := Kd.S_get HO_23.out [] x32_2 p232 (by first | exact q232 | exact of_decide_eq_true (by first | (with_reducible assumption) | assumption) | (have e_ := (Kd.S_reads' HO_23.out).1; omega))
                                  obtain ⟨ve232_0, rfl, ge232_0⟩ := hMe232
                                  have hv232_0 := hcc232 0 _ rfl
                                  rw [Nat.add_zero, show ((Kd.slice 23 k23)).sz = 1 from rfl, Nat.mul_one] at hv232_0
                                  replace hv232_0 := Option.some.inj (hv232_0.symm.trans hx232_0)
                                  rw [hv232_0] at ge232_0
                                  have HL232_0 := Aside0.mk (show Kd.R k23 23 _ _ _ _ (rd_L3 t227 x32_2) from ge232_0)
                                  clear hv232_0 ge232_0
                                  clear hcc232 hce232
                                  have HR232_0 := Aside0.mk hi232_0
                                  have HC232_0 := Aside0.mk hl232_0
                                  clear hi232_0 hl232_0
                                  replace p232 := eq_true p232
                                  replace q232 := eq_true q232
                                  go_wp2_with (first | ((with_reducible refine gate_builtin (b := .append) (xs := #[.tmp 37, .tmp 38]) rfl ?_); (try (refine gate_guard (by rfl) ?_; dsimp only)); at_builtin; refine Kd.R_append_rows k23 (w0 := w) w.heap.size rfl (.tmp 37) (.tmp 38) 26 23 (.agg #[(.int .i64 0), (.int .i64 0), (.string ⟨#[]⟩)]) 32 rfl Tryd.underlying26 info23 rfl (by decide) (by omega) u6 x6_2 (rd_L3 t227 x32_2) _ _ _ (fun k_ => some k_ ≠ (.slice Ao15 t221.length co15 : Value).ownBlock) (fun _ => False) rfl rfl ?aO ?aR (fun _ _ h => h) (fun _ h => h.elim) ?aF ?aB ?aS ?aL ?_; (case aR => repeat (first | exact (by repeat (first | (with_reducible exact HR232_0.out) | (with_reducible refine Kd.C_alloc ?_ _) | (with_reducible refine Kd.C_drewN ?_ _) | (with_reducible refine Kd.C_drew ?_) | exact HR232_0.out)) | (with_reducible refine Kd.C_alloc ?_ _) | (with_reducible refine Kd.C_drewN ?_ _) | (with_reducible refine Kd.C_drew ?_))); (case aB => exact (by repeat (first | (with_reducible first | exact HB.out | apply below_alloc | apply pw_below_drewN | apply below_drew1) | exact HB.out))); (case aF => exact (fun k_ hk => Kd.fresh' (Kd.R_lt (by (with_reducible repeat (first | apply Kd.R_alloc | apply Kd.R_drewN | apply Kd.R_drew)); exact HO_3.out)) k_ hk)); (case aO => exact (by (with_reducible repeat (first | apply Kd.R_alloc | apply Kd.R_drewN | apply Kd.R_drew)); exact HO_6.out)); (case aS => exact (below_size (by repeat (first | (with_reducible first | exact HB.out | apply below_alloc | apply pw_below_drewN | apply below_drew1) | exact HB.out)))); (case aL => have := LMc23.out; omega); intro v234 w41 ho hb hg hat; rw [← Ny233.out] at ho; have n0_ := Aside0.mk (Kd.R_after (ok := (fun _ => True)) (by (with_reducible repeat (first | apply Kd.R_alloc | apply Kd.R_drewN | apply Kd.R_drew)); exact Kd.R_mono HO_3.out (fun _ hk => ⟨trivial, hk⟩)) hg hat); have n1_ := Aside0.mk (Kd.R_over' (by (with_reducible repeat (first | apply Kd.R_alloc | apply Kd.R_drewN | apply Kd.R_drew)); exact HO_4.out) (Kd.R_typed (by (with_reducible repeat (first | apply Kd.R_alloc | apply Kd.R_drewN | apply Kd.R_drew)); exact HO_6.out)) (by decide) hg); have n2_ := Aside0.mk (Kd.S_after (ok := (fun k_ => some k_ ≠ (.slice Ao15 t221.length co15 : Value).ownBlock)) (by (with_reducible repeat (first | apply Kd.S_alloc | apply Kd.S_drewN | apply Kd.S_drew)); exact HO_23.out) hg hat); have n3_ := Aside0.mk (Kd.R_after (ok := (fun k_ => some k_ ≠ (.slice Ao15 t221.length co15 : Value).ownBlock ∧ some k_ ≠ (.slice (some ad232) t227.length co18 : Value).ownBlock)) (by (with_reducible repeat (first | apply Kd.R_alloc | apply Kd.R_drewN | apply Kd.R_drew)); exact Kd.R_mono HL232_0.out (fun _ hk => ⟨⟨hk.1.1, hk.2⟩, hk.1.2⟩)) hg hat); have n4_ := Aside0.mk (hb); have n5_ := Aside0.mk (ho); clear HO_3; clear HO_4; clear HO_23; clear HL232_0; clear HB; clear HO_6; have HO_3 := n0_; have HO_4 := n1_; have HO_23 := n2_; have HL232_0 := n3_; have HB := n4_; have HO235 := n5_; clear n0_ n1_ n2_ n3_ n4_ n5_; clear ho hb hg hat) | ((with_reducible refine gate_callee (f := 20) rfl ?_); refine goesL_ (some 42) rfl rfl Tryd.func20 (by kernel_rfl) rfl #[.slice A232_0 (rd_L3 t227 x32_2).length c232_0] rfl (by (try simp only [List.map_toArray, List.map_cons, List.map_nil]); first | done | rfl | (simp only [List.length_drop, List.length_take]; rfl)) ?_; (with_reducible refine (sound_Beats.calls k2 _ _ (rd_L3 t227 x32_2) t236 _ ?side1 ?side2 A24.out).mono ?_); (case side1 => repeat (first | exact ((Kd.R_reads' (by (with_reducible repeat (first | apply Kd.R_alloc | apply Kd.R_drewN | apply Kd.R_drew)); exact HL232_0.out)).2.2) | (with_reducible refine Kd.C_alloc ?_ _) | (with_reducible refine Kd.C_drewN ?_ _) | (with_reducible refine Kd.C_drew ?_))); (case side2 => exact HC232_0.out); rintro e w42 ⟨rfl, hb⟩; refine ⟨_, rfl, ?_⟩; have n0_ := Aside0.mk (Kd.R_below (by (with_reducible repeat (first | apply Kd.R_alloc | apply Kd.R_drewN | apply Kd.R_drew)); exact HO_3.out) hb); have n1_ := Aside0.mk (Kd.R_below (by (with_reducible repeat (first | apply Kd.R_alloc | apply Kd.R_drewN | apply Kd.R_drew)); exact HO_4.out) hb); have n2_ := Aside0.mk (Kd.S_below (by (with_reducible repeat (first | apply Kd.S_alloc | apply Kd.S_drewN | apply Kd.S_drew)); exact HO_23.out) hb); have n3_ := Aside0.mk (Kd.R_below (by (with_reducible repeat (first | apply Kd.R_alloc | apply Kd.R_drewN | apply Kd.R_drew)); exact HL232_0.out) hb); have n4_ := Aside0.mk (Kd.R_below (by (with_reducible repeat (first | apply Kd.R_alloc | apply Kd.R_drewN | apply Kd.R_drew)); exact HO235.out) hb); have n5_ := Aside0.mk (below_step (by repeat (first | (with_reducible first | exact HB.out | apply below_alloc | apply pw_below_drewN | apply below_drew1) | exact HB.out)) hb); clear HO_3; clear HO_4; clear HO_23; clear HL232_0; clear HO235; clear HB; have HO_3 := n0_; have HO_4 := n1_; have HO_23 := n2_; have HL232_0 := n3_; have HO235 := n4_; have HB := n5_; clear n0_ n1_ n2_ n3_ n4_ n5_; (try clear hb); (try clear hb2); (try clear hk); (try clear hi); have p237 : 0 ≤ (x32_2 : Int) := of_decide_eq_true (by first | (with_reducible assumption) | assumption); have q237 : x32_2 < (t224.length : Int) := of_decide_eq_true (by first | (with_reducible assumption) | assumption); obtain ⟨ad237, e237, hx237_0⟩ := Kd.at_int (Kd.R_reads' HO_4.out).2.2 x32_2 p237 q237; cases e237; replace p237 := eq_true p237; replace q237 := eq_true q237; have p238 : 0 ≤ (x32_2 : Int) := of_decide_eq_true (by first | (with_reducible assumption) | assumption); have q238 : x32_2 < (t224.length : Int) := of_decide_eq_true (by first | (with_reducible assumption) | assumption); obtain ⟨ad238, e238, hx238_0⟩ := Kd.at_int (Kd.R_reads' HO_4.out).2.2 x32_2 p238 q238; obtain rfl : ad237 = ad238 := (by injection e238); replace p238 := eq_true p238; replace q238 := eq_true q238; have p239 : 0 ≤ (x32_2 : Int) := of_decide_eq_true (by first | (with_reducible assumption) | assumption); have q239 : x32_2 < (t224.length : Int) := of_decide_eq_true (by first | (with_reducible assumption) | assumption); obtain ⟨ad239, e239, hx239_0⟩ := Kd.at_int (Kd.R_reads' HO_4.out).2.2 x32_2 p239 q239; obtain rfl : ad237 = ad239 := (by injection e239); replace p239 := eq_true p239; replace q239 := eq_true q239; have p240 : 0 ≤ ((rd t224 x32_2) : Int) := of_decide_eq_true (by first | (with_reducible assumption) | assumption); have q240 : (rd t224 x32_2) < (t221.length : Int) := of_decide_eq_true (by first | (with_reducible assumption) | assumption); obtain ⟨ad240, e240, hx240_0, hx240_1, hx240_2⟩ := at_T23 (Kd.R_reads' HO_3.out).2.2 (rd t224 x32_2) p240 q240; cases e240; replace p240 := eq_true p240; replace q240 := eq_true q240) | (go_at_call 15; (with_reducible refine (sound_Nucleus.calls ((rd_T23 t221 (rd t224 x32_2)).f0) ((rd_T23 t221 (rd t224 x32_2)).f1) ((rd_T23 t221 (rd t224 x32_2)).f2) false _ A34.out).mono ?_); rintro e w43 ⟨rfl, hb⟩; have n0_ := Aside0.mk (Kd.R_below (by (with_reducible repeat (first | apply Kd.R_alloc | apply Kd.R_drewN | apply Kd.R_drew)); exact HO_3.out) hb); have n1_ := Aside0.mk (Kd.R_below (by (with_reducible repeat (first | apply Kd.R_alloc | apply Kd.R_drewN | apply Kd.R_drew)); exact HO_4.out) hb); have n2_ := Aside0.mk (Kd.S_below (by (with_reducible repeat (first | apply Kd.S_alloc | apply Kd.S_drewN | apply Kd.S_drew)); exact HO_23.out) hb); have n3_ := Aside0.mk (Kd.R_below (by (with_reducible repeat (first | apply Kd.R_alloc | apply Kd.R_drewN | apply Kd.R_drew)); exact HL232_0.out) hb); have n4_ := Aside0.mk (Kd.R_below (by (with_reducible repeat (first | apply Kd.R_alloc | apply Kd.R_drewN | apply Kd.R_drew)); exact HO235.out) hb); have n5_ := Aside0.mk (below_step (by repeat (first | (with_reducible first | exact HB.out | apply below_alloc | apply pw_below_drewN | apply below_drew1) | exact HB.out)) hb); clear HO_3; clear HO_4; clear HO_23; clear HL232_0; clear HO235; clear HB; have HO_3 := n0_; have HO_4 := n1_; have HO_23 := n2_; have HL232_0 := n3_; have HO235 := n4_; have HB := n5_; clear n0_ n1_ n2_ n3_ n4_ n5_; (try clear hb); (try clear hb2); (try clear hk); (try clear hi)))
                                  go_ret
                                  exact ⟨by first | rfl | (simp [errW_none, errW_some] <;> rfl) | (simp [*, errW_none, errW_some] <;> rfl), by repeat (first | (with_reducible first | exact HB.out | apply below_alloc | apply pw_below_drewN | apply below_drew1) | exact HB.out)⟩
                              · rw [if_neg c33] at H
                                exact absurd H (by simp)
                            · rw [if_neg c32] at H
                              exact absurd H (by simp)
                      · rw [if_neg c25] at H
                        have c25b0 : decide (x32_2 < (t224.length : Int)) = false := decide_eq_false c25
                        clear c25
                        have H' := Aside0.mk H
                        clear H
                        have p232 : 0 ≤ (x32_2 : Int) := of_decide_eq_true (by first | (with_reducible assumption) | assumption)
                        have q232 : x32_2 < (t227.length : Int) := of_decide_eq_true (by first | (with_reducible assumption) | assumption)
                        obtain ⟨ad232, A232_0, c232_0, e232, hx232_0, hl232_0, hi232_0⟩ := at_L3 (Kd.S_reads' HO_23.out).2.2 x32_2 p232 q232
                        cases e232
                        obtain ⟨ce232, hce232, hMe232, hcc232⟩ := Kd.S_get HO_23.out [] x32_2 p232 (by first | exact q232 | exact of_decide_eq_true (by first | (with_reducible assumption) | assumption) | (have e_ := (Kd.S_reads' HO_23.out).1; omega))
                        obtain ⟨ve232_0, rfl, ge232_0⟩ := hMe232
                        have hv232_0 := hcc232 0 _ rfl
                        rw [Nat.add_zero, show ((Kd.slice 23 k23)).sz = 1 from rfl, Nat.mul_one] at hv232_0
                        replace hv232_0 := Option.some.inj (hv232_0.symm.trans hx232_0)
                        rw [hv232_0] at ge232_0
                        have HL232_0 := Aside0.mk (show Kd.R k23 23 _ _ _ _ (rd_L3 t227 x32_2) from ge232_0)
                        clear hv232_0 ge232_0
                        clear hcc232 hce232
                        have HR232_0 := Aside0.mk hi232_0
                        have HC232_0 := Aside0.mk hl232_0
                        clear hi232_0 hl232_0
                        replace p232 := eq_true p232
                        replace q232 := eq_true q232
                        go_wp2_with (first | ((with_reducible refine gate_builtin (b := .append) (xs := #[.tmp 37, .tmp 38]) rfl ?_); (try (refine gate_guard (by rfl) ?_; dsimp only)); at_builtin; refine Kd.R_append_rows k23 (w0 := w) w.heap.size rfl (.tmp 37) (.tmp 38) 26 23 (.agg #[(.int .i64 0), (.int .i64 0), (.string ⟨#[]⟩)]) 32 rfl Tryd.underlying26 info23 rfl (by decide) (by omega) u6 x6_2 (rd_L3 t227 x32_2) _ _ _ (fun k_ => some k_ ≠ (.slice Ao15 t221.length co15 : Value).ownBlock) (fun _ => False) rfl rfl ?aO ?aR (fun _ _ h => h) (fun _ h => h.elim) ?aF ?aB ?aS ?aL ?_; (case aR => repeat (first | exact (by repeat (first | (with_reducible exact HR232_0.out) | (with_reducible refine Kd.C_alloc ?_ _) | (with_reducible refine Kd.C_drewN ?_ _) | (with_reducible refine Kd.C_drew ?_) | exact HR232_0.out)) | (with_reducible refine Kd.C_alloc ?_ _) | (with_reducible refine Kd.C_drewN ?_ _) | (with_reducible refine Kd.C_drew ?_))); (case aB => exact (by repeat (first | (with_reducible first | exact HB.out | apply below_alloc | apply pw_below_drewN | apply below_drew1) | exact HB.out))); (case aF => exact (fun k_ hk => Kd.fresh' (Kd.R_lt (by (with_reducible repeat (first | apply Kd.R_alloc | apply Kd.R_drewN | apply Kd.R_drew)); exact HO_3.out)) k_ hk)); (case aO => exact (by (with_reducible repeat (first | apply Kd.R_alloc | apply Kd.R_drewN | apply Kd.R_drew)); exact HO_6.out)); (case aS => exact (below_size (by repeat (first | (with_reducible first | exact HB.out | apply below_alloc | apply pw_below_drewN | apply below_drew1) | exact HB.out)))); (case aL => have := LMc23.out; omega); intro v234 w44 ho hb hg hat; rw [← Ny233.out] at ho; have n0_ := Aside0.mk (Kd.R_after (ok := (fun _ => True)) (by (with_reducible repeat (first | apply Kd.R_alloc | apply Kd.R_drewN | apply Kd.R_drew)); exact Kd.R_mono HO_3.out (fun _ hk => ⟨trivial, hk⟩)) hg hat); have n1_ := Aside0.mk (Kd.R_over' (by (with_reducible repeat (first | apply Kd.R_alloc | apply Kd.R_drewN | apply Kd.R_drew)); exact HO_4.out) (Kd.R_typed (by (with_reducible repeat (first | apply Kd.R_alloc | apply Kd.R_drewN | apply Kd.R_drew)); exact HO_6.out)) (by decide) hg); have n2_ := Aside0.mk (Kd.S_after (ok := (fun k_ => some k_ ≠ (.slice Ao15 t221.length co15 : Value).ownBlock)) (by (with_reducible repeat (first | apply Kd.S_alloc | apply Kd.S_drewN | apply Kd.S_drew)); exact HO_23.out) hg hat); have n3_ := Aside0.mk (Kd.R_after (ok := (fun k_ => some k_ ≠ (.slice Ao15 t221.length co15 : Value).ownBlock ∧ some k_ ≠ (.slice (some ad232) t227.length co18 : Value).ownBlock)) (by (with_reducible repeat (first | apply Kd.R_alloc | apply Kd.R_drewN | apply Kd.R_drew)); exact Kd.R_mono HL232_0.out (fun _ hk => ⟨⟨hk.1.1, hk.2⟩, hk.1.2⟩)) hg hat); have n4_ := Aside0.mk (hb); have n5_ := Aside0.mk (ho); clear HO_3; clear HO_4; clear HO_23; clear HL232_0; clear HB; clear HO_6; have HO_3 := n0_; have HO_4 := n1_; have HO_23 := n2_; have HL232_0 := n3_; have HB := n4_; have HO235 := n5_; clear n0_ n1_ n2_ n3_ n4_ n5_; clear ho hb hg hat) | ((with_reducible refine gate_callee (f := 20) rfl ?_); refine goesL_ (some 42) rfl rfl Tryd.func20 (by kernel_rfl) rfl #[.slice A232_0 (rd_L3 t227 x32_2).length c232_0] rfl (by (try simp only [List.map_toArray, List.map_cons, List.map_nil]); first | done | rfl | (simp only [List.length_drop, List.length_take]; rfl)) ?_; (with_reducible refine (sound_Beats.calls k2 _ _ (rd_L3 t227 x32_2) t236 _ ?side1 ?side2 A24.out).mono ?_); (case side1 => repeat (first | exact ((Kd.R_reads' (by (with_reducible repeat (first | apply Kd.R_alloc | apply Kd.R_drewN | apply Kd.R_drew)); exact HL232_0.out)).2.2) | (with_reducible refine Kd.C_alloc ?_ _) | (with_reducible refine Kd.C_drewN ?_ _) | (with_reducible refine Kd.C_drew ?_))); (case side2 => exact HC232_0.out); rintro e w45 ⟨rfl, hb⟩; refine ⟨_, rfl, ?_⟩; have n0_ := Aside0.mk (Kd.R_below (by (with_reducible repeat (first | apply Kd.R_alloc | apply Kd.R_drewN | apply Kd.R_drew)); exact HO_3.out) hb); have n1_ := Aside0.mk (Kd.R_below (by (with_reducible repeat (first | apply Kd.R_alloc | apply Kd.R_drewN | apply Kd.R_drew)); exact HO_4.out) hb); have n2_ := Aside0.mk (Kd.S_below (by (with_reducible repeat (first | apply Kd.S_alloc | apply Kd.S_drewN | apply Kd.S_drew)); exact HO_23.out) hb); have n3_ := Aside0.mk (Kd.R_below (by (with_reducible repeat (first | apply Kd.R_alloc | apply Kd.R_drewN | apply Kd.R_drew)); exact HL232_0.out) hb); have n4_ := Aside0.mk (Kd.R_below (by (with_reducible repeat (first | apply Kd.R_alloc | apply Kd.R_drewN | apply Kd.R_drew)); exact HO235.out) hb); have n5_ := Aside0.mk (below_step (by repeat (first | (with_reducible first | exact HB.out | apply below_alloc | apply pw_below_drewN | apply below_drew1) | exact HB.out)) hb); clear HO_3; clear HO_4; clear HO_23; clear HL232_0; clear HO235; clear HB; have HO_3 := n0_; have HO_4 := n1_; have HO_23 := n2_; have HL232_0 := n3_; have HO235 := n4_; have HB := n5_; clear n0_ n1_ n2_ n3_ n4_ n5_; (try clear hb); (try clear hb2); (try clear hk); (try clear hi)))
                        go_roundg k2
                        case measure => have := HJ1.out; have := HK2.out; omega
                        case rel => exact ⟨(y233), (wrap64 (x7_2 + t236)), (wrap64 (x32_2 + 1)), (by first | rfl | (simp; done) | (simp [*]; done)), (by first | rfl | (simp; done) | (simp [*]; done)), H', ⟨by have := HJ1.out; have := HK2.out; omega⟩, ⟨by (with_reducible repeat (first | apply Kd.R_alloc | apply Kd.R_drewN | apply Kd.R_drew)); exact Kd.R_mono HO_3.out (fun _ hk => hk.2)⟩, ⟨by (with_reducible repeat (first | apply Kd.R_alloc | apply Kd.R_drewN | apply Kd.R_drew)); exact HO_4.out⟩, ⟨by (with_reducible repeat (first | apply Kd.R_alloc | apply Kd.R_drewN | apply Kd.R_drew)); exact HO235.out⟩, ⟨by (with_reducible repeat (first | apply Kd.S_alloc | apply Kd.S_drewN | apply Kd.S_drew)); exact HO_23.out⟩, ⟨by repeat (first | (with_reducible first | exact HB.out | apply below_alloc | apply pw_below_drewN | apply below_drew1) | exact HB.out)⟩⟩
                    · rw [if_neg c23] at H
                      exact absurd H (by simp)
                  · rw [if_neg c22] at H
                    exact absurd H (by simp)
                · rw [if_neg c21] at H
                  exact absurd H (by simp)
              · rw [if_neg c20] at H
                have c20b0 : decide (x32_2 < (t227.length : Int)) = false := decide_eq_false c20
                clear c20
                replace H := Option.bind_eq_some_iff.mp H
                obtain ⟨t230, A460, H⟩ := H
                replace H : (if t230 = true then ((sound_Beats.f k2 t221).bind fun t231 => (some (x7_2 == t231))) else (some false)) = some r := H
                have A46 := Aside0.mk A460
                clear A460
                by_cases c47 : t230 = true
                · subst c47
                  have H1 : ((sound_Beats.f k2 t221).bind fun t231 => (some (x7_2 == t231))) = some r := by rw [if_pos rfl] at H; exact H
                  clear H
                  have H := H1
                  clear H1
                  replace H := Option.bind_eq_some_iff.mp H
                  obtain ⟨t231, A480, H⟩ := H
                  replace H : (some (x7_2 == t231)) = some r := H
                  have A48 := Aside0.mk A480
                  clear A480
                  obtain rfl := Option.some.inj H
                  obtain ⟨Ao49, co49, eo49⟩ := Kd.R_slice HO_6.out
                  subst eo49
                  go_wp2_with (first | ((with_reducible refine gate_callee (f := 21) rfl ?_); refine goesL_ (some 86) rfl rfl Tryd.func21 (by kernel_rfl) rfl #[.slice Ao49 x6_2.length co49, .slice Ao15 t221.length co15] rfl (by (try simp only [List.map_toArray, List.map_cons, List.map_nil]); first | done | rfl | (simp only [List.length_drop, List.length_take]; rfl)) ?_; (with_reducible refine (ancepsref11_Same.calls k2 _ _ x6_2 _ _ t221 true _ ?side1 ?side2 ?side3 ?side4 A46.out).mono ?_); (case side1 => repeat (first | exact (Kd.R_reads' HO_6.out).2.2 | (with_reducible refine Kd.C_alloc ?_ _) | (with_reducible refine Kd.C_drewN ?_ _) | (with_reducible refine Kd.C_drew ?_))); (case side2 => exact (Kd.R_reads' HO_6.out).2.1); (case side3 => repeat (first | exact (Kd.R_reads' HO_3.out).2.2 | (with_reducible refine Kd.C_alloc ?_ _) | (with_reducible refine Kd.C_drewN ?_ _) | (with_reducible refine Kd.C_drew ?_))); (case side4 => exact (Kd.R_reads' HO_3.out).2.1); rintro e w50 ⟨rfl, hb⟩; refine ⟨_, rfl, ?_⟩; have n0_ := Aside0.mk (Kd.R_below (by (with_reducible repeat (first | apply Kd.R_alloc | apply Kd.R_drewN | apply Kd.R_drew)); exact HO_3.out) hb); have n1_ := Aside0.mk (Kd.R_below (by (with_reducible repeat (first | apply Kd.R_alloc | apply Kd.R_drewN | apply Kd.R_drew)); exact HO_4.out) hb); have n2_ := Aside0.mk (Kd.R_below (by (with_reducible repeat (first | apply Kd.R_alloc | apply Kd.R_drewN | apply Kd.R_drew)); exact HO_6.out) hb); have n3_ := Aside0.mk (Kd.S_below (by (with_reducible repeat (first | apply Kd.S_alloc | apply Kd.S_drewN | apply Kd.S_drew)); exact HO_23.out) hb); have n4_ := Aside0.mk (below_step (by repeat (first | (with_reducible first | exact HB.out | apply below_alloc | apply pw_below_drewN | apply below_drew1) | exact HB.out)) hb); clear HO_3; clear HO_4; clear HO_6; clear HO_23; clear HB; have HO_3 := n0_; have HO_4 := n1_; have HO_6 := n2_; have HO_23 := n3_; have HB := n4_; clear n0_ n1_ n2_ n3_ n4_; (try clear hb); (try clear hb2); (try clear hk); (try clear hi)) | (go_at_call 20; (with_reducible refine (sound_Beats.calls k2 _ _ t221 t231 _ ?side1 ?side2 A48.out).mono ?_); (case side1 => repeat (first | exact (Kd.R_reads' HO_3.out).2.2 | (with_reducible refine Kd.C_alloc ?_ _) | (with_reducible refine Kd.C_drewN ?_ _) | (with_reducible refine Kd.C_drew ?_))); (case side2 => exact (Kd.R_reads' HO_3.out).2.1); rintro e w51 ⟨rfl, hb⟩; have n0_ := Aside0.mk (Kd.R_below (by (with_reducible repeat (first | apply Kd.R_alloc | apply Kd.R_drewN | apply Kd.R_drew)); exact HO_3.out) hb); have n1_ := Aside0.mk (Kd.R_below (by (with_reducible repeat (first | apply Kd.R_alloc | apply Kd.R_drewN | apply Kd.R_drew)); exact HO_4.out) hb); have n2_ := Aside0.mk (Kd.R_below (by (with_reducible repeat (first | apply Kd.R_alloc | apply Kd.R_drewN | apply Kd.R_drew)); exact HO_6.out) hb); have n3_ := Aside0.mk (Kd.S_below (by (with_reducible repeat (first | apply Kd.S_alloc | apply Kd.S_drewN | apply Kd.S_drew)); exact HO_23.out) hb); have n4_ := Aside0.mk (below_step (by repeat (first | (with_reducible first | exact HB.out | apply below_alloc | apply pw_below_drewN | apply below_drew1) | exact HB.out)) hb); clear HO_3; clear HO_4; clear HO_6; clear HO_23; clear HB; have HO_3 := n0_; have HO_4 := n1_; have HO_6 := n2_; have HO_23 := n3_; have HB := n4_; clear n0_ n1_ n2_ n3_ n4_; (try clear hb); (try clear hb2); (try clear hk); (try clear hi)))
                  go_ret
                  exact ⟨by first | rfl | (simp [errW_none, errW_some] <;> rfl) | (simp [*, errW_none, errW_some] <;> rfl), by repeat (first | (with_reducible first | exact HB.out | apply below_alloc | apply pw_below_drewN | apply below_drew1) | exact HB.out)⟩
                · replace c47 := Bool.eq_false_iff.mpr c47
                  subst c47
                  have H1 : (some false) = some r := by rw [if_neg (show ¬ (false = true) by decide)] at H; exact H
                  clear H
                  have H := H1
                  clear H1
                  obtain rfl := Option.some.inj H
                  obtain ⟨Ao52, co52, eo52⟩ := Kd.R_slice HO_6.out
                  subst eo52
                  go_wp2_with (first | ((with_reducible refine gate_callee (f := 21) rfl ?_); refine goesL_ (some 86) rfl rfl Tryd.func21 (by kernel_rfl) rfl #[.slice Ao52 x6_2.length co52, .slice Ao15 t221.length co15] rfl (by (try simp only [List.map_toArray, List.map_cons, List.map_nil]); first | done | rfl | (simp only [List.length_drop, List.length_take]; rfl)) ?_; (with_reducible refine (ancepsref11_Same.calls k2 _ _ x6_2 _ _ t221 false _ ?side1 ?side2 ?side3 ?side4 A46.out).mono ?_); (case side1 => repeat (first | exact (Kd.R_reads' HO_6.out).2.2 | (with_reducible refine Kd.C_alloc ?_ _) | (with_reducible refine Kd.C_drewN ?_ _) | (with_reducible refine Kd.C_drew ?_))); (case side2 => exact (Kd.R_reads' HO_6.out).2.1); (case side3 => repeat (first | exact (Kd.R_reads' HO_3.out).2.2 | (with_reducible refine Kd.C_alloc ?_ _) | (with_reducible refine Kd.C_drewN ?_ _) | (with_reducible refine Kd.C_drew ?_))); (case side4 => exact (Kd.R_reads' HO_3.out).2.1); rintro e w53 ⟨rfl, hb⟩; refine ⟨_, rfl, ?_⟩; have n0_ := Aside0.mk (Kd.R_below (by (with_reducible repeat (first | apply Kd.R_alloc | apply Kd.R_drewN | apply Kd.R_drew)); exact HO_3.out) hb); have n1_ := Aside0.mk (Kd.R_below (by (with_reducible repeat (first | apply Kd.R_alloc | apply Kd.R_drewN | apply Kd.R_drew)); exact HO_4.out) hb); have n2_ := Aside0.mk (Kd.R_below (by (with_reducible repeat (first | apply Kd.R_alloc | apply Kd.R_drewN | apply Kd.R_drew)); exact HO_6.out) hb); have n3_ := Aside0.mk (Kd.S_below (by (with_reducible repeat (first | apply Kd.S_alloc | apply Kd.S_drewN | apply Kd.S_drew)); exact HO_23.out) hb); have n4_ := Aside0.mk (below_step (by repeat (first | (with_reducible first | exact HB.out | apply below_alloc | apply pw_below_drewN | apply below_drew1) | exact HB.out)) hb); clear HO_3; clear HO_4; clear HO_6; clear HO_23; clear HB; have HO_3 := n0_; have HO_4 := n1_; have HO_6 := n2_; have HO_23 := n3_; have HB := n4_; clear n0_ n1_ n2_ n3_ n4_; (try clear hb); (try clear hb2); (try clear hk); (try clear hi)))
                  go_ret
                  exact ⟨by first | rfl | (simp [errW_none, errW_some] <;> rfl) | (simp [*, errW_none, errW_some] <;> rfl), by repeat (first | (with_reducible first | exact HB.out | apply below_alloc | apply pw_below_drewN | apply below_drew1) | exact HB.out)⟩
        · rw [if_neg c13] at H
          have c13b0 : ((t227.length : Int) == (wrap64 ((t224.length : Int) + 1))) = false := beq_eq_false_iff_ne.mpr c13
          have c13b1 : ((t227.length : Int) != (wrap64 ((t224.length : Int) + 1))) = true := bne_iff_ne.mpr c13
          obtain rfl := Option.some.inj H
          go_wp2_with (first | ((with_reducible refine gate_callee (f := 17) rfl ?_); refine goesL_ (some 19) rfl rfl Tryd.func17 (by kernel_rfl) rfl #[.slice A0 l0.length c0] rfl (by (try simp only [List.map_toArray, List.map_cons, List.map_nil]); first | done | rfl | (simp only [List.length_drop, List.length_take]; rfl)) ?_; (with_reducible refine (ancepsref11_All.calls kj1 _ _ l0 t221 _ ?side1 ?side2 A10.out).mono ?_); (case side1 => repeat (first | exact (Kd.C_below HR0.out HB.out) | (with_reducible refine Kd.C_alloc ?_ _) | (with_reducible refine Kd.C_drewN ?_ _) | (with_reducible refine Kd.C_drew ?_))); (case side2 => exact HC0.out); rintro e w54 ⟨v222, rfl, ho0, hb⟩; refine ⟨_, rfl, ?_⟩; have n0_ := Aside0.mk (Kd.R_lower ho0 (below_size (by repeat (first | (with_reducible first | exact HB.out | apply below_alloc | apply pw_below_drewN | apply below_drew1) | exact HB.out)))); have n1_ := Aside0.mk (below_step (by repeat (first | (with_reducible first | exact HB.out | apply below_alloc | apply pw_below_drewN | apply below_drew1) | exact HB.out)) hb); clear HB; have HO223 := n0_; have HB := n1_; clear n0_ n1_; (try clear hb); (try clear hb2); (try clear hk); (try clear hi); (try clear ho0); obtain ⟨Ao55, co55, eo55⟩ := Kd.R_slice HO223.out; subst eo55) | ((with_reducible refine gate_callee (f := 18) rfl ?_); refine goesL_ (some 21) rfl rfl Tryd.func18 (by kernel_rfl) rfl #[.slice Ao55 t221.length co55] rfl (by (try simp only [List.map_toArray, List.map_cons, List.map_nil]); first | done | rfl | (simp only [List.length_drop, List.length_take]; rfl)) ?_; (with_reducible refine (sound_Nuclei.calls kj1 _ _ t221 t224 _ ?side1 ?side2 A11.out).mono ?_); (case side1 => repeat (first | exact (Kd.R_reads' HO223.out).2.2 | (with_reducible refine Kd.C_alloc ?_ _) | (with_reducible refine Kd.C_drewN ?_ _) | (with_reducible refine Kd.C_drew ?_))); (case side2 => exact (Kd.R_reads' HO223.out).2.1); rintro e w56 ⟨v225, rfl, ho0, hb⟩; refine ⟨_, rfl, ?_⟩; have n0_ := Aside0.mk (Kd.R_below (by (with_reducible repeat (first | apply Kd.R_alloc | apply Kd.R_drewN | apply Kd.R_drew)); exact HO223.out) hb); have n1_ := Aside0.mk (Kd.R_lower ho0 (below_size (by repeat (first | (with_reducible first | exact HB.out | apply below_alloc | apply pw_below_drewN | apply below_drew1) | exact HB.out)))); have n2_ := Aside0.mk (below_step (by repeat (first | (with_reducible first | exact HB.out | apply below_alloc | apply pw_below_drewN | apply below_drew1) | exact HB.out)) hb); clear HO223; clear HB; have HO223 := n0_; have HO226 := n1_; have HB := n2_; clear n0_ n1_ n2_; (try clear hb); (try clear hb2); (try clear hk); (try clear hi); (try clear ho0)) | ((with_reducible refine gate_callee (f := 19) rfl ?_); refine goesL_ (some 23) rfl rfl Tryd.func19 (by kernel_rfl) rfl #[.slice Ao55 t221.length co55] rfl (by (try simp only [List.map_toArray, List.map_cons, List.map_nil]); first | done | rfl | (simp only [List.length_drop, List.length_take]; rfl)) ?_; (with_reducible refine (sound_Clusters.calls kj1 _ _ t221 t227 _ ?side1 ?side2 A12.out).mono ?_); (case side1 => repeat (first | exact (Kd.R_reads' HO223.out).2.2 | (with_reducible refine Kd.C_alloc ?_ _) | (with_reducible refine Kd.C_drewN ?_ _) | (with_reducible refine Kd.C_drew ?_))); (case side2 => exact (Kd.R_reads' HO223.out).2.1); rintro e w57 ⟨v228, rfl, ho0, hb⟩; refine ⟨_, rfl, ?_⟩; have n0_ := Aside0.mk (Kd.R_below (by (with_reducible repeat (first | apply Kd.R_alloc | apply Kd.R_drewN | apply Kd.R_drew)); exact HO223.out) hb); have n1_ := Aside0.mk (Kd.R_below (by (with_reducible repeat (first | apply Kd.R_alloc | apply Kd.R_drewN | apply Kd.R_drew)); exact HO226.out) hb); have n2_ := Aside0.mk (Kd.S_lower (Kd.S_new' ho0 (Kd.R_lt (by (with_reducible repeat (first | apply Kd.R_alloc | apply Kd.R_drewN | apply Kd.R_drew)); exact HO223.out))) (below_size (by repeat (first | (with_reducible first | exact HB.out | apply below_alloc | apply pw_below_drewN | apply below_drew1) | exact HB.out)))); have n3_ := Aside0.mk (below_step (by repeat (first | (with_reducible first | exact HB.out | apply below_alloc | apply pw_below_drewN | apply below_drew1) | exact HB.out)) hb); clear HO223; clear HO226; clear HB; have HO223 := n0_; have HO226 := n1_; have HO229 := n2_; have HB := n3_; clear n0_ n1_ n2_ n3_; (try clear hb); (try clear hb2); (try clear hk); (try clear hi); (try clear ho0); obtain ⟨Ao58, co58, eo58⟩ := Kd.S_slice HO229.out; subst eo58; obtain ⟨Ao59, co59, eo59⟩ := Kd.R_slice HO226.out; subst eo59))
          go_ret
          exact ⟨by first | rfl | (simp [errW_none, errW_some] <;> rfl) | (simp [*, errW_none, errW_some] <;> rfl), by repeat (first | (with_reducible first | exact HB.out | apply below_alloc | apply pw_below_drewN | apply below_drew1) | exact HB.out)⟩

/-- THE ONE PURE STATEMENT of ancepslaw11_SoundRebuilt: yours. -/
def ancepslaw11_SoundRebuilt.Pure : Prop := ∀ (l0 : List Int), l0.length ≤ maxLen → l0.length * 1 ≤ 140737488351232 → (∀ x ∈ l0, (Lit.int .u8 x).wf = true) → ∃ k, ancepslaw11_SoundRebuilt.f k l0 = some true
theorem ancepslaw11_SoundRebuilt.walk (P : ancepslaw11_SoundRebuilt.Pure) (a0 : Option Addr) (len0 cap0 : Nat) (z0 : List Int) (w : World) (w0 : (a0 = none ∧ len0 = 0 ∧ cap0 = 0 ∧ z0 = []) ∨ ∃ x, a0 = some x ∧ len0 ≤ cap0 ∧ cap0 ≤ maxLen ∧ z0.length = cap0 ∧ (∀ i, i < z0.length → w.cell? (x.add i) = some (.int .u8 (z0.getD i 0))) ∧ ∀ n ∈ z0, (Lit.int .u8 n).wf = true) (y0 : len0 * 1 ≤ 140737488351232) :
    Calls Tryd.prog 4 #[.slice a0 len0 cap0] w fun e w' => e = .returned (.bool true) ∧ Below w.heap.size w w' := by
  obtain ⟨l0, rfl, hr0, hm0, hw0, hc0⟩ := ReadsInt.ofRowC w0
  obtain ⟨k, h⟩ := P l0 hm0 y0 hw0
  refine (ancepslaw11_SoundRebuilt.calls k _ _ l0 true w (Kd.C_of_reads (d := (0 : Int)) (h1 := fun _ => rfl) hr0) hc0 h).mono ?_
  rintro e w' ⟨rfl, hd⟩
  exact ⟨rfl, hd⟩

end Go.Proofs.YtnjiniegpjfemaaDoor.X
