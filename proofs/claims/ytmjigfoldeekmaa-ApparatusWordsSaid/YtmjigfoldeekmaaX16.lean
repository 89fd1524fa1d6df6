-- shortened
-- thinned
-- halved indents
-- printed by this session's xprint.py: out of the translation, by the kit's print with additions; Lean checks it
import Derived.Test.YtmjigfoldeekmaaWN
import Derived.Test.YtmjigfoldeekmaaWShare
import Derived.Test.YtmjigfoldeekmaaWRepsOne
import Derived.Test.YtmjigfoldeekmaaWGuard
import Derived.Test.YtmjigfoldeekmaaX0
import Derived.Test.YtmjigfoldeekmaaX4
import Derived.Test.YtmjigfoldeekmaaX5
import Derived.Test.YtmjigfoldeekmaaX11
import Derived.Test.YtmjigfoldeekmaaX12
import Derived.Test.YtmjigfoldeekmaaX15
import Derived.Test.YtmjigfoldeekmaaXA
namespace Go.Proofs.Ytmjigfoldeekmaa.X
open Go.RowKit Go.Proofs.YtmjigfoldeekmaaW.PrintWords Go.Proofs.YtmjigfoldeekmaaW.PrintLast Go.Proofs.YtmjigfoldeekmaaW.PrintMore
attribute [local go_sem] max2_int min2_int max_two min_two max_three min_three max_four min_four isSome_setCell binOp_gtr_str binOp_leq_str binOp_geq_str   -- for this text's walks alone
set_option linter.unusedVariables false
set_option linter.unusedSimpArgs false

/-! ### ancepslaw57_ApparatusWords: function 3 -/
mutual
def ancepslaw57_ApparatusWords.j0 : Nat → ByteArray → ByteArray → Bool → Option (Bool)
 | 0, _, _, _ => none
 | k + 1, x0, x1, x24 => if x24 = true then ((ancepslaw57_awake.f k).bind fun t323 => (some t323)) else ((apparatus_Words.f k x0 x1).bind fun bt324 => ((ancepsref57_Words.f k x0 x1).bind fun bt328 => (if bt324.2 = bt328.2 then ((api_Pair.f k bt324.1 bt328.1).bind fun t332 => (ancepslaw57_ApparatusWords.j1 k x0 (!t332))) else (ancepslaw57_ApparatusWords.j1 k x0 true))))
def ancepslaw57_ApparatusWords.j1 : Nat → ByteArray → Bool → Option (Bool)
 | 0, _, _ => none
 | k + 1, x0, x46 => if x46 = true then (some false) else ((apparatus_Words.f k x0 x0).bind fun bt333 => (ancepslaw57_ApparatusWords.l0 k x0 bt333.1 bt333.2 bt333.1 (bt333.1.length : Int) 0))
def ancepslaw57_ApparatusWords.l0 : Nat → ByteArray → List (S29) → Int → List (S29) → Int → Int → Option (Bool)
 | 0, _, _, _, _, _, _ => none
 | k + 1, x0, x5, x6, x53, x54, x55 => if x55 < x54 then (if 0 ≤ x55 then (if x55 < (x53.length : Int) then (if ((rd_T29 x53 x55).f0) = x55 then (if ((rd_T29 x53 x55).f1) = x55 then (ancepslaw57_ApparatusWords.l0 k x0 x5 x6 x53 x54 (wrap64 (x55 + 1))) else (some false)) else (some false)) else (none)) else (none)) else ((ancepsref01_Words.f k x0).bind fun bt339 => (if x6 = bt339.2 then (some ((x5.length : Int) == (bt339.1.length : Int))) else (some false)))
end
def ancepslaw57_ApparatusWords.f (k : Nat) (a0 : ByteArray) (a1 : ByteArray) : Option (Bool) := (ancepslaw57_awake.f k).bind fun t322 => (if t322 = true then (if (a0.size : Int) > 200 then (ancepslaw57_ApparatusWords.j0 k a0 a1 true) else (ancepslaw57_ApparatusWords.j0 k a0 a1 (decide ((a1.size : Int) > 200)))) else (ancepslaw57_ApparatusWords.j0 k a0 a1 true))
theorem ancepslaw57_ApparatusWords.mono_l : ∀ k, (∀ y0 y1 y2, LeO (ancepslaw57_ApparatusWords.j0 k y0 y1 y2) (ancepslaw57_ApparatusWords.j0 (k + 1) y0 y1 y2)) ∧ (∀ y0 y1, LeO (ancepslaw57_ApparatusWords.j1 k y0 y1) (ancepslaw57_ApparatusWords.j1 (k + 1) y0 y1)) ∧ (∀ y0 y1 y2 y3 y4 y5, LeO (ancepslaw57_ApparatusWords.l0 k y0 y1 y2 y3 y4 y5) (ancepslaw57_ApparatusWords.l0 (k + 1) y0 y1 y2 y3 y4 y5))
 | 0 => ⟨fun _ _ _ r h => by simp [ancepslaw57_ApparatusWords.j0] at h, fun _ _ r h => by simp [ancepslaw57_ApparatusWords.j1] at h, fun _ _ _ _ _ _ r h => by simp [ancepslaw57_ApparatusWords.l0] at h⟩
 | k + 1 => by
  obtain ⟨ih0, ih1, ih2⟩ := ancepslaw57_ApparatusWords.mono_l k
  refine ⟨?_, ?_, ?_⟩
  ·intro y0 y1 y2
   unfold ancepslaw57_ApparatusWords.j0
   repeat' first
   | (with_reducible exact ih0 _ _ _)
   | (with_reducible exact ih1 _ _)
   | (with_reducible exact ih2 _ _ _ _ _ _)
   | (with_reducible exact ancepslaw57_awake.mono _)
   | (with_reducible exact ancepsref01_Words.mono _ _)
   | (with_reducible exact ancepsref57_Words.mono _ _ _)
   | (with_reducible exact api_Pair.mono _ _ _)
   | (with_reducible exact apparatus_Words.mono _ _ _)
   | (with_reducible exact LeO.refl _)
   | (with_reducible exact LeO.none _)
   | (with_reducible refine LeO.ite ?_ ?_)
   | (with_reducible refine LeO.bind ?_ (fun _ => ?_))
   | exact ih0 _ _ _
   | exact ih1 _ _
   | exact ih2 _ _ _ _ _ _
   | exact ancepslaw57_awake.mono _
   | exact ancepsref01_Words.mono _ _
   | exact ancepsref57_Words.mono _ _ _
   | exact api_Pair.mono _ _ _
   | exact apparatus_Words.mono _ _ _
   | exact LeO.none _
   | refine LeO.ite ?_ ?_
   | refine LeO.bind ?_ (fun _ => ?_)
  ·intro y0 y1
   unfold ancepslaw57_ApparatusWords.j1
   repeat' first
   | (with_reducible exact ih0 _ _ _)
   | (with_reducible exact ih1 _ _)
   | (with_reducible exact ih2 _ _ _ _ _ _)
   | (with_reducible exact ancepslaw57_awake.mono _)
   | (with_reducible exact ancepsref01_Words.mono _ _)
   | (with_reducible exact ancepsref57_Words.mono _ _ _)
   | (with_reducible exact api_Pair.mono _ _ _)
   | (with_reducible exact apparatus_Words.mono _ _ _)
   | (with_reducible exact LeO.refl _)
   | (with_reducible exact LeO.none _)
   | (with_reducible refine LeO.ite ?_ ?_)
   | (with_reducible refine LeO.bind ?_ (fun _ => ?_))
   | exact ih0 _ _ _
   | exact ih1 _ _
   | exact ih2 _ _ _ _ _ _
   | exact ancepslaw57_awake.mono _
   | exact ancepsref01_Words.mono _ _
   | exact ancepsref57_Words.mono _ _ _
   | exact api_Pair.mono _ _ _
   | exact apparatus_Words.mono _ _ _
   | exact LeO.none _
   | refine LeO.ite ?_ ?_
   | refine LeO.bind ?_ (fun _ => ?_)
  ·intro y0 y1 y2 y3 y4 y5
   unfold ancepslaw57_ApparatusWords.l0
   repeat' first
   | (with_reducible exact ih0 _ _ _)
   | (with_reducible exact ih1 _ _)
   | (with_reducible exact ih2 _ _ _ _ _ _)
   | (with_reducible exact ancepslaw57_awake.mono _)
   | (with_reducible exact ancepsref01_Words.mono _ _)
   | (with_reducible exact ancepsref57_Words.mono _ _ _)
   | (with_reducible exact api_Pair.mono _ _ _)
   | (with_reducible exact apparatus_Words.mono _ _ _)
   | (with_reducible exact LeO.refl _)
   | (with_reducible exact LeO.none _)
   | (with_reducible refine LeO.ite ?_ ?_)
   | (with_reducible refine LeO.bind ?_ (fun _ => ?_))
   | exact ih0 _ _ _
   | exact ih1 _ _
   | exact ih2 _ _ _ _ _ _
   | exact ancepslaw57_awake.mono _
   | exact ancepsref01_Words.mono _ _
   | exact ancepsref57_Words.mono _ _ _
   | exact api_Pair.mono _ _ _
   | exact apparatus_Words.mono _ _ _
   | exact LeO.none _
   | refine LeO.ite ?_ ?_
   | refine LeO.bind ?_ (fun _ => ?_)
theorem ancepslaw57_ApparatusWords.mono : ∀ a0 a1 k, LeO (ancepslaw57_ApparatusWords.f k a0 a1) (ancepslaw57_ApparatusWords.f (k + 1) a0 a1) := by
 intro a0 a1 k
 obtain ⟨ih0, ih1, ih2⟩ := ancepslaw57_ApparatusWords.mono_l k
 unfold ancepslaw57_ApparatusWords.f
 repeat' first
   | (with_reducible exact ih0 _ _ _)
   | (with_reducible exact ih1 _ _)
   | (with_reducible exact ih2 _ _ _ _ _ _)
   | (with_reducible exact ancepslaw57_awake.mono _)
   | (with_reducible exact ancepsref01_Words.mono _ _)
   | (with_reducible exact ancepsref57_Words.mono _ _ _)
   | (with_reducible exact api_Pair.mono _ _ _)
   | (with_reducible exact apparatus_Words.mono _ _ _)
   | (with_reducible exact LeO.refl _)
   | (with_reducible exact LeO.none _)
   | (with_reducible refine LeO.ite ?_ ?_)
   | (with_reducible refine LeO.bind ?_ (fun _ => ?_))
   | exact ih0 _ _ _
   | exact ih1 _ _
   | exact ih2 _ _ _ _ _ _
   | exact ancepslaw57_awake.mono _
   | exact ancepsref01_Words.mono _ _
   | exact ancepsref57_Words.mono _ _ _
   | exact api_Pair.mono _ _ _
   | exact apparatus_Words.mono _ _ _
   | exact LeO.none _
   | refine LeO.ite ?_ ?_
   | refine LeO.bind ?_ (fun _ => ?_)
set_option maxHeartbeats 8000000 in
set_option maxRecDepth 100000 in
theorem ancepslaw57_ApparatusWords.calls (k : Nat) (a0 : ByteArray) (a1 : ByteArray) (r : Bool) (w : World) (h : ancepslaw57_ApparatusWords.f k a0 a1 = some r) :
  Calls Try.prog 3 #[.string a0, .string a1] w fun e w' => e = .returned (.bool r) ∧ Below w.heap.size w w' := by
 have hu29 := Try.underlying29
 have HB := Aside0.mk (Below.refl w.heap.size w)
 have H : ((ancepslaw57_awake.f k).bind fun t322 => (if t322 = true then (if (a0.size : Int) > 200 then (ancepslaw57_ApparatusWords.j0 k a0 a1 true) else (ancepslaw57_ApparatusWords.j0 k a0 a1 (decide ((a1.size : Int) > 200)))) else (ancepslaw57_ApparatusWords.j0 k a0 a1 true))) = some r := h
 clear h
 have HC3 := Aside0.mk H
 clear H
 go_enter Try.func3, Try.ntmps3
 go_upto_region 1 with (fail)
 go_cut [24] (fun v24 wc => ∃ (kq : Nat) (x24_2 : Bool), v24 = .bool x24_2 ∧ Aside0 (ancepslaw57_ApparatusWords.j0 kq a0 a1 x24_2 = some r) ∧ Aside0 (kq ≤ k) ∧ Aside0 (Below w.heap.size w wc))
 case first =>
  have H := HC3.out
  clear HC3
  replace H := Option.bind_eq_some_iff.mp H
  obtain ⟨t322, A40, H⟩ := H
  try dsimp only at H
  have A4 := Aside0.mk A40
  clear A40
  by_cases c5 : t322 = true
  ·subst c5
   have H1 : (if (a0.size : Int) > 200 then (ancepslaw57_ApparatusWords.j0 k a0 a1 true) else (ancepslaw57_ApparatusWords.j0 k a0 a1 (decide ((a1.size : Int) > 200)))) = some r := by rw [if_pos rfl] at H; exact H
   clear H
   have H := H1
   clear H1
   by_cases c6 : (a0.size : Int) > 200
   ·rw [if_pos c6] at H
    have c6b0 : decide (200 < (a0.size : Int)) = true := decide_eq_true c6
    have c6b1 : decide (200 < a0.size) = true := decide_eq_true (by omega)
    clear c6
    (first | rw [c6b0] | (simp only [i64_w, i32_w]; rw [c6b0]) | skip)
    have H' := Aside0.mk H
    clear H
    go_wp2_with (first | ((with_reducible refine gate_callee (f := 9) rfl ?_); refine gL_ (some 13) Try.func9 #[] ?_; (with_reducible refine (ancepslaw57_awake.calls k  true _ A4.out).mono ?_); rintro e w7 ⟨rfl, hb⟩; refine ⟨_, rfl, ?_⟩; have n0_ := jL HB hb; clear HB; have HB := n0_; clear n0_; (try clear hb); (try clear hb2); (try clear hk); (try clear hi)))
    go_meet
    case rel => exact ⟨_, (true), (by first | rfl | (simp; done) | (simp [*]; done)), H', ⟨by first | omega | exact Nat.le_refl _⟩, ⟨by repeat (first | (with_reducible first | exact HB.out | apply below_alloc | apply pw_below_drewN | apply below_drew1) | exact HB.out)⟩⟩
   ·rw [if_neg c6] at H
    have c6b0 : decide (200 < (a0.size : Int)) = false := decide_eq_false c6
    have c6b1 : decide (200 < a0.size) = false := decide_eq_false (by omega)
    clear c6
    (first | rw [c6b0] | (simp only [i64_w, i32_w]; rw [c6b0]) | skip)
    have H' := Aside0.mk H
    clear H
    go_wp2_with (first | ((with_reducible refine gate_callee (f := 9) rfl ?_); refine gL_ (some 13) Try.func9 #[] ?_; (with_reducible refine (ancepslaw57_awake.calls k  true _ A4.out).mono ?_); rintro e w8 ⟨rfl, hb⟩; refine ⟨_, rfl, ?_⟩; have n0_ := jL HB hb; clear HB; have HB := n0_; clear n0_; (try clear hb); (try clear hb2); (try clear hk); (try clear hi)))
    go_meet
    case rel => exact ⟨_, (decide ((a1.size : Int) > 200)), (by first | rfl | (simp; done) | (simp [*]; done)), H', ⟨by first | omega | exact Nat.le_refl _⟩, ⟨by repeat (first | (with_reducible first | exact HB.out | apply below_alloc | apply pw_below_drewN | apply below_drew1) | exact HB.out)⟩⟩
  ·replace c5 := Bool.eq_false_iff.mpr c5
   subst c5
   have H1 : (ancepslaw57_ApparatusWords.j0 k a0 a1 true) = some r := by rw [if_neg (show ¬ (false = true) by decide)] at H; exact H
   clear H
   have H := H1
   clear H1
   have H' := Aside0.mk H
   clear H
   go_wp2_with (first | ((with_reducible refine gate_callee (f := 9) rfl ?_); refine gL_ (some 13) Try.func9 #[] ?_; (with_reducible refine (ancepslaw57_awake.calls k  false _ A4.out).mono ?_); rintro e w9 ⟨rfl, hb⟩; refine ⟨_, rfl, ?_⟩; have n0_ := jL HB hb; clear HB; have HB := n0_; clear n0_; (try clear hb); (try clear hb2); (try clear hk); (try clear hi)))
   go_meet
   case rel => exact ⟨_, (true), (by first | rfl | (simp; done) | (simp [*]; done)), H', ⟨by first | omega | exact Nat.le_refl _⟩, ⟨by repeat (first | (with_reducible first | exact HB.out | apply below_alloc | apply pw_below_drewN | apply below_drew1) | exact HB.out)⟩⟩
 case rest =>
  clear HC3
  try clear p2
  try clear c3
  try clear c5
  try clear c6
  try clear c6b0
  try clear c6b1
  try clear c9
  obtain ⟨kq, x24_2, rfl, HA, HJ2, HB⟩ := hcut
  cases kq with
  | zero => exact absurd HA.out (by simp [ancepslaw57_ApparatusWords.j0])
  | succ kj2 =>
   have H := HA.out
   clear HA
   simp only [ancepslaw57_ApparatusWords.j0] at H
   by_cases c10 : x24_2 = true
   ·subst c10
    have H1 : ((ancepslaw57_awake.f kj2).bind fun t323 => (some t323)) = some r := by rw [if_pos rfl] at H; exact H
    clear H
    have H := H1
    clear H1
    replace H := Option.bind_eq_some_iff.mp H
    obtain ⟨t323, A110, H⟩ := H
    replace H : (some t323) = some r := H
    have A11 := Aside0.mk A110
    clear A110
    obtain rfl := Option.some.inj H
    go_wp2_with (first | ((with_reducible refine gate_callee (f := 9) rfl ?_); refine gL_ (some 25) Try.func9 #[] ?_; (with_reducible refine (ancepslaw57_awake.calls kj2  t323 _ A11.out).mono ?_); rintro e w12 ⟨rfl, hb⟩; refine ⟨_, rfl, ?_⟩; have n0_ := jL HB hb; clear HB; have HB := n0_; clear n0_; (try clear hb); (try clear hb2); (try clear hk); (try clear hi)))
    go_ret
    exact ⟨by first | rfl | (simp [errW_none, errW_some] <;> rfl) | (simp [*, errW_none, errW_some] <;> rfl), by repeat (first | (with_reducible first | exact HB.out | apply below_alloc | apply pw_below_drewN | apply below_drew1) | exact HB.out)⟩
   ·replace c10 := Bool.eq_false_iff.mpr c10
    subst c10
    have H1 : ((apparatus_Words.f kj2 a0 a1).bind fun bt324 => ((ancepsref57_Words.f kj2 a0 a1).bind fun bt328 => (if bt324.2 = bt328.2 then ((api_Pair.f kj2 bt324.1 bt328.1).bind fun t332 => (ancepslaw57_ApparatusWords.j1 kj2 a0 (!t332))) else (ancepslaw57_ApparatusWords.j1 kj2 a0 true)))) = some r := by rw [if_neg (show ¬ (false = true) by decide)] at H; exact H
    clear H
    have H := H1
    clear H1
    replace H := Option.bind_eq_some_iff.mp H
    obtain ⟨⟨t324, t325⟩, A130, H⟩ := H
    try dsimp only at H
    have A13 := Aside0.mk A130
    clear A130
    replace H := Option.bind_eq_some_iff.mp H
    obtain ⟨⟨t328, t329⟩, A140, H⟩ := H
    try dsimp only at H
    have A14 := Aside0.mk A140
    clear A140
    have HC15 := Aside0.mk H
    clear H
    go_upto_region 5 with (first | ((with_reducible refine gate_callee (f := 10) rfl ?_); refine gL_ (some 29) Try.func10 #[.string a0, .string a1] ?_; (with_reducible refine (apparatus_Words.calls kj2 a0 a1 t324 t325 _ A13.out).mono ?_); rintro e w16 ⟨v326, rfl, ho0, hb⟩; refine ⟨_, rfl, ?_⟩; have n0_ := Aside0.mk (Kd.R_lower ho0 (below_size (iL HB))); have n1_ := jL HB hb; clear HB; have HO327 := n0_; have HB := n1_; clear n0_ n1_; (try clear hb); (try clear hb2); (try clear hk); (try clear hi); (try clear ho0)) | ((with_reducible refine gate_callee (f := 11) rfl ?_); refine gL_ (some 35) Try.func11 #[.string a0, .string a1] ?_; (with_reducible refine (ancepsref57_Words.calls kj2 a0 a1 t328 t329 _ A14.out).mono ?_); rintro e w17 ⟨v330, rfl, ho0, hb⟩; refine ⟨_, rfl, ?_⟩; have n0_ := Aside0.mk (Kd.R_elder' (iR HO327) (Kd.R_base ho0) hb); have n1_ := Aside0.mk (Kd.R_lower (Kd.R_new' ho0 (Kd.R_lt (iR HO327))) (below_size (iL HB))); have n2_ := jL HB hb; clear HO327; clear HB; have HO327 := n0_; have HO331 := n1_; have HB := n2_; clear n0_ n1_ n2_; (try clear hb); (try clear hb2); (try clear hk); (try clear hi); (try clear ho0)))
    (try simp only [Act.put, List.setIfInBounds_toArray, List.set_cons_zero, List.set_cons_succ])
    go_cut [46] (fun v46 wc => ∃ (kq : Nat) (x46_14 : Bool), v46 = .bool x46_14 ∧ Aside0 (ancepslaw57_ApparatusWords.j1 kq a0 x46_14 = some r) ∧ Aside0 (kq ≤ kj2) ∧ Aside0 (Below w.heap.size w wc))
    case first =>
     have H := HC15.out
     clear HC15
     by_cases c18 : t325 = t329
     ·rw [if_pos c18] at H
      have c18b0 : (t325 == t329) = true := beq_iff_eq.mpr c18
      have c18b1 : (t325 != t329) = false := bne_eq_false_iff_eq.mpr c18
      clear c18
      (first | rw [c18b0] | (simp only [i64_w, i32_w]; rw [c18b0]) | skip)
      replace H := Option.bind_eq_some_iff.mp H
      obtain ⟨t332, A190, H⟩ := H
      try dsimp only at H
      have A19 := Aside0.mk A190
      clear A190
      have H' := Aside0.mk H
      clear H
      obtain ⟨Ao20, co20, eo20⟩ := Kd.R_slice HO327.out
      subst eo20
      obtain ⟨Ao21, co21, eo21⟩ := Kd.R_slice HO331.out
      subst eo21
      go_wp2_with (first | (go_at_call 12; (with_reducible refine (api_Pair.calls kj2 _ _ t324 _ _ t328 t332 _ ?side1 ?side2 ?side3 ?side4 A19.out).mono ?_); (case side1 => repeat (first | exact (Kd.R_reads' HO327.out).2.2 | (with_reducible refine Kd.C_alloc ?_ _) | (with_reducible refine Kd.C_drewN ?_ _) | (with_reducible refine Kd.C_drew ?_))); (case side2 => exact (Kd.R_reads' HO327.out).2.1); (case side3 => repeat (first | exact (Kd.R_reads' HO331.out).2.2 | (with_reducible refine Kd.C_alloc ?_ _) | (with_reducible refine Kd.C_drewN ?_ _) | (with_reducible refine Kd.C_drew ?_))); (case side4 => exact (Kd.R_reads' HO331.out).2.1); rintro e w' ⟨rfl, ⟨nd, rfl⟩⟩))
      go_meet
      case rel => exact ⟨_, (!t332), (by first | rfl | (simp; done) | (simp [*]; done)), H', ⟨by have := HJ2.out; first | omega | exact Nat.le_refl _⟩, ⟨by repeat (first | (with_reducible first | exact HB.out | apply below_alloc | apply pw_below_drewN | apply below_drew1) | exact HB.out)⟩⟩
     ·rw [if_neg c18] at H
      have c18b0 : (t325 == t329) = false := beq_eq_false_iff_ne.mpr c18
      have c18b1 : (t325 != t329) = true := bne_iff_ne.mpr c18
      (first | rw [c18b0] | (simp only [i64_w, i32_w]; rw [c18b0]) | skip)
      have H' := Aside0.mk H
      clear H
      go_wp2
      go_meet
      case rel => exact ⟨_, (true), (by first | rfl | (simp; done) | (simp [*]; done)), H', ⟨by have := HJ2.out; first | omega | exact Nat.le_refl _⟩, ⟨by repeat (first | (with_reducible first | exact HB.out | apply below_alloc | apply pw_below_drewN | apply below_drew1) | exact HB.out)⟩⟩
    case rest =>
     clear HC15
     try clear c1
     try clear p2
     try clear c3
     try clear c5
     try clear c6
     try clear c6b0
     try clear c6b1
     try clear c9
     try clear c10
     try clear c11
     try clear c18
     try clear c18b0
     try clear c18b1
     try clear p2
     obtain ⟨kq, x46_14, rfl, HA, HJ14, HB⟩ := hcut
     cases kq with
     | zero => exact absurd HA.out (by simp [ancepslaw57_ApparatusWords.j1])
     | succ kj14 =>
      have H := HA.out
      clear HA
      simp only [ancepslaw57_ApparatusWords.j1] at H
      by_cases c22 : x46_14 = true
      ·subst c22
       have H1 : (some false) = some r := by rw [if_pos rfl] at H; exact H
       clear H
       have H := H1
       clear H1
       obtain rfl := Option.some.inj H
       go_wp2
       go_ret
       exact ⟨by first | rfl | (simp [errW_none, errW_some] <;> rfl) | (simp [*, errW_none, errW_some] <;> rfl), by repeat (first | (with_reducible first | exact HB.out | apply below_alloc | apply pw_below_drewN | apply below_drew1) | exact HB.out)⟩
      ·replace c22 := Bool.eq_false_iff.mpr c22
       subst c22
       have H1 : ((apparatus_Words.f kj14 a0 a0).bind fun bt333 => (ancepslaw57_ApparatusWords.l0 kj14 a0 bt333.1 bt333.2 bt333.1 (bt333.1.length : Int) 0)) = some r := by rw [if_neg (show ¬ (false = true) by decide)] at H; exact H
       clear H
       have H := H1
       clear H1
       replace H := Option.bind_eq_some_iff.mp H
       obtain ⟨⟨t333, t334⟩, A230, H⟩ := H
       try dsimp only at H
       have A23 := Aside0.mk A230
       clear A230
       have H' := Aside0.mk H
       clear H
       go_wp2_with (first | ((with_reducible refine gate_callee (f := 10) rfl ?_); refine gL_ (some 50) Try.func10 #[.string a0, .string a0] ?_; (with_reducible refine (apparatus_Words.calls kj14 a0 a0 t333 t334 _ A23.out).mono ?_); rintro e w24 ⟨v335, rfl, ho0, hb⟩; refine ⟨_, rfl, ?_⟩; have n0_ := Aside0.mk (Kd.R_lower ho0 (below_size (iL HB))); have n1_ := jL HB hb; clear HB; have HO336 := n0_; have HB := n1_; clear n0_ n1_; (try clear hb); (try clear hb2); (try clear hk); (try clear hi); (try clear ho0); obtain ⟨Ao25, co25, eo25⟩ := Kd.R_slice HO336.out; subst eo25))
       go_loopg [55] kj14 (fun kq v55 w' => ∃ (x55_3 : Int), v55 = .int .i64 x55_3 ∧ Aside0 (ancepslaw57_ApparatusWords.l0 kq a0 t333 t334 t333 (t333.length : Int) x55_3 = some r) ∧ Aside0 (kq ≤ kj14) ∧ Aside0 (Kd.R k29 29 w' w.heap.size (fun _ => True) (.slice Ao25 t333.length co25) t333) ∧ Aside0 (Kd.R k29 29 w' w.heap.size (fun _ => True) (.slice Ao25 t333.length co25) t333) ∧ Aside0 (Below w.heap.size w w'))
       case atStart => exact ⟨(0), (by first | rfl | (simp; done) | (simp [*]; done)), H', ⟨Nat.le_refl _⟩, ⟨by (with_reducible repeat (first | apply Kd.R_alloc | apply Kd.R_drewN | apply Kd.R_drew)); exact HO336.out⟩, ⟨by (with_reducible repeat (first | apply Kd.R_alloc | apply Kd.R_drewN | apply Kd.R_drew)); exact HO336.out⟩, ⟨by repeat (first | (with_reducible first | exact HB.out | apply below_alloc | apply pw_below_drewN | apply below_drew1) | exact HB.out)⟩⟩
       case round =>
        clear H'
        try clear c1
        try clear c2
        try clear p2
        try clear c3
        try clear c5
        try clear c6
        try clear c6b0
        try clear c6b1
        try clear c9
        try clear c10
        try clear c11
        try clear c18
        try clear c18b0
        try clear c18b1
        try clear c22
        try clear p2
        obtain ⟨x55_3, rfl, HA, HK3, HO_5, HO_53, HB⟩ := hrel
        cases gk with
        | zero => exact absurd HA.out (by simp [ancepslaw57_ApparatusWords.l0])
        | succ k3 =>
         have H := HA.out
         clear HA
         simp only [ancepslaw57_ApparatusWords.l0] at H
         by_cases c26 : x55_3 < (t333.length : Int)
         ·rw [if_pos c26] at H
          have c26b0 : decide (x55_3 < (t333.length : Int)) = true := decide_eq_true c26
          clear c26
          by_cases c27 : 0 ≤ x55_3
          ·rw [if_pos c27] at H
           have c27b0 : decide (0 ≤ x55_3) = true := decide_eq_true c27
           clear c27
           by_cases c28 : x55_3 < (t333.length : Int)
           ·rw [if_pos c28] at H
            have c28b0 : decide (x55_3 < (t333.length : Int)) = true := decide_eq_true c28
            clear c28
            by_cases c29 : ((rd_T29 t333 x55_3).f0) = x55_3
            ·rw [if_pos c29] at H
             have c29b0 : (((rd_T29 t333 x55_3).f0) == x55_3) = true := beq_iff_eq.mpr c29
             have c29b1 : (((rd_T29 t333 x55_3).f0) != x55_3) = false := bne_eq_false_iff_eq.mpr c29
             clear c29
             by_cases c30 : ((rd_T29 t333 x55_3).f1) = x55_3
             ·rw [if_pos c30] at H
              have c30b0 : (((rd_T29 t333 x55_3).f1) == x55_3) = true := beq_iff_eq.mpr c30
              have c30b1 : (((rd_T29 t333 x55_3).f1) != x55_3) = false := bne_eq_false_iff_eq.mpr c30
              clear c30
              have H' := Aside0.mk H
              clear H
              have p337 : 0 ≤ (x55_3 : Int) := of_decide_eq_true (by first | (with_reducible assumption) | assumption)
              have q337 : x55_3 < (t333.length : Int) := of_decide_eq_true (by first | (with_reducible assumption) | assumption)
              obtain ⟨ad337, e337, hx337_0, hx337_1⟩ := at_T29 (Kd.R_reads' HO_53.out).2.2 x55_3 p337 q337
              cases e337
              replace p337 := eq_true p337
              replace q337 := eq_true q337
              go_wp2_with (first | ((with_reducible refine gate_dst (N := 10) rfl ?_); (try (refine gate_guard (by rfl) ?_; dsimp only)); refine bX 10 #[.int .i64 0, .int .i64 0] 29 ?_; intro gb338 hg w31 hbox hb; have n0_ := Aside0.mk (Kd.R_below (Kd.R_elderB (iR HO_5) gb338 (Nat.le_of_eq hg.symm)) hb); have n1_ := Aside0.mk (Kd.R_below (Kd.R_elderB (iR HO_53) gb338 (Nat.le_of_eq hg.symm)) hb); have n2_ := jL HB hb; have n3_ := Aside0.mk (hbox); have n4_ := Aside0.mk ((by rw [hg]; exact (below_size (iL HB)) : w.heap.size ≤ gb338)); have n5_ := Aside0.mk ((by rw [hg]; exact (below_size (iL HB)) : w.heap.size ≤ gb338)); clear HO_5; clear HO_53; clear HB; have HO_5 := n0_; have HO_53 := n1_; have HB := n2_; have BK338 := n3_; have GW338 := n4_; have GE338 := n5_; clear n0_ n1_ n2_ n3_ n4_ n5_; clear hb hbox hg; have hcz32_0 := cZ BK338 0 (.int .i64 0); have hcz32_1 := cZ BK338 1 (.int .i64 0); have hfz32_0 := blk_frozen BK338.out 0; have hfz32_1 := blk_frozen BK338.out 1))
              go_roundg k3
              case measure => have := HJ2.out; have := HJ14.out; have := HK3.out; omega
              case rel => exact ⟨(wrap64 (x55_3 + 1)), (by first | rfl | (simp; done) | (simp [*]; done)), H', ⟨by have := HJ2.out; have := HJ14.out; have := HK3.out; omega⟩, ⟨by (with_reducible repeat (first | apply Kd.R_alloc | apply Kd.R_drewN | apply Kd.R_drew)); exact Kd.R_mono (Kd.R_far (p := ⟨gb338, 1, none⟩) (Kd.R_far (p := ⟨gb338, 0, none⟩) (Kd.R_mono HO_5.out (fun k_ hk => (⟨hk, hk.2⟩ : _ ∧ k_ ≠ gb338))) (fun _ hk => hk.2) (.int .i64 ((rd_T29 t333 x55_3).f0))) (fun _ hk => hk.2) (.int .i64 ((rd_T29 t333 x55_3).f1))) (fun _ hk => trivial)⟩, ⟨by (with_reducible repeat (first | apply Kd.R_alloc | apply Kd.R_drewN | apply Kd.R_drew)); exact Kd.R_mono (Kd.R_far (p := ⟨gb338, 1, none⟩) (Kd.R_far (p := ⟨gb338, 0, none⟩) (Kd.R_mono HO_53.out (fun k_ hk => (⟨hk, hk.2⟩ : _ ∧ k_ ≠ gb338))) (fun _ hk => hk.2) (.int .i64 ((rd_T29 t333 x55_3).f0))) (fun _ hk => hk.2) (.int .i64 ((rd_T29 t333 x55_3).f1))) (fun _ hk => trivial)⟩, ⟨by repeat (first | (with_reducible first | exact HB.out | apply below_alloc | apply pw_below_drewN | apply below_drew1 | refine below_set ?_ GE338.out) | exact HB.out)⟩⟩
             ·rw [if_neg c30] at H
              have c30b0 : (((rd_T29 t333 x55_3).f1) == x55_3) = false := beq_eq_false_iff_ne.mpr c30
              have c30b1 : (((rd_T29 t333 x55_3).f1) != x55_3) = true := bne_iff_ne.mpr c30
              obtain rfl := Option.some.inj H
              have p337 : 0 ≤ (x55_3 : Int) := of_decide_eq_true (by first | (with_reducible assumption) | assumption)
              have q337 : x55_3 < (t333.length : Int) := of_decide_eq_true (by first | (with_reducible assumption) | assumption)
              obtain ⟨ad337, e337, hx337_0, hx337_1⟩ := at_T29 (Kd.R_reads' HO_53.out).2.2 x55_3 p337 q337
              cases e337
              replace p337 := eq_true p337
              replace q337 := eq_true q337
              go_wp2_with (first | ((with_reducible refine gate_dst (N := 10) rfl ?_); (try (refine gate_guard (by rfl) ?_; dsimp only)); refine bX 10 #[.int .i64 0, .int .i64 0] 29 ?_; intro gb338 hg w33 hbox hb; have n0_ := Aside0.mk (Kd.R_below (Kd.R_elderB (iR HO_5) gb338 (Nat.le_of_eq hg.symm)) hb); have n1_ := Aside0.mk (Kd.R_below (Kd.R_elderB (iR HO_53) gb338 (Nat.le_of_eq hg.symm)) hb); have n2_ := jL HB hb; have n3_ := Aside0.mk (hbox); have n4_ := Aside0.mk ((by rw [hg]; exact (below_size (iL HB)) : w.heap.size ≤ gb338)); have n5_ := Aside0.mk ((by rw [hg]; exact (below_size (iL HB)) : w.heap.size ≤ gb338)); clear HO_5; clear HO_53; clear HB; have HO_5 := n0_; have HO_53 := n1_; have HB := n2_; have BK338 := n3_; have GW338 := n4_; have GE338 := n5_; clear n0_ n1_ n2_ n3_ n4_ n5_; clear hb hbox hg; have hcz34_0 := cZ BK338 0 (.int .i64 0); have hcz34_1 := cZ BK338 1 (.int .i64 0); have hfz34_0 := blk_frozen BK338.out 0; have hfz34_1 := blk_frozen BK338.out 1))
              go_ret
              exact ⟨by first | rfl | (simp [errW_none, errW_some] <;> rfl) | (simp [*, errW_none, errW_some] <;> rfl), by repeat (first | (with_reducible first | exact HB.out | apply below_alloc | apply pw_below_drewN | apply below_drew1 | refine below_set ?_ GE338.out) | exact HB.out)⟩
            ·rw [if_neg c29] at H
             have c29b0 : (((rd_T29 t333 x55_3).f0) == x55_3) = false := beq_eq_false_iff_ne.mpr c29
             have c29b1 : (((rd_T29 t333 x55_3).f0) != x55_3) = true := bne_iff_ne.mpr c29
             obtain rfl := Option.some.inj H
             have p337 : 0 ≤ (x55_3 : Int) := of_decide_eq_true (by first | (with_reducible assumption) | assumption)
             have q337 : x55_3 < (t333.length : Int) := of_decide_eq_true (by first | (with_reducible assumption) | assumption)
             obtain ⟨ad337, e337, hx337_0, hx337_1⟩ := at_T29 (Kd.R_reads' HO_53.out).2.2 x55_3 p337 q337
             cases e337
             replace p337 := eq_true p337
             replace q337 := eq_true q337
             go_wp2_with (first | ((with_reducible refine gate_dst (N := 10) rfl ?_); (try (refine gate_guard (by rfl) ?_; dsimp only)); refine bX 10 #[.int .i64 0, .int .i64 0] 29 ?_; intro gb338 hg w35 hbox hb; have n0_ := Aside0.mk (Kd.R_below (Kd.R_elderB (iR HO_5) gb338 (Nat.le_of_eq hg.symm)) hb); have n1_ := Aside0.mk (Kd.R_below (Kd.R_elderB (iR HO_53) gb338 (Nat.le_of_eq hg.symm)) hb); have n2_ := jL HB hb; have n3_ := Aside0.mk (hbox); have n4_ := Aside0.mk ((by rw [hg]; exact (below_size (iL HB)) : w.heap.size ≤ gb338)); have n5_ := Aside0.mk ((by rw [hg]; exact (below_size (iL HB)) : w.heap.size ≤ gb338)); clear HO_5; clear HO_53; clear HB; have HO_5 := n0_; have HO_53 := n1_; have HB := n2_; have BK338 := n3_; have GW338 := n4_; have GE338 := n5_; clear n0_ n1_ n2_ n3_ n4_ n5_; clear hb hbox hg; have hcz36_0 := cZ BK338 0 (.int .i64 0); have hcz36_1 := cZ BK338 1 (.int .i64 0); have hfz36_0 := blk_frozen BK338.out 0; have hfz36_1 := blk_frozen BK338.out 1))
             go_ret
             exact ⟨by first | rfl | (simp [errW_none, errW_some] <;> rfl) | (simp [*, errW_none, errW_some] <;> rfl), by repeat (first | (with_reducible first | exact HB.out | apply below_alloc | apply pw_below_drewN | apply below_drew1 | refine below_set ?_ GE338.out) | exact HB.out)⟩
           ·rw [if_neg c28] at H
            exact absurd H (by simp)
          ·rw [if_neg c27] at H
           exact absurd H (by simp)
         ·rw [if_neg c26] at H
          have c26b0 : decide (x55_3 < (t333.length : Int)) = false := decide_eq_false c26
          clear c26
          replace H := Option.bind_eq_some_iff.mp H
          obtain ⟨⟨t339, t340⟩, A370, H⟩ := H
          try dsimp only at H
          have A37 := Aside0.mk A370
          clear A370
          by_cases c38 : t334 = t340
          ·rw [if_pos c38] at H
           have c38b0 : (t334 == t340) = true := beq_iff_eq.mpr c38
           have c38b1 : (t334 != t340) = false := bne_eq_false_iff_eq.mpr c38
           clear c38
           obtain rfl := Option.some.inj H
           go_wp2_with (first | ((with_reducible refine gate_callee (f := 13) rfl ?_); refine gL_ (some 73) Try.func13 #[.string a0] ?_; (with_reducible refine (ancepsref01_Words.calls k3 a0 t339 t340 _ A37.out).mono ?_); rintro e w39 ⟨v341, rfl, ho0, hb⟩; refine ⟨_, rfl, ?_⟩; have n0_ := jR HO_5 hb; have n1_ := jR HO_53 hb; have n2_ := Aside0.mk (Kd.R_lower ho0 (below_size (iL HB))); have n3_ := jL HB hb; clear HO_5; clear HO_53; clear HB; have HO_5 := n0_; have HO_53 := n1_; have HO342 := n2_; have HB := n3_; clear n0_ n1_ n2_ n3_; (try clear hb); (try clear hb2); (try clear hk); (try clear hi); (try clear ho0); obtain ⟨Ao40, co40, eo40⟩ := Kd.R_slice HO342.out; subst eo40))
           go_ret
           exact ⟨by first | rfl | (simp [errW_none, errW_some] <;> rfl) | (simp [*, errW_none, errW_some] <;> rfl), by repeat (first | (with_reducible first | exact HB.out | apply below_alloc | apply pw_below_drewN | apply below_drew1) | exact HB.out)⟩
          ·rw [if_neg c38] at H
           have c38b0 : (t334 == t340) = false := beq_eq_false_iff_ne.mpr c38
           have c38b1 : (t334 != t340) = true := bne_iff_ne.mpr c38
           obtain rfl := Option.some.inj H
           go_wp2_with (first | ((with_reducible refine gate_callee (f := 13) rfl ?_); refine gL_ (some 73) Try.func13 #[.string a0] ?_; (with_reducible refine (ancepsref01_Words.calls k3 a0 t339 t340 _ A37.out).mono ?_); rintro e w41 ⟨v341, rfl, ho0, hb⟩; refine ⟨_, rfl, ?_⟩; have n0_ := jR HO_5 hb; have n1_ := jR HO_53 hb; have n2_ := Aside0.mk (Kd.R_lower ho0 (below_size (iL HB))); have n3_ := jL HB hb; clear HO_5; clear HO_53; clear HB; have HO_5 := n0_; have HO_53 := n1_; have HO342 := n2_; have HB := n3_; clear n0_ n1_ n2_ n3_; (try clear hb); (try clear hb2); (try clear hk); (try clear hi); (try clear ho0)))
           go_ret
           exact ⟨by first | rfl | (simp [errW_none, errW_some] <;> rfl) | (simp [*, errW_none, errW_some] <;> rfl), by repeat (first | (with_reducible first | exact HB.out | apply below_alloc | apply pw_below_drewN | apply below_drew1) | exact HB.out)⟩

/-- THE ONE PURE STATEMENT of ancepslaw57_ApparatusWords: yours. -/
def ancepslaw57_ApparatusWords.Pure : Prop := ∀ (a0 : ByteArray) (a1 : ByteArray), a0.size ≤ 140737488351232 → a1.size ≤ 140737488351232 → ∃ k, ancepslaw57_ApparatusWords.f k a0 a1 = some true
theorem ancepslaw57_ApparatusWords.walk (P : ancepslaw57_ApparatusWords.Pure) (a0 : ByteArray) (a1 : ByteArray) (w : World) (w0 : a0.size ≤ 140737488351232) (w1 : a1.size ≤ 140737488351232) :
  Calls Try.prog 3 #[.string a0, .string a1] w fun e w' => e = .returned (.bool true) ∧ Below w.heap.size w w' := by
 obtain ⟨k, h⟩ := P a0 a1 w0 w1
 refine (ancepslaw57_ApparatusWords.calls k a0 a1 true w h).mono ?_
 rintro e w' ⟨rfl, hd⟩
 exact ⟨rfl, hd⟩

end Go.Proofs.Ytmjigfoldeekmaa.X
