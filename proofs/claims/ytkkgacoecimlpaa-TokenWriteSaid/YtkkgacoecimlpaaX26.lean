-- printed by this session's xprint.py: out of the translation, by the kit's print with additions; Lean checks it
import Derived.Test.YtkkgacoecimlpaaWN
import Derived.Test.YtkkgacoecimlpaaWShare
import Derived.Test.YtkkgacoecimlpaaWRepsOne
import Derived.Test.YtkkgacoecimlpaaX0
import Derived.Test.YtkkgacoecimlpaaX4
import Derived.Test.YtkkgacoecimlpaaX15
import Derived.Test.YtkkgacoecimlpaaX17
import Derived.Test.YtkkgacoecimlpaaX23
import Derived.Test.YtkkgacoecimlpaaX25
namespace Go.Proofs.Ytkkgacoecimlpaa.X
open Go.RowKit Go.Proofs.YtkkgacoecimlpaaW.PrintWords Go.Proofs.YtkkgacoecimlpaaW.PrintLast Go.Proofs.YtkkgacoecimlpaaW.PrintMore
attribute [local go_sem] max2_int min2_int max_two min_two max_three min_three max_four min_four isSome_setCell   -- for this text's walks alone
set_option linter.unusedVariables false
set_option linter.unusedSimpArgs false

/-! ### api_Token_28: function 28 -/
def api_Token_28.f (l0 : List (S31)) : Option ((List (S31))) := (some (([] : List (S31)) : List (S31))).bind fun y346 => (if y346.length + l0.length < 4398046511104 then (some (y346 ++ l0)) else (none))
set_option maxHeartbeats 8000000 in
set_option maxRecDepth 100000 in
theorem api_Token_28.calls (A0 : Option Addr) (c0 : Nat) (l0 : List (S31)) (r : List (S31)) (w : World) (hr0 : Kd.C k31 w A0 l0.length l0) (hc0 : l0.length ≤ c0) (h : api_Token_28.f l0 = some r) :
    Calls Try.prog 28 #[.slice A0 l0.length c0] w fun e w' => ∃ v0_ : Value, e = .returned (v0_) ∧ Kd.R k31 31 w' w.heap.size (fun _ => True) v0_ r ∧ Below w.heap.size w w' := by
  cases A0 with
  | none =>
    have hl_ := Kd.C_none hr0
    subst hl_
    have hr_ : r = [] := by (have h_ := h; simp [api_Token_28.f] at h_; first | exact h_ | exact h_.symm | exact h_.2 | exact h_.2.symm)
    subst hr_
    have hn_ := fun (W : World) => Go.Lib.run_eql_slice_nil (P := Try.prog) W 26 31 none 0 c0 0 0 Try.underlying26
    clear hr0 hc0 h
    go_enter Try.func28, Try.ntmps28
    (try simp only [List.length_nil])
    go_wp2
    go_ret
    exact ⟨_, rfl, Kd.R_nil _ _ _ _ _, Below.refl _ _⟩
  | some a0_ =>
    have hn_ := fun (W : World) => Go.Lib.run_eql_slice_nil (P := Try.prog) W 26 31 (some a0_) l0.length c0 0 0 Try.underlying26
    have HR0 := Aside0.mk hr0
    have HC0 := Aside0.mk hc0
    clear hr0 hc0
    have HB := Aside0.mk (Below.refl w.heap.size w)
    have H : ((some (([] : List (S31)) : List (S31))).bind fun y346 => (if y346.length + l0.length < 4398046511104 then (some (y346 ++ l0)) else (none))) = some r := h
    clear h
    obtain ⟨y346, hy346⟩ : ∃ y_ : List (S31), y_ = (([] : List (S31))) := ⟨_, rfl⟩
    replace H : (if y346.length + l0.length < 4398046511104 then (some (y346 ++ l0)) else (none)) = some r := by first | (rw [hy346]; with_reducible exact H) | (have H2_ := (Option.bind_some _ _).symm.trans H; rw [hy346]; with_reducible exact H2_) | (have H2_ := (Option.bind_some _ _).symm.trans H; with_reducible exact H2_) | with_reducible exact H | (rw [hy346]; exact H) | exact H
    have Ny346 := Aside0.mk hy346
    clear hy346
    by_cases c2 : y346.length + l0.length < 4398046511104
    · rw [if_pos c2] at H
      have LMc2 := Aside0.mk c2
      clear c2
      obtain ⟨y349, hy349⟩ : ∃ y_ : List (S31), y_ = (y346 ++ l0) := ⟨_, rfl⟩
      replace H : (some y349) = some r := by first | (rw [hy349]; with_reducible exact H) | (have H2_ := (Option.bind_some _ _).symm.trans H; rw [hy349]; with_reducible exact H2_) | (have H2_ := (Option.bind_some _ _).symm.trans H; with_reducible exact H2_) | with_reducible exact H | (rw [hy349]; exact H) | exact H
      have Ny349 := Aside0.mk hy349
      clear hy349
      obtain rfl := Option.some.inj H
      go_enter Try.func28, Try.ntmps28
      go_wp2_with (first | ((with_reducible refine gate_dst (N := 5) rfl ?_); refine Kd.R_lit k31 _ 31 ?hg (N := 5) ?hd (xs := ([] : List (S31))) (inner := []) (ok := fun _ => True) (okp := fun _ => True) ?hr ?hp (fun _ hk => hk) trivial (Below.refl _ _) (Nat.le_refl _) (by simp) ?_; (case hd => rfl); (case hg => rfl); (case hr => first | (go_simp; done) | (go_simp; rfl)); (case hp => exact (Reps.none _ _)); intro v347 w3 ho4 hb hg_ hnew_; clear hg_ hnew_; (first | rw [← Ny346.out] at ho4 | (simp only [Int.reduceToNat] at ho4; rw [← Ny346.out] at ho4)); have n0_ := Aside0.mk (Kd.R_lower ho4 (below_size (by repeat (first | (with_reducible first | exact HB.out | apply below_alloc | apply pw_below_drewN | apply below_drew1) | exact HB.out)))); have n1_ := Aside0.mk (below_step (by repeat (first | (with_reducible first | exact HB.out | apply below_alloc | apply pw_below_drewN | apply below_drew1) | exact HB.out)) hb); clear HB; have HO348 := n0_; have HB := n1_; clear n0_ n1_; clear hb ho4) | ((with_reducible refine gate_builtin (b := .append) (xs := #[.tmp 5, .tmp 6]) rfl ?_); at_builtin; refine Kd.R_append_rows k31 (w0 := w) w.heap.size rfl (.tmp 5) (.tmp 6) 26 31 (.agg #[(.int .i64 0), (.string ⟨#[]⟩), (.int .i64 0)]) 32 rfl Try.underlying26 info31 rfl (by decide) (by omega) v347 y346 l0 _ _ _ (fun _ => True) (fun _ => False) rfl rfl ?aO ?aR (fun _ _ h => h) (fun _ h => h.elim) ?aF ?aB ?aS ?aL ?_; (case aR => repeat (first | exact (Kd.C_below HR0.out HB.out) | (with_reducible refine Kd.C_alloc ?_ _) | (with_reducible refine Kd.C_drewN ?_ _) | (with_reducible refine Kd.C_drew ?_))); (case aB => exact (by repeat (first | (with_reducible first | exact HB.out | apply below_alloc | apply pw_below_drewN | apply below_drew1) | exact HB.out))); (case aF => exact (fun _ _ => trivial)); (case aO => exact (by (with_reducible repeat (first | apply Kd.R_alloc | apply Kd.R_drewN | apply Kd.R_drew)); exact HO348.out)); (case aS => exact (below_size (by repeat (first | (with_reducible first | exact HB.out | apply below_alloc | apply pw_below_drewN | apply below_drew1) | exact HB.out)))); (case aL => have := LMc2.out; omega); intro v350 w5 ho hb hg hat; rw [← Ny349.out] at ho; have n0_ := Aside0.mk (hb); have n1_ := Aside0.mk (ho); clear HB; clear HO348; have HB := n0_; have HO351 := n1_; clear n0_ n1_; clear ho hb hg hat))
      go_ret
      exact ⟨_, by first | rfl | (simp [errW_none, errW_some] <;> rfl) | (simp [*, errW_none, errW_some] <;> rfl), by (with_reducible repeat (first | apply Kd.R_alloc | apply Kd.R_drewN | apply Kd.R_drew)); exact HO351.out, by repeat (first | (with_reducible first | exact HB.out | apply below_alloc | apply pw_below_drewN | apply below_drew1) | exact HB.out)⟩
    · rw [if_neg c2] at H
      exact absurd H (by simp)


/-! ### ancepslaw05_TokenWrite: function 9 -/
mutual
def ancepslaw05_TokenWrite.j0 : Nat → List (S31) → Bool → Option (Bool)
  | 0, _, _ => none
  | k + 1, x0, x18 => if x18 = true then ((ancepslaw05_awake.f k).bind fun t354 => (some t354)) else ((api_Token_28.f x0).bind fun t355 => ((token_Write.f k t355).bind fun bt358 => ((ancepsref05_Write.f k x0).bind fun bt360 => (if bt358.2 = bt360.2 then (if bt358.1.toList = bt360.1.toList then (ancepslaw05_TokenWrite.j1 k x0 bt358.1 bt358.2 bt360.1 bt360.2 (bt358.2 != 0)) else (ancepslaw05_TokenWrite.j1 k x0 bt358.1 bt358.2 bt360.1 bt360.2 true)) else (ancepslaw05_TokenWrite.j1 k x0 bt358.1 bt358.2 bt360.1 bt360.2 true)))))
def ancepslaw05_TokenWrite.j1 : Nat → List (S31) → ByteArray → Int → ByteArray → Int → Bool → Option (Bool)
  | 0, _, _, _, _, _, _ => none
  | k + 1, x0, x3, x4, x5, x6, x42 => if x42 = true then (if x4 = x6 then (some (x3.toList == x5.toList)) else (some false)) else ((token_Tokens.f k x3).bind fun bt362 => (ancepslaw05_TokenWrite.l0 k x0 bt362.1 bt362.2.2 bt362.1 (bt362.1.length : Int) 0))
def ancepslaw05_TokenWrite.l0 : Nat → List (S31) → List (S31) → Int → List (S31) → Int → Int → Option (Bool)
  | 0, _, _, _, _, _, _ => none
  | k + 1, x0, x7, x9, x57, x58, x59 => if x59 < x58 then (if 0 ≤ x59 then (if x59 < (x57.length : Int) then (if ((rd_T31 x57 x59).f2) = 1 then (ancepslaw05_TokenWrite.l0 k x0 x7 x9 x57 x58 (wrap64 (x59 + 1))) else (some false)) else (none)) else (none)) else (if x9 = 0 then ((ancepsref05_Same.f k x0 x7).bind fun t369 => (some t369)) else (some false))
end
def ancepslaw05_TokenWrite.f (k : Nat) (l0 : List (S31)) : Option (Bool) := (ancepslaw05_awake.f k).bind fun t352 => (if t352 = true then ((ancepsref05_Few.f k l0).bind fun t353 => (ancepslaw05_TokenWrite.j0 k l0 (!t353))) else (ancepslaw05_TokenWrite.j0 k l0 true))
theorem ancepslaw05_TokenWrite.mono_l : ∀ k, (∀ y0 y1, LeO (ancepslaw05_TokenWrite.j0 k y0 y1) (ancepslaw05_TokenWrite.j0 (k + 1) y0 y1)) ∧ (∀ y0 y1 y2 y3 y4 y5, LeO (ancepslaw05_TokenWrite.j1 k y0 y1 y2 y3 y4 y5) (ancepslaw05_TokenWrite.j1 (k + 1) y0 y1 y2 y3 y4 y5)) ∧ (∀ y0 y1 y2 y3 y4 y5, LeO (ancepslaw05_TokenWrite.l0 k y0 y1 y2 y3 y4 y5) (ancepslaw05_TokenWrite.l0 (k + 1) y0 y1 y2 y3 y4 y5))
  | 0 => ⟨fun _ _ r h => by simp [ancepslaw05_TokenWrite.j0] at h, fun _ _ _ _ _ _ r h => by simp [ancepslaw05_TokenWrite.j1] at h, fun _ _ _ _ _ _ r h => by simp [ancepslaw05_TokenWrite.l0] at h⟩
  | k + 1 => by
    obtain ⟨ih0, ih1, ih2⟩ := ancepslaw05_TokenWrite.mono_l k
    refine ⟨?_, ?_, ?_⟩
    · intro y0 y1
      unfold ancepslaw05_TokenWrite.j0
      repeat' first
      | (with_reducible exact ih0 _ _)
      | (with_reducible exact ih1 _ _ _ _ _ _)
      | (with_reducible exact ih2 _ _ _ _ _ _)
      | (with_reducible exact ancepslaw05_awake.mono _)
      | (with_reducible exact ancepsref05_Few.mono _ _)
      | (with_reducible exact ancepsref05_Same.mono _ _ _)
      | (with_reducible exact ancepsref05_Write.mono _ _)
      | (with_reducible exact token_Tokens.mono _ _)
      | (with_reducible exact token_Write.mono _ _)
      | (with_reducible exact LeO.refl _)
      | (with_reducible exact LeO.none _)
      | (with_reducible refine LeO.ite ?_ ?_)
      | (with_reducible refine LeO.bind ?_ (fun _ => ?_))
      | exact ih0 _ _
      | exact ih1 _ _ _ _ _ _
      | exact ih2 _ _ _ _ _ _
      | exact ancepslaw05_awake.mono _
      | exact ancepsref05_Few.mono _ _
      | exact ancepsref05_Same.mono _ _ _
      | exact ancepsref05_Write.mono _ _
      | exact token_Tokens.mono _ _
      | exact token_Write.mono _ _
      | exact LeO.none _
      | refine LeO.ite ?_ ?_
      | refine LeO.bind ?_ (fun _ => ?_)
    · intro y0 y1 y2 y3 y4 y5
      unfold ancepslaw05_TokenWrite.j1
      repeat' first
      | (with_reducible exact ih0 _ _)
      | (with_reducible exact ih1 _ _ _ _ _ _)
      | (with_reducible exact ih2 _ _ _ _ _ _)
      | (with_reducible exact ancepslaw05_awake.mono _)
      | (with_reducible exact ancepsref05_Few.mono _ _)
      | (with_reducible exact ancepsref05_Same.mono _ _ _)
      | (with_reducible exact ancepsref05_Write.mono _ _)
      | (with_reducible exact token_Tokens.mono _ _)
      | (with_reducible exact token_Write.mono _ _)
      | (with_reducible exact LeO.refl _)
      | (with_reducible exact LeO.none _)
      | (with_reducible refine LeO.ite ?_ ?_)
      | (with_reducible refine LeO.bind ?_ (fun _ => ?_))
      | exact ih0 _ _
      | exact ih1 _ _ _ _ _ _
      | exact ih2 _ _ _ _ _ _
      | exact ancepslaw05_awake.mono _
      | exact ancepsref05_Few.mono _ _
      | exact ancepsref05_Same.mono _ _ _
      | exact ancepsref05_Write.mono _ _
      | exact token_Tokens.mono _ _
      | exact token_Write.mono _ _
      | exact LeO.none _
      | refine LeO.ite ?_ ?_
      | refine LeO.bind ?_ (fun _ => ?_)
    · intro y0 y1 y2 y3 y4 y5
      unfold ancepslaw05_TokenWrite.l0
      repeat' first
      | (with_reducible exact ih0 _ _)
      | (with_reducible exact ih1 _ _ _ _ _ _)
      | (with_reducible exact ih2 _ _ _ _ _ _)
      | (with_reducible exact ancepslaw05_awake.mono _)
      | (with_reducible exact ancepsref05_Few.mono _ _)
      | (with_reducible exact ancepsref05_Same.mono _ _ _)
      | (with_reducible exact ancepsref05_Write.mono _ _)
      | (with_reducible exact token_Tokens.mono _ _)
      | (with_reducible exact token_Write.mono _ _)
      | (with_reducible exact LeO.refl _)
      | (with_reducible exact LeO.none _)
      | (with_reducible refine LeO.ite ?_ ?_)
      | (with_reducible refine LeO.bind ?_ (fun _ => ?_))
      | exact ih0 _ _
      | exact ih1 _ _ _ _ _ _
      | exact ih2 _ _ _ _ _ _
      | exact ancepslaw05_awake.mono _
      | exact ancepsref05_Few.mono _ _
      | exact ancepsref05_Same.mono _ _ _
      | exact ancepsref05_Write.mono _ _
      | exact token_Tokens.mono _ _
      | exact token_Write.mono _ _
      | exact LeO.none _
      | refine LeO.ite ?_ ?_
      | refine LeO.bind ?_ (fun _ => ?_)
theorem ancepslaw05_TokenWrite.mono : ∀ a0 k, LeO (ancepslaw05_TokenWrite.f k a0) (ancepslaw05_TokenWrite.f (k + 1) a0) := by
  intro a0 k
  obtain ⟨ih0, ih1, ih2⟩ := ancepslaw05_TokenWrite.mono_l k
  unfold ancepslaw05_TokenWrite.f
  repeat' first
      | (with_reducible exact ih0 _ _)
      | (with_reducible exact ih1 _ _ _ _ _ _)
      | (with_reducible exact ih2 _ _ _ _ _ _)
      | (with_reducible exact ancepslaw05_awake.mono _)
      | (with_reducible exact ancepsref05_Few.mono _ _)
      | (with_reducible exact ancepsref05_Same.mono _ _ _)
      | (with_reducible exact ancepsref05_Write.mono _ _)
      | (with_reducible exact token_Tokens.mono _ _)
      | (with_reducible exact token_Write.mono _ _)
      | (with_reducible exact LeO.refl _)
      | (with_reducible exact LeO.none _)
      | (with_reducible refine LeO.ite ?_ ?_)
      | (with_reducible refine LeO.bind ?_ (fun _ => ?_))
      | exact ih0 _ _
      | exact ih1 _ _ _ _ _ _
      | exact ih2 _ _ _ _ _ _
      | exact ancepslaw05_awake.mono _
      | exact ancepsref05_Few.mono _ _
      | exact ancepsref05_Same.mono _ _ _
      | exact ancepsref05_Write.mono _ _
      | exact token_Tokens.mono _ _
      | exact token_Write.mono _ _
      | exact LeO.none _
      | refine LeO.ite ?_ ?_
      | refine LeO.bind ?_ (fun _ => ?_)
set_option maxHeartbeats 8000000 in
set_option maxRecDepth 100000 in
theorem ancepslaw05_TokenWrite.calls (k : Nat) (A0 : Option Addr) (c0 : Nat) (l0 : List (S31)) (r : Bool) (w : World) (hr0 : Kd.C k31 w A0 l0.length l0) (hc0 : l0.length ≤ c0) (h : ancepslaw05_TokenWrite.f k l0 = some r) :
    Calls Try.prog 9 #[.slice A0 l0.length c0] w fun e w' => e = .returned (.bool r) ∧ Below w.heap.size w w' := by
  have hu31 := Try.underlying31
  have HR0 := Aside0.mk hr0
  have HC0 := Aside0.mk hc0
  clear hr0 hc0
  have HB := Aside0.mk (Below.refl w.heap.size w)
  have H : ((ancepslaw05_awake.f k).bind fun t352 => (if t352 = true then ((ancepsref05_Few.f k l0).bind fun t353 => (ancepslaw05_TokenWrite.j0 k l0 (!t353))) else (ancepslaw05_TokenWrite.j0 k l0 true))) = some r := h
  clear h
  have HC2 := Aside0.mk H
  clear H
  go_enter Try.func9, Try.ntmps9
  go_upto_region 1 with (fail)
  go_cut [18] (fun v18 wc => ∃ (kq : Nat) (x18_1 : Bool), v18 = .bool x18_1 ∧ Aside0 (ancepslaw05_TokenWrite.j0 kq l0 x18_1 = some r) ∧ Aside0 (kq ≤ k) ∧ Aside0 (Below w.heap.size w wc))
  case first =>
    have H := HC2.out
    clear HC2
    replace H := Option.bind_eq_some_iff.mp H
    obtain ⟨t352, A30, H⟩ := H
    replace H : (if t352 = true then ((ancepsref05_Few.f k l0).bind fun t353 => (ancepslaw05_TokenWrite.j0 k l0 (!t353))) else (ancepslaw05_TokenWrite.j0 k l0 true)) = some r := H
    have A3 := Aside0.mk A30
    clear A30
    by_cases c4 : t352 = true
    · subst c4
      have H1 : ((ancepsref05_Few.f k l0).bind fun t353 => (ancepslaw05_TokenWrite.j0 k l0 (!t353))) = some r := by rw [if_pos rfl] at H; exact H
      clear H
      have H := H1
      clear H1
      replace H := Option.bind_eq_some_iff.mp H
      obtain ⟨t353, A50, H⟩ := H
      replace H : (ancepslaw05_TokenWrite.j0 k l0 (!t353)) = some r := H
      have A5 := Aside0.mk A50
      clear A50
      have H' := Aside0.mk H
      clear H
      go_wp2_with (first | ((with_reducible refine gate_callee (f := 11) rfl ?_); refine goesL_ (some 12) rfl rfl Try.func11 (by kernel_rfl) rfl #[] rfl (by (try simp only [List.map_toArray, List.map_cons, List.map_nil]); first | done | rfl | (simp only [List.length_drop, List.length_take]; rfl)) ?_; (with_reducible refine (ancepslaw05_awake.calls k  true _ A3.out).mono ?_); rintro e w6 ⟨rfl, hb⟩; refine ⟨_, rfl, ?_⟩; have n0_ := Aside0.mk (below_step (by repeat (first | (with_reducible first | exact HB.out | apply below_alloc | apply pw_below_drewN | apply below_drew1) | exact HB.out)) hb); clear HB; have HB := n0_; clear n0_; (try clear hb); (try clear hb2); (try clear hk); (try clear hi)) | (go_at_call 19; (with_reducible refine (ancepsref05_Few.calls k _ _ l0 t353 _ ?side1 ?side2 A5.out).mono ?_); (case side1 => repeat (first | exact (Kd.C_below HR0.out HB.out) | (with_reducible refine Kd.C_alloc ?_ _) | (with_reducible refine Kd.C_drewN ?_ _) | (with_reducible refine Kd.C_drew ?_))); (case side2 => exact HC0.out); rintro e w' ⟨rfl, ⟨nd, rfl⟩⟩))
      go_meet
      case rel => exact ⟨_, (!t353), (by first | rfl | (simp; done) | (simp [*]; done)), H', ⟨by first | omega | exact Nat.le_refl _⟩, ⟨by repeat (first | (with_reducible first | exact HB.out | apply below_alloc | apply pw_below_drewN | apply below_drew1) | exact HB.out)⟩⟩
    · replace c4 := Bool.eq_false_iff.mpr c4
      subst c4
      have H1 : (ancepslaw05_TokenWrite.j0 k l0 true) = some r := by rw [if_neg (show ¬ (false = true) by decide)] at H; exact H
      clear H
      have H := H1
      clear H1
      have H' := Aside0.mk H
      clear H
      go_wp2_with (first | ((with_reducible refine gate_callee (f := 11) rfl ?_); refine goesL_ (some 12) rfl rfl Try.func11 (by kernel_rfl) rfl #[] rfl (by (try simp only [List.map_toArray, List.map_cons, List.map_nil]); first | done | rfl | (simp only [List.length_drop, List.length_take]; rfl)) ?_; (with_reducible refine (ancepslaw05_awake.calls k  false _ A3.out).mono ?_); rintro e w7 ⟨rfl, hb⟩; refine ⟨_, rfl, ?_⟩; have n0_ := Aside0.mk (below_step (by repeat (first | (with_reducible first | exact HB.out | apply below_alloc | apply pw_below_drewN | apply below_drew1) | exact HB.out)) hb); clear HB; have HB := n0_; clear n0_; (try clear hb); (try clear hb2); (try clear hk); (try clear hi)))
      go_meet
      case rel => exact ⟨_, (true), (by first | rfl | (simp; done) | (simp [*]; done)), H', ⟨by first | omega | exact Nat.le_refl _⟩, ⟨by repeat (first | (with_reducible first | exact HB.out | apply below_alloc | apply pw_below_drewN | apply below_drew1) | exact HB.out)⟩⟩
  case rest =>
    clear HC2
    try clear c1
    try clear p2
    try clear c4
    obtain ⟨kq, x18_1, rfl, HA, HJ1, HB⟩ := hcut
    cases kq with
    | zero => exact absurd HA.out (by simp [ancepslaw05_TokenWrite.j0])
    | succ kj1 =>
      have H := HA.out
      clear HA
      simp only [ancepslaw05_TokenWrite.j0] at H
      by_cases c8 : x18_1 = true
      · subst c8
        have H1 : ((ancepslaw05_awake.f kj1).bind fun t354 => (some t354)) = some r := by rw [if_pos rfl] at H; exact H
        clear H
        have H := H1
        clear H1
        replace H := Option.bind_eq_some_iff.mp H
        obtain ⟨t354, A90, H⟩ := H
        replace H : (some t354) = some r := H
        have A9 := Aside0.mk A90
        clear A90
        obtain rfl := Option.some.inj H
        go_wp2_with (first | ((with_reducible refine gate_callee (f := 11) rfl ?_); refine goesL_ (some 19) rfl rfl Try.func11 (by kernel_rfl) rfl #[] rfl (by (try simp only [List.map_toArray, List.map_cons, List.map_nil]); first | done | rfl | (simp only [List.length_drop, List.length_take]; rfl)) ?_; (with_reducible refine (ancepslaw05_awake.calls kj1  t354 _ A9.out).mono ?_); rintro e w10 ⟨rfl, hb⟩; refine ⟨_, rfl, ?_⟩; have n0_ := Aside0.mk (below_step (by repeat (first | (with_reducible first | exact HB.out | apply below_alloc | apply pw_below_drewN | apply below_drew1) | exact HB.out)) hb); clear HB; have HB := n0_; clear n0_; (try clear hb); (try clear hb2); (try clear hk); (try clear hi)))
        go_ret
        exact ⟨by first | rfl | (simp [errW_none, errW_some] <;> rfl) | (simp [*, errW_none, errW_some] <;> rfl), by repeat (first | (with_reducible first | exact HB.out | apply below_alloc | apply pw_below_drewN | apply below_drew1) | exact HB.out)⟩
      · replace c8 := Bool.eq_false_iff.mpr c8
        subst c8
        have H1 : ((api_Token_28.f l0).bind fun t355 => ((token_Write.f kj1 t355).bind fun bt358 => ((ancepsref05_Write.f kj1 l0).bind fun bt360 => (if bt358.2 = bt360.2 then (if bt358.1.toList = bt360.1.toList then (ancepslaw05_TokenWrite.j1 kj1 l0 bt358.1 bt358.2 bt360.1 bt360.2 (bt358.2 != 0)) else (ancepslaw05_TokenWrite.j1 kj1 l0 bt358.1 bt358.2 bt360.1 bt360.2 true)) else (ancepslaw05_TokenWrite.j1 kj1 l0 bt358.1 bt358.2 bt360.1 bt360.2 true))))) = some r := by rw [if_neg (show ¬ (false = true) by decide)] at H; exact H
        clear H
        have H := H1
        clear H1
        replace H := Option.bind_eq_some_iff.mp H
        obtain ⟨t355, A110, H⟩ := H
        replace H : ((token_Write.f kj1 t355).bind fun bt358 => ((ancepsref05_Write.f kj1 l0).bind fun bt360 => (if bt358.2 = bt360.2 then (if bt358.1.toList = bt360.1.toList then (ancepslaw05_TokenWrite.j1 kj1 l0 bt358.1 bt358.2 bt360.1 bt360.2 (bt358.2 != 0)) else (ancepslaw05_TokenWrite.j1 kj1 l0 bt358.1 bt358.2 bt360.1 bt360.2 true)) else (ancepslaw05_TokenWrite.j1 kj1 l0 bt358.1 bt358.2 bt360.1 bt360.2 true)))) = some r := H
        have A11 := Aside0.mk A110
        clear A110
        replace H := Option.bind_eq_some_iff.mp H
        obtain ⟨⟨t358, t359⟩, A120, H⟩ := H
        replace H : ((ancepsref05_Write.f kj1 l0).bind fun bt360 => (if t359 = bt360.2 then (if t358.toList = bt360.1.toList then (ancepslaw05_TokenWrite.j1 kj1 l0 t358 t359 bt360.1 bt360.2 (t359 != 0)) else (ancepslaw05_TokenWrite.j1 kj1 l0 t358 t359 bt360.1 bt360.2 true)) else (ancepslaw05_TokenWrite.j1 kj1 l0 t358 t359 bt360.1 bt360.2 true))) = some r := H
        have A12 := Aside0.mk A120
        clear A120
        replace H := Option.bind_eq_some_iff.mp H
        obtain ⟨⟨t360, t361⟩, A130, H⟩ := H
        replace H : (if t359 = t361 then (if t358.toList = t360.toList then (ancepslaw05_TokenWrite.j1 kj1 l0 t358 t359 t360 t361 (t359 != 0)) else (ancepslaw05_TokenWrite.j1 kj1 l0 t358 t359 t360 t361 true)) else (ancepslaw05_TokenWrite.j1 kj1 l0 t358 t359 t360 t361 true)) = some r := H
        have A13 := Aside0.mk A130
        clear A130
        have HC14 := Aside0.mk H
        clear H
        go_upto_region 5 with (first | ((with_reducible refine gate_callee (f := 28) rfl ?_); refine goesL_ (some 22) rfl rfl Try.func28 (by kernel_rfl) rfl #[.slice A0 l0.length c0] rfl (by (try simp only [List.map_toArray, List.map_cons, List.map_nil]); first | done | rfl | (simp only [List.length_drop, List.length_take]; rfl)) ?_; (with_reducible refine (api_Token_28.calls _ _ l0 t355 _ ?side1 ?side2 A11.out).mono ?_); (case side1 => repeat (first | exact (Kd.C_below HR0.out HB.out) | (with_reducible refine Kd.C_alloc ?_ _) | (with_reducible refine Kd.C_drewN ?_ _) | (with_reducible refine Kd.C_drew ?_))); (case side2 => exact HC0.out); rintro e w15 ⟨v356, rfl, ho0, hb⟩; refine ⟨_, rfl, ?_⟩; have n0_ := Aside0.mk (Kd.R_lower ho0 (below_size (by repeat (first | (with_reducible first | exact HB.out | apply below_alloc | apply pw_below_drewN | apply below_drew1) | exact HB.out)))); have n1_ := Aside0.mk (below_step (by repeat (first | (with_reducible first | exact HB.out | apply below_alloc | apply pw_below_drewN | apply below_drew1) | exact HB.out)) hb); clear HB; have HO357 := n0_; have HB := n1_; clear n0_ n1_; (try clear hb); (try clear hb2); (try clear hk); (try clear hi); (try clear ho0); obtain ⟨Ao16, co16, eo16⟩ := Kd.R_slice HO357.out; subst eo16) | ((with_reducible refine gate_callee (f := 27) rfl ?_); refine goesL_ (some 23) rfl rfl Try.func27 (by kernel_rfl) rfl #[.slice Ao16 t355.length co16] rfl (by (try simp only [List.map_toArray, List.map_cons, List.map_nil]); first | done | rfl | (simp only [List.length_drop, List.length_take]; rfl)) ?_; (with_reducible refine (token_Write.calls kj1 _ _ t355 t358 t359 _ ?side1 ?side2 A12.out).mono ?_); (case side1 => repeat (first | exact (Kd.R_reads' HO357.out).2.2 | (with_reducible refine Kd.C_alloc ?_ _) | (with_reducible refine Kd.C_drewN ?_ _) | (with_reducible refine Kd.C_drew ?_))); (case side2 => exact (Kd.R_reads' HO357.out).2.1); rintro e w17 ⟨rfl, hb⟩; refine ⟨_, rfl, ?_⟩; have n0_ := Aside0.mk (Kd.R_below (by (with_reducible repeat (first | apply Kd.R_alloc | apply Kd.R_drewN | apply Kd.R_drew)); exact HO357.out) hb); have n1_ := Aside0.mk (below_step (by repeat (first | (with_reducible first | exact HB.out | apply below_alloc | apply pw_below_drewN | apply below_drew1) | exact HB.out)) hb); clear HO357; clear HB; have HO357 := n0_; have HB := n1_; clear n0_ n1_; (try clear hb); (try clear hb2); (try clear hk); (try clear hi)) | ((with_reducible refine gate_callee (f := 25) rfl ?_); refine goesL_ (some 28) rfl rfl Try.func25 (by kernel_rfl) rfl #[.slice A0 l0.length c0] rfl (by (try simp only [List.map_toArray, List.map_cons, List.map_nil]); first | done | rfl | (simp only [List.length_drop, List.length_take]; rfl)) ?_; (with_reducible refine (ancepsref05_Write.calls kj1 _ _ l0 t360 t361 _ ?side1 ?side2 A13.out).mono ?_); (case side1 => repeat (first | exact (Kd.C_below HR0.out HB.out) | (with_reducible refine Kd.C_alloc ?_ _) | (with_reducible refine Kd.C_drewN ?_ _) | (with_reducible refine Kd.C_drew ?_))); (case side2 => exact HC0.out); rintro e w18 ⟨rfl, hb⟩; refine ⟨_, rfl, ?_⟩; have n0_ := Aside0.mk (Kd.R_below (by (with_reducible repeat (first | apply Kd.R_alloc | apply Kd.R_drewN | apply Kd.R_drew)); exact HO357.out) hb); have n1_ := Aside0.mk (below_step (by repeat (first | (with_reducible first | exact HB.out | apply below_alloc | apply pw_below_drewN | apply below_drew1) | exact HB.out)) hb); clear HO357; clear HB; have HO357 := n0_; have HB := n1_; clear n0_ n1_; (try clear hb); (try clear hb2); (try clear hk); (try clear hi)))
        (try simp only [Act.put, List.setIfInBounds_toArray, List.set_cons_zero, List.set_cons_succ])
        go_cut [42] (fun v42 wc => ∃ (kq : Nat) (x42_13 : Bool), v42 = .bool x42_13 ∧ Aside0 (ancepslaw05_TokenWrite.j1 kq l0 t358 t359 t360 t361 x42_13 = some r) ∧ Aside0 (kq ≤ kj1) ∧ Aside0 (Below w.heap.size w wc))
        case first =>
          have H := HC14.out
          clear HC14
          by_cases c19 : t359 = t361
          · rw [if_pos c19] at H
            have c19b0 : (t359 == t361) = true := beq_iff_eq.mpr c19
            have c19b1 : (t359 != t361) = false := bne_eq_false_iff_eq.mpr c19
            clear c19
            (first | rw [c19b0] | (simp only [i64_w, i32_w]; rw [c19b0]) | skip)
            by_cases c20 : t358.toList = t360.toList
            · rw [if_pos c20] at H
              have c20b0 : (t358.toList == t360.toList) = true := beq_iff_eq.mpr c20
              have c20b1 : (t358.toList != t360.toList) = false := bne_eq_false_iff_eq.mpr c20
              clear c20
              have H' := Aside0.mk H
              clear H
              go_wp2
              go_meet
              case rel => exact ⟨_, ((t359 != 0)), (by first | rfl | (simp; done) | (simp [*]; done)), H', ⟨by have := HJ1.out; first | omega | exact Nat.le_refl _⟩, ⟨by repeat (first | (with_reducible first | exact HB.out | apply below_alloc | apply pw_below_drewN | apply below_drew1) | exact HB.out)⟩⟩
            · rw [if_neg c20] at H
              have c20b0 : (t358.toList == t360.toList) = false := beq_eq_false_iff_ne.mpr c20
              have c20b1 : (t358.toList != t360.toList) = true := bne_iff_ne.mpr c20
              have H' := Aside0.mk H
              clear H
              go_wp2
              go_meet
              case rel => exact ⟨_, (true), (by first | rfl | (simp; done) | (simp [*]; done)), H', ⟨by have := HJ1.out; first | omega | exact Nat.le_refl _⟩, ⟨by repeat (first | (with_reducible first | exact HB.out | apply below_alloc | apply pw_below_drewN | apply below_drew1) | exact HB.out)⟩⟩
          · rw [if_neg c19] at H
            have c19b0 : (t359 == t361) = false := beq_eq_false_iff_ne.mpr c19
            have c19b1 : (t359 != t361) = true := bne_iff_ne.mpr c19
            (first | rw [c19b0] | (simp only [i64_w, i32_w]; rw [c19b0]) | skip)
            have H' := Aside0.mk H
            clear H
            go_wp2
            go_meet
            case rel => exact ⟨_, (true), (by first | rfl | (simp; done) | (simp [*]; done)), H', ⟨by have := HJ1.out; first | omega | exact Nat.le_refl _⟩, ⟨by repeat (first | (with_reducible first | exact HB.out | apply below_alloc | apply pw_below_drewN | apply below_drew1) | exact HB.out)⟩⟩
        case rest =>
          clear HC14
          try clear c1
          try clear c2
          try clear p2
          try clear c4
          try clear c8
          try clear c9
          try clear c11
          try clear c19
          try clear c19b0
          try clear c19b1
          try clear c20
          try clear c20b0
          try clear c20b1
          try clear p2
          obtain ⟨kq, x42_13, rfl, HA, HJ13, HB⟩ := hcut
          cases kq with
          | zero => exact absurd HA.out (by simp [ancepslaw05_TokenWrite.j1])
          | succ kj13 =>
            have H := HA.out
            clear HA
            simp only [ancepslaw05_TokenWrite.j1] at H
            by_cases c21 : x42_13 = true
            · subst c21
              have H1 : (if t359 = t361 then (some (t358.toList == t360.toList)) else (some false)) = some r := by rw [if_pos rfl] at H; exact H
              clear H
              have H := H1
              clear H1
              by_cases c22 : t359 = t361
              · rw [if_pos c22] at H
                have c22b0 : (t359 == t361) = true := beq_iff_eq.mpr c22
                have c22b1 : (t359 != t361) = false := bne_eq_false_iff_eq.mpr c22
                clear c22
                obtain rfl := Option.some.inj H
                go_wp2
                go_ret
                exact ⟨by first | rfl | (simp [errW_none, errW_some] <;> rfl) | (simp [*, errW_none, errW_some] <;> rfl), by repeat (first | (with_reducible first | exact HB.out | apply below_alloc | apply pw_below_drewN | apply below_drew1) | exact HB.out)⟩
              · rw [if_neg c22] at H
                have c22b0 : (t359 == t361) = false := beq_eq_false_iff_ne.mpr c22
                have c22b1 : (t359 != t361) = true := bne_iff_ne.mpr c22
                obtain rfl := Option.some.inj H
                go_wp2
                go_ret
                exact ⟨by first | rfl | (simp [errW_none, errW_some] <;> rfl) | (simp [*, errW_none, errW_some] <;> rfl), by repeat (first | (with_reducible first | exact HB.out | apply below_alloc | apply pw_below_drewN | apply below_drew1) | exact HB.out)⟩
            · replace c21 := Bool.eq_false_iff.mpr c21
              subst c21
              have H1 : ((token_Tokens.f kj13 t358).bind fun bt362 => (ancepslaw05_TokenWrite.l0 kj13 l0 bt362.1 bt362.2.2 bt362.1 (bt362.1.length : Int) 0)) = some r := by rw [if_neg (show ¬ (false = true) by decide)] at H; exact H
              clear H
              have H := H1
              clear H1
              replace H := Option.bind_eq_some_iff.mp H
              obtain ⟨⟨t362, t363, t364⟩, A230, H⟩ := H
              replace H : (ancepslaw05_TokenWrite.l0 kj13 l0 t362 t364 t362 (t362.length : Int) 0) = some r := H
              have A23 := Aside0.mk A230
              clear A230
              have H' := Aside0.mk H
              clear H
              go_wp2_with (first | ((with_reducible refine gate_callee (f := 16) rfl ?_); refine goesL_ (some 53) rfl rfl Try.func16 (by kernel_rfl) rfl #[.string t358] rfl (by (try simp only [List.map_toArray, List.map_cons, List.map_nil]); first | done | rfl | (simp only [List.length_drop, List.length_take]; rfl)) ?_; (with_reducible refine (token_Tokens.calls kj13 t358 t362 t363 t364 _ A23.out).mono ?_); rintro e w24 ⟨v365, rfl, ho0, hb⟩; refine ⟨_, rfl, ?_⟩; have n0_ := Aside0.mk (Kd.R_lower ho0 (below_size (by repeat (first | (with_reducible first | exact HB.out | apply below_alloc | apply pw_below_drewN | apply below_drew1) | exact HB.out)))); have n1_ := Aside0.mk (below_step (by repeat (first | (with_reducible first | exact HB.out | apply below_alloc | apply pw_below_drewN | apply below_drew1) | exact HB.out)) hb); clear HB; have HO366 := n0_; have HB := n1_; clear n0_ n1_; (try clear hb); (try clear hb2); (try clear hk); (try clear hi); (try clear ho0); obtain ⟨Ao25, co25, eo25⟩ := Kd.R_slice HO366.out; subst eo25))
              go_loopg [59] kj13 (fun kq v59 w' => ∃ (x59_3 : Int), v59 = .int .i64 x59_3 ∧ Aside0 (ancepslaw05_TokenWrite.l0 kq l0 t362 t364 t362 (t362.length : Int) x59_3 = some r) ∧ Aside0 (kq ≤ kj13) ∧ Aside0 (Kd.R k31 31 w' w.heap.size (fun _ => True) (.slice Ao25 t362.length co25) t362) ∧ Aside0 (Kd.R k31 31 w' w.heap.size (fun _ => True) (.slice Ao25 t362.length co25) t362) ∧ Aside0 (Below w.heap.size w w'))
              case atStart => exact ⟨(0), (by first | rfl | (simp; done) | (simp [*]; done)), H', ⟨Nat.le_refl _⟩, ⟨by (with_reducible repeat (first | apply Kd.R_alloc | apply Kd.R_drewN | apply Kd.R_drew)); exact HO366.out⟩, ⟨by (with_reducible repeat (first | apply Kd.R_alloc | apply Kd.R_drewN | apply Kd.R_drew)); exact HO366.out⟩, ⟨by repeat (first | (with_reducible first | exact HB.out | apply below_alloc | apply pw_below_drewN | apply below_drew1) | exact HB.out)⟩⟩
              case round =>
                clear H'
                try clear c1
                try clear c2
                try clear p2
                try clear c4
                try clear c8
                try clear c9
                try clear c11
                try clear c16
                try clear c19
                try clear c19b0
                try clear c19b1
                try clear c20
                try clear c20b0
                try clear c20b1
                try clear c21
                try clear c22
                try clear c22b0
                try clear c22b1
                try clear c25
                try clear p2
                obtain ⟨x59_3, rfl, HA, HK3, HO_7, HO_57, HB⟩ := hrel
                cases gk with
                | zero => exact absurd HA.out (by simp [ancepslaw05_TokenWrite.l0])
                | succ k3 =>
                  have H := HA.out
                  clear HA
                  simp only [ancepslaw05_TokenWrite.l0] at H
                  by_cases c26 : x59_3 < (t362.length : Int)
                  · rw [if_pos c26] at H
                    have c26b0 : decide (x59_3 < (t362.length : Int)) = true := decide_eq_true c26
                    clear c26
                    by_cases c27 : 0 ≤ x59_3
                    · rw [if_pos c27] at H
                      have c27b0 : decide (0 ≤ x59_3) = true := decide_eq_true c27
                      clear c27
                      by_cases c28 : x59_3 < (t362.length : Int)
                      · rw [if_pos c28] at H
                        have c28b0 : decide (x59_3 < (t362.length : Int)) = true := decide_eq_true c28
                        clear c28
                        by_cases c29 : ((rd_T31 t362 x59_3).f2) = 1
                        · rw [if_pos c29] at H
                          have c29b0 : (((rd_T31 t362 x59_3).f2) == 1) = true := beq_iff_eq.mpr c29
                          have c29b1 : (((rd_T31 t362 x59_3).f2) != 1) = false := bne_eq_false_iff_eq.mpr c29
                          clear c29
                          have H' := Aside0.mk H
                          clear H
                          have p367 : 0 ≤ (x59_3 : Int) := of_decide_eq_true (by first | (with_reducible assumption) | assumption)
                          have q367 : x59_3 < (t362.length : Int) := of_decide_eq_true (by first | (with_reducible assumption) | assumption)
                          obtain ⟨ad367, e367, hx367_0, hx367_1, hx367_2⟩ := at_T31 (Kd.R_reads' HO_57.out).2.2 x59_3 p367 q367
                          cases e367
                          replace p367 := eq_true p367
                          replace q367 := eq_true q367
                          go_wp2_with (first | ((with_reducible refine gate_dst (N := 11) rfl ?_); refine box_event ?hg (N := 11) ?hd (cs := #[.int .i64 0, .string (⟨#[]⟩ : ByteArray), .int .i64 0]) (t := 31) ?hr ?_; (case hd => rfl); (case hg => rfl); (case hr => first | (go_simp; done) | (go_simp; rfl)); intro gb368 hg w30 hbox hb; have n0_ := Aside0.mk (Kd.R_below (Kd.R_elderB (by (with_reducible repeat (first | apply Kd.R_alloc | apply Kd.R_drewN | apply Kd.R_drew)); exact HO_7.out) gb368 (Nat.le_of_eq hg.symm)) hb); have n1_ := Aside0.mk (Kd.R_below (Kd.R_elderB (by (with_reducible repeat (first | apply Kd.R_alloc | apply Kd.R_drewN | apply Kd.R_drew)); exact HO_57.out) gb368 (Nat.le_of_eq hg.symm)) hb); have n2_ := Aside0.mk (below_step (by repeat (first | (with_reducible first | exact HB.out | apply below_alloc | apply pw_below_drewN | apply below_drew1) | exact HB.out)) hb); have n3_ := Aside0.mk (hbox); have n4_ := Aside0.mk ((by rw [hg]; exact (below_size (by repeat (first | (with_reducible first | exact HB.out | apply below_alloc | apply pw_below_drewN | apply below_drew1) | exact HB.out))) : w.heap.size ≤ gb368)); have n5_ := Aside0.mk ((by rw [hg]; exact (below_size (by repeat (first | (with_reducible first | exact HB.out | apply below_alloc | apply pw_below_drewN | apply below_drew1) | exact HB.out))) : w.heap.size ≤ gb368)); clear HO_7; clear HO_57; clear HB; have HO_7 := n0_; have HO_57 := n1_; have HB := n2_; have BK368 := n3_; have GW368 := n4_; have GE368 := n5_; clear n0_ n1_ n2_ n3_ n4_ n5_; clear hb hbox hg; have hcz31_0 : w30.cell? ⟨gb368, 0, none⟩ = some (.int .i64 0) := (blk_cell BK368.out 0).trans rfl; have hcz31_1 : w30.cell? ⟨gb368, 1, none⟩ = some (.string (⟨#[]⟩ : ByteArray)) := (blk_cell BK368.out 1).trans rfl; have hcz31_2 : w30.cell? ⟨gb368, 2, none⟩ = some (.int .i64 0) := (blk_cell BK368.out 2).trans rfl; have hfz31_0 := blk_frozen BK368.out 0; have hfz31_1 := blk_frozen BK368.out 1; have hfz31_2 := blk_frozen BK368.out 2))
                          go_roundg k3
                          case measure => have := HJ1.out; have := HJ13.out; have := HK3.out; omega
                          case rel => exact ⟨(wrap64 (x59_3 + 1)), (by first | rfl | (simp; done) | (simp [*]; done)), H', ⟨by have := HJ1.out; have := HJ13.out; have := HK3.out; omega⟩, ⟨by (with_reducible repeat (first | apply Kd.R_alloc | apply Kd.R_drewN | apply Kd.R_drew)); exact Kd.R_mono (Kd.R_far (p := ⟨gb368, 2, none⟩) (Kd.R_far (p := ⟨gb368, 1, none⟩) (Kd.R_far (p := ⟨gb368, 0, none⟩) (Kd.R_mono HO_7.out (fun k_ hk => (⟨hk, hk.2⟩ : _ ∧ k_ ≠ gb368))) (fun _ hk => hk.2) (.int .i64 ((rd_T31 t362 x59_3).f0))) (fun _ hk => hk.2) (.string ((rd_T31 t362 x59_3).f1))) (fun _ hk => hk.2) (.int .i64 ((rd_T31 t362 x59_3).f2))) (fun _ hk => trivial)⟩, ⟨by (with_reducible repeat (first | apply Kd.R_alloc | apply Kd.R_drewN | apply Kd.R_drew)); exact Kd.R_mono (Kd.R_far (p := ⟨gb368, 2, none⟩) (Kd.R_far (p := ⟨gb368, 1, none⟩) (Kd.R_far (p := ⟨gb368, 0, none⟩) (Kd.R_mono HO_57.out (fun k_ hk => (⟨hk, hk.2⟩ : _ ∧ k_ ≠ gb368))) (fun _ hk => hk.2) (.int .i64 ((rd_T31 t362 x59_3).f0))) (fun _ hk => hk.2) (.string ((rd_T31 t362 x59_3).f1))) (fun _ hk => hk.2) (.int .i64 ((rd_T31 t362 x59_3).f2))) (fun _ hk => trivial)⟩, ⟨by repeat (first | (with_reducible first | exact HB.out | apply below_alloc | apply pw_below_drewN | apply below_drew1 | refine below_set ?_ GE368.out) | exact HB.out)⟩⟩
                        · rw [if_neg c29] at H
                          have c29b0 : (((rd_T31 t362 x59_3).f2) == 1) = false := beq_eq_false_iff_ne.mpr c29
                          have c29b1 : (((rd_T31 t362 x59_3).f2) != 1) = true := bne_iff_ne.mpr c29
                          obtain rfl := Option.some.inj H
                          have p367 : 0 ≤ (x59_3 : Int) := of_decide_eq_true (by first | (with_reducible assumption) | assumption)
                          have q367 : x59_3 < (t362.length : Int) := of_decide_eq_true (by first | (with_reducible assumption) | assumption)
                          obtain ⟨ad367, e367, hx367_0, hx367_1, hx367_2⟩ := at_T31 (Kd.R_reads' HO_57.out).2.2 x59_3 p367 q367
                          cases e367
                          replace p367 := eq_true p367
                          replace q367 := eq_true q367
                          go_wp2_with (first | ((with_reducible refine gate_dst (N := 11) rfl ?_); refine box_event ?hg (N := 11) ?hd (cs := #[.int .i64 0, .string (⟨#[]⟩ : ByteArray), .int .i64 0]) (t := 31) ?hr ?_; (case hd => rfl); (case hg => rfl); (case hr => first | (go_simp; done) | (go_simp; rfl)); intro gb368 hg w32 hbox hb; have n0_ := Aside0.mk (Kd.R_below (Kd.R_elderB (by (with_reducible repeat (first | apply Kd.R_alloc | apply Kd.R_drewN | apply Kd.R_drew)); exact HO_7.out) gb368 (Nat.le_of_eq hg.symm)) hb); have n1_ := Aside0.mk (Kd.R_below (Kd.R_elderB (by (with_reducible repeat (first | apply Kd.R_alloc | apply Kd.R_drewN | apply Kd.R_drew)); exact HO_57.out) gb368 (Nat.le_of_eq hg.symm)) hb); have n2_ := Aside0.mk (below_step (by repeat (first | (with_reducible first | exact HB.out | apply below_alloc | apply pw_below_drewN | apply below_drew1) | exact HB.out)) hb); have n3_ := Aside0.mk (hbox); have n4_ := Aside0.mk ((by rw [hg]; exact (below_size (by repeat (first | (with_reducible first | exact HB.out | apply below_alloc | apply pw_below_drewN | apply below_drew1) | exact HB.out))) : w.heap.size ≤ gb368)); have n5_ := Aside0.mk ((by rw [hg]; exact (below_size (by repeat (first | (with_reducible first | exact HB.out | apply below_alloc | apply pw_below_drewN | apply below_drew1) | exact HB.out))) : w.heap.size ≤ gb368)); clear HO_7; clear HO_57; clear HB; have HO_7 := n0_; have HO_57 := n1_; have HB := n2_; have BK368 := n3_; have GW368 := n4_; have GE368 := n5_; clear n0_ n1_ n2_ n3_ n4_ n5_; clear hb hbox hg; have hcz33_0 : w32.cell? ⟨gb368, 0, none⟩ = some (.int .i64 0) := (blk_cell BK368.out 0).trans rfl; have hcz33_1 : w32.cell? ⟨gb368, 1, none⟩ = some (.string (⟨#[]⟩ : ByteArray)) := (blk_cell BK368.out 1).trans rfl; have hcz33_2 : w32.cell? ⟨gb368, 2, none⟩ = some (.int .i64 0) := (blk_cell BK368.out 2).trans rfl; have hfz33_0 := blk_frozen BK368.out 0; have hfz33_1 := blk_frozen BK368.out 1; have hfz33_2 := blk_frozen BK368.out 2))
                          go_ret
                          exact ⟨by first | rfl | (simp [errW_none, errW_some] <;> rfl) | (simp [*, errW_none, errW_some] <;> rfl), by repeat (first | (with_reducible first | exact HB.out | apply below_alloc | apply pw_below_drewN | apply below_drew1 | refine below_set ?_ GE368.out) | exact HB.out)⟩
                      · rw [if_neg c28] at H
                        exact absurd H (by simp)
                    · rw [if_neg c27] at H
                      exact absurd H (by simp)
                  · rw [if_neg c26] at H
                    have c26b0 : decide (x59_3 < (t362.length : Int)) = false := decide_eq_false c26
                    clear c26
                    by_cases c34 : t364 = 0
                    · rw [if_pos c34] at H
                      have c34b0 : (t364 == 0) = true := beq_iff_eq.mpr c34
                      have c34b1 : (t364 != 0) = false := bne_eq_false_iff_eq.mpr c34
                      clear c34
                      replace H := Option.bind_eq_some_iff.mp H
                      obtain ⟨t369, A350, H⟩ := H
                      replace H : (some t369) = some r := H
                      have A35 := Aside0.mk A350
                      clear A350
                      obtain rfl := Option.some.inj H
                      go_wp2_with (first | (go_at_call 21; (with_reducible refine (ancepsref05_Same.calls k3 _ _ l0 _ _ t362 t369 _ ?side1 ?side2 ?side3 ?side4 A35.out).mono ?_); (case side1 => repeat (first | exact (Kd.C_below HR0.out HB.out) | (with_reducible refine Kd.C_alloc ?_ _) | (with_reducible refine Kd.C_drewN ?_ _) | (with_reducible refine Kd.C_drew ?_))); (case side2 => exact HC0.out); (case side3 => repeat (first | exact (Kd.R_reads' HO_7.out).2.2 | (with_reducible refine Kd.C_alloc ?_ _) | (with_reducible refine Kd.C_drewN ?_ _) | (with_reducible refine Kd.C_drew ?_))); (case side4 => exact (Kd.R_reads' HO_7.out).2.1); rintro e w' ⟨rfl, ⟨nd, rfl⟩⟩))
                      go_ret
                      exact ⟨by first | rfl | (simp [errW_none, errW_some] <;> rfl) | (simp [*, errW_none, errW_some] <;> rfl), by repeat (first | (with_reducible first | exact HB.out | apply below_alloc | apply pw_below_drewN | apply below_drew1) | exact HB.out)⟩
                    · rw [if_neg c34] at H
                      have c34b0 : (t364 == 0) = false := beq_eq_false_iff_ne.mpr c34
                      have c34b1 : (t364 != 0) = true := bne_iff_ne.mpr c34
                      obtain rfl := Option.some.inj H
                      go_wp2
                      go_ret
                      exact ⟨by first | rfl | (simp [errW_none, errW_some] <;> rfl) | (simp [*, errW_none, errW_some] <;> rfl), by repeat (first | (with_reducible first | exact HB.out | apply below_alloc | apply pw_below_drewN | apply below_drew1) | exact HB.out)⟩

/-- THE ONE PURE STATEMENT of ancepslaw05_TokenWrite: yours. -/
def ancepslaw05_TokenWrite.Pure : Prop := ∀ (l0 : List (S31)), l0.length ≤ maxLen → l0.length * 32 ≤ 140737488351232 → (∀ x ∈ l0, (Lit.int .i64 x.f0).wf = true ∧ x.f1.size ≤ 140737488351232 ∧ (Lit.int .i64 x.f2).wf = true) → ∃ k, ancepslaw05_TokenWrite.f k l0 = some true
theorem ancepslaw05_TokenWrite.walk (P : ancepslaw05_TokenWrite.Pure) (a0 : Option Addr) (cap0 : Nat) (l0 : List (S31)) (w : World) (hr0 : Kd.C k31 w a0 l0.length l0) (hc0 : l0.length ≤ cap0) (hm0 : l0.length ≤ maxLen) (y0 : l0.length * 32 ≤ 140737488351232) (hw0 : ∀ x ∈ l0, (Lit.int .i64 x.f0).wf = true ∧ x.f1.size ≤ 140737488351232 ∧ (Lit.int .i64 x.f2).wf = true) :
    Calls Try.prog 9 #[.slice a0 l0.length cap0] w fun e w' => e = .returned (.bool true) ∧ Below w.heap.size w w' := by
  obtain ⟨k, h⟩ := P l0 hm0 y0 hw0
  refine (ancepslaw05_TokenWrite.calls k _ _ l0 true w hr0 hc0 h).mono ?_
  rintro e w' ⟨rfl, hd⟩
  exact ⟨rfl, hd⟩

end Go.Proofs.Ytkkgacoecimlpaa.X
