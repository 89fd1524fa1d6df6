-- printed by this session's xprint.py: out of the translation, by the kit's print with additions; Lean checks it
import Derived.Test.YtdaooagikacboaaDoorWN
import Derived.Test.YtdaooagikacboaaDoorWShare
import Derived.Test.YtdaooagikacboaaDoorWRepsOne
import Derived.Test.YtdaooagikacboaaDoorX0
import Derived.Test.YtdaooagikacboaaDoorX1
import Derived.Test.YtdaooagikacboaaDoorX6
import Derived.Test.YtdaooagikacboaaDoorX7
namespace Go.Proofs.YtdaooagikacboaaDoor.X
open Go.RowKit Go.Proofs.YtdaooagikacboaaDoorW.PrintWords Go.Proofs.YtdaooagikacboaaDoorW.PrintLast Go.Proofs.YtdaooagikacboaaDoorW.PrintMore
attribute [local go_sem] max2_int min2_int max_two min_two max_three min_three max_four min_four isSome_setCell binOp_gtr_str binOp_leq_str binOp_geq_str   -- for this text's walks alone
set_option linter.unusedVariables false
set_option linter.unusedSimpArgs false

/-! ### ancepsref01_Sum: function 23 -/
def ancepsref01_Sum.l0 : Nat → List ByteArray → Int → Int → Int → Option (Int)
  | 0, _, _, _, _ => none
  | k + 1, x0, x1, x5, x6 => if x6 < (x0.length : Int) then (if x5 ≤ x1 then (if 0 ≤ x6 then (ancepsref01_Sum.l0 k x0 x1 (wrap64 ((wrap64 (x5 + 1)) + ((rdOf ByteArray.empty x0 x6).size : Int))) (wrap64 (x6 + 1))) else (none)) else (some x5)) else (some x5)
def ancepsref01_Sum.f (k : Nat) (l0 : List ByteArray) (a1 : Int) : Option (Int) := ancepsref01_Sum.l0 k l0 a1 0 0
theorem ancepsref01_Sum.mono_l : ∀ k, (∀ y0 y1 y2 y3, LeO (ancepsref01_Sum.l0 k y0 y1 y2 y3) (ancepsref01_Sum.l0 (k + 1) y0 y1 y2 y3))
  | 0 => fun _ _ _ _ r h => by simp [ancepsref01_Sum.l0] at h
  | k + 1 => by
    have ih0 := ancepsref01_Sum.mono_l k
    · intro y0 y1 y2 y3
      unfold ancepsref01_Sum.l0
      repeat' first
      | (with_reducible exact ih0 _ _ _ _)
      | (with_reducible exact LeO.refl _)
      | (with_reducible exact LeO.none _)
      | (with_reducible refine LeO.ite ?_ ?_)
      | (with_reducible refine LeO.bind ?_ (fun _ => ?_))
      | exact ih0 _ _ _ _
      | exact LeO.none _
      | refine LeO.ite ?_ ?_
      | refine LeO.bind ?_ (fun _ => ?_)
theorem ancepsref01_Sum.mono : ∀ a0 a1 k, LeO (ancepsref01_Sum.f k a0 a1) (ancepsref01_Sum.f (k + 1) a0 a1) := by
  intro a0 a1 k
  have ih0 := ancepsref01_Sum.mono_l k
  unfold ancepsref01_Sum.f
  repeat' first
      | (with_reducible exact ih0 _ _ _ _)
      | (with_reducible exact LeO.refl _)
      | (with_reducible exact LeO.none _)
      | (with_reducible refine LeO.ite ?_ ?_)
      | (with_reducible refine LeO.bind ?_ (fun _ => ?_))
      | exact ih0 _ _ _ _
      | exact LeO.none _
      | refine LeO.ite ?_ ?_
      | refine LeO.bind ?_ (fun _ => ?_)
set_option maxHeartbeats 8000000 in
set_option maxRecDepth 100000 in
theorem ancepsref01_Sum.calls (k : Nat) (A0 : Option Addr) (c0 : Nat) (l0 : List ByteArray) (a1 : Int) (r : Int) (w : World) (hr0 : Kd.C Kd.string w A0 l0.length l0) (hc0 : l0.length ≤ c0) (h : ancepsref01_Sum.f k l0 a1 = some r) :
    Calls Tryd.prog 23 #[.slice A0 l0.length c0, .int .i64 a1] w fun e w' => e = .returned (.int .i64 r) ∧ Drawn0 w w' := by
  have HR0 := Aside0.mk hr0
  have HC0 := Aside0.mk hc0
  clear hr0 hc0
  have H : (ancepsref01_Sum.l0 k l0 a1 0 0) = some r := h
  clear h
  have H' := Aside0.mk H
  clear H
  go_enter Tryd.func23, Tryd.ntmps23
  go_wp2
  go_loopg [5, 6] k (fun kq v5 v6 w' => ∃ (x5_1 : Int) (x6_1 : Int), v5 = .int .i64 x5_1 ∧ v6 = .int .i64 x6_1 ∧ Aside0 (ancepsref01_Sum.l0 kq l0 a1 x5_1 x6_1 = some r) ∧ Aside0 (kq ≤ k) ∧ Drawn0 w w')
  case atStart => exact ⟨(0), (0), (by first | rfl | (simp; done) | (simp [*]; done)), (by first | rfl | (simp; done) | (simp [*]; done)), H', ⟨Nat.le_refl _⟩, by repeat (first | exact Drawn0.refl _ | apply Drawn0.step)⟩
  case round =>
    clear H'
    try clear c2
    try clear p2
    obtain ⟨x5_1, x6_1, rfl, rfl, HA, HK1, ⟨m1, rfl⟩⟩ := hrel
    cases gk with
    | zero => exact absurd HA.out (by simp [ancepsref01_Sum.l0])
    | succ k1 =>
      have H := HA.out
      clear HA
      simp only [ancepsref01_Sum.l0] at H
      by_cases c3 : x6_1 < (l0.length : Int)
      · rw [if_pos c3] at H
        have c3b0 : decide (x6_1 < (l0.length : Int)) = true := decide_eq_true c3
        clear c3
        by_cases c4 : x5_1 ≤ a1
        · rw [if_pos c4] at H
          have c4b0 : decide (x5_1 ≤ a1) = true := decide_eq_true c4
          clear c4
          by_cases c5 : 0 ≤ x6_1
          · rw [if_pos c5] at H
            have c5b0 : decide (0 ≤ x6_1) = true := decide_eq_true c5
            clear c5
            have H' := Aside0.mk H
            clear H
            have p257 : 0 ≤ (x6_1 : Int) := of_decide_eq_true (by first | (with_reducible assumption) | assumption)
            have q257 : x6_1 < (l0.length : Int) := of_decide_eq_true (by first | (with_reducible assumption) | assumption)
            obtain ⟨ad257, e257, hx257_0⟩ := Kd.at_string HR0.out x6_1 p257 q257
            cases e257
            replace p257 := eq_true p257
            replace q257 := eq_true q257
            go_wp2
            go_roundg k1
            case measure => have := HK1.out; omega
            case rel => exact ⟨(wrap64 ((wrap64 (x5_1 + 1)) + ((rdOf ByteArray.empty l0 x6_1).size : Int))), (wrap64 (x6_1 + 1)), (by first | rfl | (simp; done) | (simp [*]; done)), (by first | rfl | (simp; done) | (simp [*]; done)), H', ⟨by have := HK1.out; omega⟩, by repeat (first | exact Drawn0.refl _ | apply Drawn0.step)⟩
          · rw [if_neg c5] at H
            exact absurd H (by simp)
        · rw [if_neg c4] at H
          have c4b0 : decide (x5_1 ≤ a1) = false := decide_eq_false c4
          clear c4
          obtain rfl := Option.some.inj H
          go_wp2
          go_ret
          exact ⟨by first | rfl | (simp; done) | (simp [*]; done), by repeat (first | exact Drawn0.refl _ | apply Drawn0.step)⟩
      · rw [if_neg c3] at H
        have c3b0 : decide (x6_1 < (l0.length : Int)) = false := decide_eq_false c3
        clear c3
        obtain rfl := Option.some.inj H
        go_wp2
        go_ret
        exact ⟨by first | rfl | (simp; done) | (simp [*]; done), by repeat (first | exact Drawn0.refl _ | apply Drawn0.step)⟩

/-! ### ancepsref54_Few: function 10 -/
def ancepsref54_Few.f (k : Nat) (l0_0 : List ByteArray) : Option (Bool) := if (l0_0.length : Int) ≤ 420 then ((ancepsref01_Sum.f k l0_0 8000).bind fun t259 => (some (decide (t259 ≤ 8000)))) else (some false)
theorem ancepsref54_Few.mono : ∀ a0 k, LeO (ancepsref54_Few.f k a0) (ancepsref54_Few.f (k + 1) a0) := by
  intro a0 k
  unfold ancepsref54_Few.f
  repeat' first
      | (with_reducible exact ancepsref01_Sum.mono _ _ _)
      | (with_reducible exact LeO.refl _)
      | (with_reducible exact LeO.none _)
      | (with_reducible refine LeO.ite ?_ ?_)
      | (with_reducible refine LeO.bind ?_ (fun _ => ?_))
      | exact ancepsref01_Sum.mono _ _ _
      | exact LeO.none _
      | refine LeO.ite ?_ ?_
      | refine LeO.bind ?_ (fun _ => ?_)
set_option maxHeartbeats 8000000 in
set_option maxRecDepth 100000 in
theorem ancepsref54_Few.calls (k : Nat) (A0_0 : Option Addr) (c0_0 : Nat) (l0_0 : List ByteArray) (r : Bool) (w : World) (hr0_0 : Kd.C Kd.string w A0_0 l0_0.length l0_0) (hc0_0 : l0_0.length ≤ c0_0) (h : ancepsref54_Few.f k l0_0 = some r) :
    Calls Tryd.prog 10 #[.agg #[.slice A0_0 l0_0.length c0_0]] w fun e w' => e = .returned (.bool r) ∧ Below w.heap.size w w' := by
  have hu25 := Tryd.underlying25
  have HR0_0 := Aside0.mk hr0_0
  have HC0_0 := Aside0.mk hc0_0
  clear hr0_0 hc0_0
  have HB := Aside0.mk (Below.refl w.heap.size w)
  have H : (if (l0_0.length : Int) ≤ 420 then ((ancepsref01_Sum.f k l0_0 8000).bind fun t259 => (some (decide (t259 ≤ 8000)))) else (some false)) = some r := h
  clear h
  by_cases c2 : (l0_0.length : Int) ≤ 420
  · rw [if_pos c2] at H
    have c2b0 : decide ((l0_0.length : Int) ≤ 420) = true := decide_eq_true c2
    have c2b1 : decide (l0_0.length ≤ 420) = true := decide_eq_true (by omega)
    clear c2
    replace H := Option.bind_eq_some_iff.mp H
    obtain ⟨t259, A30, H⟩ := H
    replace H : (some (decide (t259 ≤ 8000))) = some r := H
    have A3 := Aside0.mk A30
    clear A30
    obtain rfl := Option.some.inj H
    go_enter Tryd.func10, Tryd.ntmps10
    go_wp2_with (first | ((with_reducible refine gate_dst (N := 1) rfl ?_); refine box_event ?hg (N := 1) ?hd (cs := #[.slice A0_0 l0_0.length c0_0]) (t := 25) ?hr ?_; (case hd => rfl); (case hg => rfl); (case hr => first | (go_simp; done) | (go_simp; rfl)); intro gb258 hg w4 hbox hb; have n0_ := Aside0.mk (below_step (by repeat (first | (with_reducible first | exact HB.out | apply below_alloc | apply pw_below_drewN | apply below_drew1) | exact HB.out)) hb); have n1_ := Aside0.mk (hbox); have n2_ := Aside0.mk ((by rw [hg]; exact (below_size (by repeat (first | (with_reducible first | exact HB.out | apply below_alloc | apply pw_below_drewN | apply below_drew1) | exact HB.out))) : w.heap.size ≤ gb258)); have n3_ := Aside0.mk ((by rw [hg]; exact (below_size (by repeat (first | (with_reducible first | exact HB.out | apply below_alloc | apply pw_below_drewN | apply below_drew1) | exact HB.out))) : w.heap.size ≤ gb258)); clear HB; have HB := n0_; have BK258 := n1_; have GW258 := n2_; have GE258 := n3_; clear n0_ n1_ n2_ n3_; clear hb hbox hg; have hcz5_0 : w4.cell? ⟨gb258, 0, none⟩ = some (.slice A0_0 l0_0.length c0_0) := (blk_cell BK258.out 0).trans rfl; have hfz5_0 := blk_frozen BK258.out 0) | (go_at_call 23; (with_reducible refine (ancepsref01_Sum.calls k _ _ l0_0 8000 t259 _ ?side1 ?side2 A3.out).mono ?_); (case side1 => repeat (first | exact (Kd.C_below HR0_0.out HB.out) | (with_reducible refine Kd.C_alloc ?_ _) | (with_reducible refine Kd.C_drewN ?_ _) | (with_reducible refine Kd.C_drew ?_))); (case side2 => exact HC0_0.out); rintro e w' ⟨rfl, ⟨nd, rfl⟩⟩))
    go_ret
    exact ⟨by first | rfl | (simp [errW_none, errW_some] <;> rfl) | (simp [*, errW_none, errW_some] <;> rfl), by repeat (first | (with_reducible first | exact HB.out | apply below_alloc | apply pw_below_drewN | apply below_drew1 | refine below_set ?_ GE258.out) | exact HB.out)⟩
  · rw [if_neg c2] at H
    have c2b0 : decide ((l0_0.length : Int) ≤ 420) = false := decide_eq_false c2
    have c2b1 : decide (l0_0.length ≤ 420) = false := decide_eq_false (by omega)
    clear c2
    obtain rfl := Option.some.inj H
    go_enter Tryd.func10, Tryd.ntmps10
    go_wp2_with (first | ((with_reducible refine gate_dst (N := 1) rfl ?_); refine box_event ?hg (N := 1) ?hd (cs := #[.slice A0_0 l0_0.length c0_0]) (t := 25) ?hr ?_; (case hd => rfl); (case hg => rfl); (case hr => first | (go_simp; done) | (go_simp; rfl)); intro gb258 hg w6 hbox hb; have n0_ := Aside0.mk (below_step (by repeat (first | (with_reducible first | exact HB.out | apply below_alloc | apply pw_below_drewN | apply below_drew1) | exact HB.out)) hb); have n1_ := Aside0.mk (hbox); have n2_ := Aside0.mk ((by rw [hg]; exact (below_size (by repeat (first | (with_reducible first | exact HB.out | apply below_alloc | apply pw_below_drewN | apply below_drew1) | exact HB.out))) : w.heap.size ≤ gb258)); have n3_ := Aside0.mk ((by rw [hg]; exact (below_size (by repeat (first | (with_reducible first | exact HB.out | apply below_alloc | apply pw_below_drewN | apply below_drew1) | exact HB.out))) : w.heap.size ≤ gb258)); clear HB; have HB := n0_; have BK258 := n1_; have GW258 := n2_; have GE258 := n3_; clear n0_ n1_ n2_ n3_; clear hb hbox hg; have hcz7_0 : w6.cell? ⟨gb258, 0, none⟩ = some (.slice A0_0 l0_0.length c0_0) := (blk_cell BK258.out 0).trans rfl; have hfz7_0 := blk_frozen BK258.out 0))
    go_ret
    exact ⟨by first | rfl | (simp [errW_none, errW_some] <;> rfl) | (simp [*, errW_none, errW_some] <;> rfl), by repeat (first | (with_reducible first | exact HB.out | apply below_alloc | apply pw_below_drewN | apply below_drew1 | refine below_set ?_ GE258.out) | exact HB.out)⟩

/-! ### slices_Clone_string_string: function 24 -/
def slices_Clone_string_string.f (l0 : List ByteArray) : Option (List ByteArray) := (some (([] : List ByteArray) : List ByteArray)).bind fun y260 => (if y260.length + l0.length < 8796093022208 then (some (y260 ++ l0)) else (none))
set_option maxHeartbeats 8000000 in
set_option maxRecDepth 100000 in
theorem slices_Clone_string_string.calls (A0 : Option Addr) (c0 : Nat) (l0 : List ByteArray) (r : List ByteArray) (w : World) (hr0 : Kd.C Kd.string w A0 l0.length l0) (hc0 : l0.length ≤ c0) (h : slices_Clone_string_string.f l0 = some r) :
    Calls Tryd.prog 24 #[.slice A0 l0.length c0] w fun e w' => ∃ v0_ : Value, e = .returned (v0_) ∧ Kd.R Kd.string 9 w' w.heap.size (fun _ => True) v0_ r ∧ Below w.heap.size w w' := by
  cases A0 with
  | none =>
    have hl_ := Kd.C_none hr0
    subst hl_
    have hr_ : r = [] := by (have h_ := h; simp [slices_Clone_string_string.f] at h_; first | exact h_ | exact h_.symm | exact h_.2 | exact h_.2.symm)
    subst hr_
    have hn_ := fun (W : World) => Go.Lib.run_eql_slice_nil (P := Tryd.prog) W 23 9 none 0 c0 0 0 Tryd.underlying23
    clear hr0 hc0 h
    go_enter Tryd.func24, Tryd.ntmps24
    (try simp only [List.length_nil])
    go_wp2
    go_ret
    exact ⟨_, rfl, Kd.R_nil _ _ _ _ _, Below.refl _ _⟩
  | some a0_ =>
    have hn_ := fun (W : World) => Go.Lib.run_eql_slice_nil (P := Tryd.prog) W 23 9 (some a0_) l0.length c0 0 0 Tryd.underlying23
    have HR0 := Aside0.mk hr0
    have HC0 := Aside0.mk hc0
    clear hr0 hc0
    have HB := Aside0.mk (Below.refl w.heap.size w)
    have H : ((some (([] : List ByteArray) : List ByteArray)).bind fun y260 => (if y260.length + l0.length < 8796093022208 then (some (y260 ++ l0)) else (none))) = some r := h
    clear h
    obtain ⟨y260, hy260⟩ : ∃ y_ : List ByteArray, y_ = (([] : List ByteArray)) := ⟨_, rfl⟩
    replace H : (if y260.length + l0.length < 8796093022208 then (some (y260 ++ l0)) else (none)) = some r := by first | (rw [hy260]; with_reducible exact H) | (have H2_ := (Option.bind_some _ _).symm.trans H; rw [hy260]; with_reducible exact H2_) | (have H2_ := (Option.bind_some _ _).symm.trans H; with_reducible exact H2_) | with_reducible exact H | (rw [hy260]; exact H) | exact H
    have Ny260 := Aside0.mk hy260
    clear hy260
    by_cases c2 : y260.length + l0.length < 8796093022208
    · rw [if_pos c2] at H
      have LMc2 := Aside0.mk c2
      clear c2
      obtain ⟨y263, hy263⟩ : ∃ y_ : List ByteArray, y_ = (y260 ++ l0) := ⟨_, rfl⟩
      replace H : (some y263) = some r := by first | (rw [hy263]; with_reducible exact H) | (have H2_ := (Option.bind_some _ _).symm.trans H; rw [hy263]; with_reducible exact H2_) | (have H2_ := (Option.bind_some _ _).symm.trans H; with_reducible exact H2_) | with_reducible exact H | (rw [hy263]; exact H) | exact H
      have Ny263 := Aside0.mk hy263
      clear hy263
      obtain rfl := Option.some.inj H
      go_enter Tryd.func24, Tryd.ntmps24
      go_wp2_with (first | ((with_reducible refine gate_dst (N := 5) rfl ?_); refine Kd.R_lit Kd.string _ 9 ?hg (N := 5) ?hd (xs := ([] : List ByteArray)) (inner := []) (ok := fun _ => True) (okp := fun _ => True) ?hr ?hp (fun _ hk => hk) trivial (Below.refl _ _) (Nat.le_refl _) (by simp) ?_; (case hd => rfl); (case hg => rfl); (case hr => first | (go_simp; done) | (go_simp; rfl)); (case hp => exact (Reps.none _ _)); intro v261 w3 ho4 hb hg_ hnew_; clear hg_ hnew_; (first | rw [← Ny260.out] at ho4 | (simp only [Int.reduceToNat] at ho4; rw [← Ny260.out] at ho4)); have n0_ := Aside0.mk (Kd.R_lower ho4 (below_size (by repeat (first | (with_reducible first | exact HB.out | apply below_alloc | apply pw_below_drewN | apply below_drew1) | exact HB.out)))); have n1_ := Aside0.mk (below_step (by repeat (first | (with_reducible first | exact HB.out | apply below_alloc | apply pw_below_drewN | apply below_drew1) | exact HB.out)) hb); clear HB; have HO262 := n0_; have HB := n1_; clear n0_ n1_; clear hb ho4) | ((with_reducible refine gate_builtin (b := .append) (xs := #[.tmp 5, .tmp 6]) rfl ?_); at_builtin; refine Kd.R_append_rows Kd.string (w0 := w) w.heap.size rfl (.tmp 5) (.tmp 6) 23 9 (.string ⟨#[]⟩) 16 rfl Tryd.underlying23 info9 rfl (by decide) (by omega) v261 y260 l0 _ _ _ (fun _ => True) (fun _ => False) rfl rfl ?aO ?aR (fun _ _ h => h) (fun _ h => h.elim) ?aF ?aB ?aS ?aL ?_; (case aR => repeat (first | exact (Kd.C_below HR0.out HB.out) | (with_reducible refine Kd.C_alloc ?_ _) | (with_reducible refine Kd.C_drewN ?_ _) | (with_reducible refine Kd.C_drew ?_))); (case aB => exact (by repeat (first | (with_reducible first | exact HB.out | apply below_alloc | apply pw_below_drewN | apply below_drew1) | exact HB.out))); (case aF => exact (fun _ _ => trivial)); (case aO => exact (by (with_reducible repeat (first | apply Kd.R_alloc | apply Kd.R_drewN | apply Kd.R_drew)); exact HO262.out)); (case aS => exact (below_size (by repeat (first | (with_reducible first | exact HB.out | apply below_alloc | apply pw_below_drewN | apply below_drew1) | exact HB.out)))); (case aL => have := LMc2.out; omega); intro v264 w5 ho hb hg hat; rw [← Ny263.out] at ho; have n0_ := Aside0.mk (hb); have n1_ := Aside0.mk (ho); clear HB; clear HO262; have HB := n0_; have HO265 := n1_; clear n0_ n1_; clear ho hb hg hat))
      go_ret
      exact ⟨_, by first | rfl | (simp [errW_none, errW_some] <;> rfl) | (simp [*, errW_none, errW_some] <;> rfl), by (with_reducible repeat (first | apply Kd.R_alloc | apply Kd.R_drewN | apply Kd.R_drew)); exact HO265.out, by repeat (first | (with_reducible first | exact HB.out | apply below_alloc | apply pw_below_drewN | apply below_drew1) | exact HB.out)⟩
    · rw [if_neg c2] at H
      exact absurd H (by simp)


/-! ### ancepslaw54_copied: function 11 -/
def ancepslaw54_copied.f (l0_0 : List ByteArray) : Option (List ByteArray) := (slices_Clone_string_string.f l0_0).bind fun t268 => (some t268)
set_option maxHeartbeats 8000000 in
set_option maxRecDepth 100000 in
theorem ancepslaw54_copied.calls (A0_0 : Option Addr) (c0_0 : Nat) (l0_0 : List ByteArray) (r : List ByteArray) (w : World) (hr0_0 : Kd.C Kd.string w A0_0 l0_0.length l0_0) (hc0_0 : l0_0.length ≤ c0_0) (h : ancepslaw54_copied.f l0_0 = some r) :
    Calls Tryd.prog 11 #[.agg #[.slice A0_0 l0_0.length c0_0]] w fun e w' => ∃ v0_ : Value, e = .returned (.agg #[v0_]) ∧ Kd.R Kd.string 9 w' w.heap.size (fun _ => True) v0_ r ∧ Below w.heap.size w w' := by
  have hu25 := Tryd.underlying25
  have HR0_0 := Aside0.mk hr0_0
  have HC0_0 := Aside0.mk hc0_0
  clear hr0_0 hc0_0
  have HB := Aside0.mk (Below.refl w.heap.size w)
  have H : ((slices_Clone_string_string.f l0_0).bind fun t268 => (some t268)) = some r := h
  clear h
  replace H := Option.bind_eq_some_iff.mp H
  obtain ⟨t268, A20, H⟩ := H
  replace H : (some t268) = some r := H
  have A2 := Aside0.mk A20
  clear A20
  obtain rfl := Option.some.inj H
  go_enter Tryd.func11, Tryd.ntmps11
  go_wp2_with (first | ((with_reducible refine gate_dst (N := 1) rfl ?_); refine box_event ?hg (N := 1) ?hd (cs := #[.slice A0_0 l0_0.length c0_0]) (t := 25) ?hr ?_; (case hd => rfl); (case hg => rfl); (case hr => first | (go_simp; done) | (go_simp; rfl)); intro gb266 hg w3 hbox hb; have n0_ := Aside0.mk (below_step (by repeat (first | (with_reducible first | exact HB.out | apply below_alloc | apply pw_below_drewN | apply below_drew1) | exact HB.out)) hb); have n1_ := Aside0.mk (hbox); have n2_ := Aside0.mk ((by rw [hg]; exact (below_size (by repeat (first | (with_reducible first | exact HB.out | apply below_alloc | apply pw_below_drewN | apply below_drew1) | exact HB.out))) : w.heap.size ≤ gb266)); have n3_ := Aside0.mk ((by rw [hg]; exact (below_size (by repeat (first | (with_reducible first | exact HB.out | apply below_alloc | apply pw_below_drewN | apply below_drew1) | exact HB.out))) : w.heap.size ≤ gb266)); clear HB; have HB := n0_; have BK266 := n1_; have GW266 := n2_; have GE266 := n3_; clear n0_ n1_ n2_ n3_; clear hb hbox hg) | ((with_reducible refine gate_dst (N := 2) rfl ?_); refine box_event ?hg (N := 2) ?hd (cs := #[.slice none 0 0]) (t := 25) ?hr ?_; (case hd => rfl); (case hg => rfl); (case hr => first | (go_simp; done) | (go_simp; rfl)); intro gb267 hg w4 hbox hb; have n0_ := Aside0.mk (blk_below (g := gb266) (o := .cells #[.slice A0_0 l0_0.length c0_0] 25 (0, 0)) (by (with_reducible repeat (first | refine blk_drewN ?_ _ | refine blk_drew ?_ | refine blk_alloc ?_ _)); exact BK266.out) hb); have n1_ := Aside0.mk (below_step (by repeat (first | (with_reducible first | exact HB.out | apply below_alloc | apply pw_below_drewN | apply below_drew1 | refine below_set ?_ GE266.out) | exact HB.out)) hb); have n2_ := Aside0.mk (hbox); have n3_ := Aside0.mk ((by rw [hg]; exact (below_size (by repeat (first | (with_reducible first | exact HB.out | apply below_alloc | apply pw_below_drewN | apply below_drew1 | refine below_set ?_ GE266.out) | exact HB.out))) : w.heap.size ≤ gb267)); have n4_ := Aside0.mk ((by rw [hg]; exact (below_size (by repeat (first | (with_reducible first | exact HB.out | apply below_alloc | apply pw_below_drewN | apply below_drew1 | refine below_set ?_ GE266.out) | exact HB.out))) : w.heap.size ≤ gb267)); have n5_ := Aside0.mk ((by rw [hg]; exact Nat.ne_of_lt (blk_lt (g := gb266) (o := .cells #[.slice A0_0 l0_0.length c0_0] 25 (0, 0)) (by (with_reducible repeat (first | refine blk_drewN ?_ _ | refine blk_drew ?_ | refine blk_alloc ?_ _)); exact BK266.out)) : gb266 ≠ gb267)); have n6_ := Aside0.mk ((by rw [hg]; exact Nat.ne_of_gt (blk_lt (g := gb266) (o := .cells #[.slice A0_0 l0_0.length c0_0] 25 (0, 0)) (by (with_reducible repeat (first | refine blk_drewN ?_ _ | refine blk_drew ?_ | refine blk_alloc ?_ _)); exact BK266.out)) : gb267 ≠ gb266)); clear BK266; clear HB; have BK266 := n0_; have HB := n1_; have BK267 := n2_; have GW267 := n3_; have GE267 := n4_; have NB266_267 := n5_; have NB267_266 := n6_; clear n0_ n1_ n2_ n3_ n4_ n5_ n6_; clear hb hbox hg; have hnb5 := NB266_267.out; have hnc5 := NB267_266.out; have hcz6_0 : w4.cell? ⟨gb266, 0, none⟩ = some (.slice A0_0 l0_0.length c0_0) := (blk_cell BK266.out 0).trans rfl; have hfz6_0 := blk_frozen BK266.out 0) | ((with_reducible refine gate_callee (f := 24) rfl ?_); refine goesL_ (some 5) rfl rfl Tryd.func24 (by kernel_rfl) rfl #[.slice A0_0 l0_0.length c0_0] rfl (by (try simp only [List.map_toArray, List.map_cons, List.map_nil]); first | done | rfl | (simp only [List.length_drop, List.length_take]; rfl)) ?_; (with_reducible refine (slices_Clone_string_string.calls _ _ l0_0 t268 _ ?side1 ?side2 A2.out).mono ?_); (case side1 => repeat (first | exact (Kd.C_below HR0_0.out HB.out) | (with_reducible refine Kd.C_alloc ?_ _) | (with_reducible refine Kd.C_drewN ?_ _) | (with_reducible refine Kd.C_drew ?_))); (case side2 => exact HC0_0.out); rintro e w7 ⟨v269, rfl, ho0, hb⟩; refine ⟨_, rfl, ?_⟩; have n0_ := Aside0.mk (Kd.R_lower ho0 (below_size (by repeat (first | (with_reducible first | exact HB.out | apply below_alloc | apply pw_below_drewN | apply below_drew1 | refine below_set ?_ GE266.out | refine below_set ?_ GE267.out) | exact HB.out)))); have n1_ := Aside0.mk (blk_below (g := gb266) (o := .cells #[.slice A0_0 l0_0.length c0_0] 25 (0, 0)) (by (with_reducible repeat (first | refine blk_drewN ?_ _ | refine blk_drew ?_ | refine blk_alloc ?_ _)); exact BK266.out) hb); have n2_ := Aside0.mk (blk_below (g := gb267) (o := .cells #[.slice none 0 0] 25 (0, 0)) (by (with_reducible repeat (first | refine blk_drewN ?_ _ | refine blk_drew ?_ | refine blk_alloc ?_ _)); exact BK267.out) hb); have n3_ := Aside0.mk (below_step (by repeat (first | (with_reducible first | exact HB.out | apply below_alloc | apply pw_below_drewN | apply below_drew1 | refine below_set ?_ GE266.out | refine below_set ?_ GE267.out) | exact HB.out)) hb); clear BK266; clear BK267; clear HB; have HO270 := n0_; have BK266 := n1_; have BK267 := n2_; have HB := n3_; clear n0_ n1_ n2_ n3_; (try clear hb); (try clear hb2); (try clear hk); (try clear hi); (try clear ho0); obtain ⟨Ao8, co8, eo8⟩ := Kd.R_slice HO270.out; subst eo8; have hcz9_0 : w7.cell? ⟨gb267, 0, none⟩ = some (.slice none 0 0) := (blk_cell BK267.out 0).trans rfl; have hfz9_0 := blk_frozen BK267.out 0))
  refine bodyPost_ret (results_cell_row rfl _ _ gb267 25 #[.slice Ao8 t268.length co8] (0, 0) _ rfl (by (with_reducible repeat (first | refine blk_drewN ?_ _ | refine blk_drew ?_ | refine blk_alloc ?_ _)); refine blk_put (cs := #[.slice none 0 0]) ?_ 0 _ rfl; (with_reducible repeat (first | refine blk_drewN ?_ _ | refine blk_drew ?_ | refine blk_alloc ?_ _)); exact BK267.out) Tryd.underlying25 rfl (by kernel_rfl)) rfl ?_
  exact ⟨_, by first | rfl | (simp [errW_none, errW_some] <;> rfl) | (simp [*, errW_none, errW_some] <;> rfl), by (with_reducible repeat (first | apply Kd.R_alloc | apply Kd.R_drewN | apply Kd.R_drew)); exact Kd.R_mono (Kd.R_far (p := ⟨gb267, 0, none⟩) (Kd.R_types HO270.out BK267.out (by decide)) (fun _ hk => hk.2) (.slice Ao8 t268.length co8)) (fun _ hk => trivial), by repeat (first | (with_reducible first | exact HB.out | apply below_alloc | apply pw_below_drewN | apply below_drew1 | refine below_set ?_ GE266.out | refine below_set ?_ GE267.out) | exact HB.out)⟩

/-! ### ancepsref54_Valid: function 25 -/
def ancepsref54_Valid.f (k : Nat) (l0_0 : List ByteArray) : Option (Int) := (ancepsref54_check.f k l0_0).bind fun bt272 => (some bt272.2)
theorem ancepsref54_Valid.mono : ∀ a0 k, LeO (ancepsref54_Valid.f k a0) (ancepsref54_Valid.f (k + 1) a0) := by
  intro a0 k
  unfold ancepsref54_Valid.f
  repeat' first
      | (with_reducible exact ancepsref54_check.mono _ _)
      | (with_reducible exact LeO.refl _)
      | (with_reducible exact LeO.none _)
      | (with_reducible refine LeO.ite ?_ ?_)
      | (with_reducible refine LeO.bind ?_ (fun _ => ?_))
      | exact ancepsref54_check.mono _ _
      | exact LeO.none _
      | refine LeO.ite ?_ ?_
      | refine LeO.bind ?_ (fun _ => ?_)
set_option maxHeartbeats 8000000 in
set_option maxRecDepth 100000 in
theorem ancepsref54_Valid.calls (k : Nat) (A0_0 : Option Addr) (c0_0 : Nat) (l0_0 : List ByteArray) (r : Int) (w : World) (hr0_0 : Kd.C Kd.string w A0_0 l0_0.length l0_0) (hc0_0 : l0_0.length ≤ c0_0) (h : ancepsref54_Valid.f k l0_0 = some r) :
    Calls Tryd.prog 25 #[.agg #[.slice A0_0 l0_0.length c0_0]] w fun e w' => e = .returned (.int .i64 r) ∧ Below w.heap.size w w' := by
  have hu25 := Tryd.underlying25
  have HR0_0 := Aside0.mk hr0_0
  have HC0_0 := Aside0.mk hc0_0
  clear hr0_0 hc0_0
  have HB := Aside0.mk (Below.refl w.heap.size w)
  have H : ((ancepsref54_check.f k l0_0).bind fun bt272 => (some bt272.2)) = some r := h
  clear h
  replace H := Option.bind_eq_some_iff.mp H
  obtain ⟨⟨t272, t273⟩, A20, H⟩ := H
  replace H : (some t273) = some r := H
  have A2 := Aside0.mk A20
  clear A20
  obtain rfl := Option.some.inj H
  go_enter Tryd.func25, Tryd.ntmps25
  go_wp2_with (first | ((with_reducible refine gate_dst (N := 1) rfl ?_); refine box_event ?hg (N := 1) ?hd (cs := #[.slice A0_0 l0_0.length c0_0]) (t := 25) ?hr ?_; (case hd => rfl); (case hg => rfl); (case hr => first | (go_simp; done) | (go_simp; rfl)); intro gb271 hg w3 hbox hb; have n0_ := Aside0.mk (below_step (by repeat (first | (with_reducible first | exact HB.out | apply below_alloc | apply pw_below_drewN | apply below_drew1) | exact HB.out)) hb); have n1_ := Aside0.mk (hbox); have n2_ := Aside0.mk ((by rw [hg]; exact (below_size (by repeat (first | (with_reducible first | exact HB.out | apply below_alloc | apply pw_below_drewN | apply below_drew1) | exact HB.out))) : w.heap.size ≤ gb271)); have n3_ := Aside0.mk ((by rw [hg]; exact (below_size (by repeat (first | (with_reducible first | exact HB.out | apply below_alloc | apply pw_below_drewN | apply below_drew1) | exact HB.out))) : w.heap.size ≤ gb271)); clear HB; have HB := n0_; have BK271 := n1_; have GW271 := n2_; have GE271 := n3_; clear n0_ n1_ n2_ n3_; clear hb hbox hg; have hcz4_0 : w3.cell? ⟨gb271, 0, none⟩ = some (.slice A0_0 l0_0.length c0_0) := (blk_cell BK271.out 0).trans rfl; have hfz4_0 := blk_frozen BK271.out 0) | ((with_reducible refine gate_callee (f := 19) rfl ?_); refine goesL_ (some 7) rfl rfl Tryd.func19 (by kernel_rfl) rfl #[.agg #[.slice A0_0 l0_0.length c0_0]] rfl (by (try simp only [List.map_toArray, List.map_cons, List.map_nil]); first | done | rfl | (simp only [List.length_drop, List.length_take]; rfl)) ?_; (with_reducible refine (ancepsref54_check.calls k _ _ l0_0 t272 t273 _ ?side1 ?side2 A2.out).mono ?_); (case side1 => repeat (first | exact (Kd.C_below HR0_0.out HB.out) | (with_reducible refine Kd.C_alloc ?_ _) | (with_reducible refine Kd.C_drewN ?_ _) | (with_reducible refine Kd.C_drew ?_))); (case side2 => exact HC0_0.out); rintro e w5 ⟨rfl, hb⟩; refine ⟨_, rfl, ?_⟩; have n0_ := Aside0.mk (blk_below (g := gb271) (o := .cells #[.slice A0_0 l0_0.length c0_0] 25 (0, 0)) (by (with_reducible repeat (first | refine blk_drewN ?_ _ | refine blk_drew ?_ | refine blk_alloc ?_ _)); exact BK271.out) hb); have n1_ := Aside0.mk (below_step (by repeat (first | (with_reducible first | exact HB.out | apply below_alloc | apply pw_below_drewN | apply below_drew1 | refine below_set ?_ GE271.out) | exact HB.out)) hb); clear BK271; clear HB; have BK271 := n0_; have HB := n1_; clear n0_ n1_; (try clear hb); (try clear hb2); (try clear hk); (try clear hi)))
  go_ret
  exact ⟨by first | rfl | (simp [errW_none, errW_some] <;> rfl) | (simp [*, errW_none, errW_some] <;> rfl), by repeat (first | (with_reducible first | exact HB.out | apply below_alloc | apply pw_below_drewN | apply below_drew1 | refine below_set ?_ GE271.out) | exact HB.out)⟩

/-! ### ancepsref54_Format: function 12 -/
def ancepsref54_Format.l0 : Nat → ByteArray → Int → List ByteArray → Option (ByteArray × Int)
  | 0, _, _, _ => none
  | k + 1, x5, x6, x275000 => if x6 < (x275000.length : Int) then (if 0 ≤ x6 then (if x5.size + (rdOf ByteArray.empty x275000 x6).size ≤ 9223372036854775807 then (if (x5 ++ (rdOf ByteArray.empty x275000 x6)).size + 1 ≤ 9223372036854775807 then (ancepsref54_Format.l0 k ((x5 ++ (rdOf ByteArray.empty x275000 x6)) ++ (⟨#[10]⟩ : ByteArray)) (wrap64 (x6 + 1)) x275000) else (none)) else (none)) else (none)) else (some (x5, 0))
def ancepsref54_Format.f (k : Nat) (l0_0 : List ByteArray) : Option (ByteArray × Int) := (ancepsref54_Valid.f k l0_0).bind fun t275 => (if t275 = 0 then (ancepsref54_Format.l0 k (⟨#[]⟩ : ByteArray) 0 l0_0) else (some ((⟨#[]⟩ : ByteArray), t275)))
theorem ancepsref54_Format.mono_l : ∀ k, (∀ y0 y1 y2, LeO (ancepsref54_Format.l0 k y0 y1 y2) (ancepsref54_Format.l0 (k + 1) y0 y1 y2))
  | 0 => fun _ _ _ r h => by simp [ancepsref54_Format.l0] at h
  | k + 1 => by
    have ih0 := ancepsref54_Format.mono_l k
    · intro y0 y1 y2
      unfold ancepsref54_Format.l0
      repeat' first
      | (with_reducible exact ih0 _ _ _)
      | (with_reducible exact ancepsref54_Valid.mono _ _)
      | (with_reducible exact LeO.refl _)
      | (with_reducible exact LeO.none _)
      | (with_reducible refine LeO.ite ?_ ?_)
      | (with_reducible refine LeO.bind ?_ (fun _ => ?_))
      | exact ih0 _ _ _
      | exact ancepsref54_Valid.mono _ _
      | exact LeO.none _
      | refine LeO.ite ?_ ?_
      | refine LeO.bind ?_ (fun _ => ?_)
theorem ancepsref54_Format.mono : ∀ a0 k, LeO (ancepsref54_Format.f k a0) (ancepsref54_Format.f (k + 1) a0) := by
  intro a0 k
  have ih0 := ancepsref54_Format.mono_l k
  unfold ancepsref54_Format.f
  repeat' first
      | (with_reducible exact ih0 _ _ _)
      | (with_reducible exact ancepsref54_Valid.mono _ _)
      | (with_reducible exact LeO.refl _)
      | (with_reducible exact LeO.none _)
      | (with_reducible refine LeO.ite ?_ ?_)
      | (with_reducible refine LeO.bind ?_ (fun _ => ?_))
      | exact ih0 _ _ _
      | exact ancepsref54_Valid.mono _ _
      | exact LeO.none _
      | refine LeO.ite ?_ ?_
      | refine LeO.bind ?_ (fun _ => ?_)
set_option maxHeartbeats 8000000 in
set_option maxRecDepth 100000 in
theorem ancepsref54_Format.calls (k : Nat) (A0_0 : Option Addr) (c0_0 : Nat) (l0_0 : List ByteArray) (r1 : ByteArray) (r2 : Int) (w : World) (hr0_0 : Kd.C Kd.string w A0_0 l0_0.length l0_0) (hc0_0 : l0_0.length ≤ c0_0) (h : ancepsref54_Format.f k l0_0 = some (r1, r2)) :
    Calls Tryd.prog 12 #[.agg #[.slice A0_0 l0_0.length c0_0]] w fun e w' => e = .returned (.tuple #[.string r1, .int .i64 r2]) ∧ Below w.heap.size w w' := by
  have hu25 := Tryd.underlying25
  have HR0_0 := Aside0.mk hr0_0
  have HC0_0 := Aside0.mk hc0_0
  clear hr0_0 hc0_0
  have HB := Aside0.mk (Below.refl w.heap.size w)
  have H : ((ancepsref54_Valid.f k l0_0).bind fun t275 => (if t275 = 0 then (ancepsref54_Format.l0 k (⟨#[]⟩ : ByteArray) 0 l0_0) else (some ((⟨#[]⟩ : ByteArray), t275)))) = some (r1, r2) := h
  clear h
  replace H := Option.bind_eq_some_iff.mp H
  obtain ⟨t275, A20, H⟩ := H
  replace H : (if t275 = 0 then (ancepsref54_Format.l0 k (⟨#[]⟩ : ByteArray) 0 l0_0) else (some ((⟨#[]⟩ : ByteArray), t275))) = some (r1, r2) := H
  have A2 := Aside0.mk A20
  clear A20
  by_cases c3 : t275 = 0
  · rw [if_pos c3] at H
    have c3b0 : (t275 == 0) = true := beq_iff_eq.mpr c3
    have c3b1 : (t275 != 0) = false := bne_eq_false_iff_eq.mpr c3
    clear c3
    have H' := Aside0.mk H
    clear H
    go_enter Tryd.func12, Tryd.ntmps12
    go_wp2_with (first | ((with_reducible refine gate_dst (N := 1) rfl ?_); refine box_event ?hg (N := 1) ?hd (cs := #[.slice A0_0 l0_0.length c0_0]) (t := 25) ?hr ?_; (case hd => rfl); (case hg => rfl); (case hr => first | (go_simp; done) | (go_simp; rfl)); intro gb274 hg w4 hbox hb; have n0_ := Aside0.mk (below_step (by repeat (first | (with_reducible first | exact HB.out | apply below_alloc | apply pw_below_drewN | apply below_drew1) | exact HB.out)) hb); have n1_ := Aside0.mk (hbox); have n2_ := Aside0.mk ((by rw [hg]; exact (below_size (by repeat (first | (with_reducible first | exact HB.out | apply below_alloc | apply pw_below_drewN | apply below_drew1) | exact HB.out))) : w.heap.size ≤ gb274)); have n3_ := Aside0.mk ((by rw [hg]; exact (below_size (by repeat (first | (with_reducible first | exact HB.out | apply below_alloc | apply pw_below_drewN | apply below_drew1) | exact HB.out))) : w.heap.size ≤ gb274)); clear HB; have HB := n0_; have BK274 := n1_; have GW274 := n2_; have GE274 := n3_; clear n0_ n1_ n2_ n3_; clear hb hbox hg; have hcz5_0 : w4.cell? ⟨gb274, 0, none⟩ = some (.slice A0_0 l0_0.length c0_0) := (blk_cell BK274.out 0).trans rfl; have hfz5_0 := blk_frozen BK274.out 0) | ((with_reducible refine gate_callee (f := 25) rfl ?_); refine goesL_ (some 8) rfl rfl Tryd.func25 (by kernel_rfl) rfl #[.agg #[.slice A0_0 l0_0.length c0_0]] rfl (by (try simp only [List.map_toArray, List.map_cons, List.map_nil]); first | done | rfl | (simp only [List.length_drop, List.length_take]; rfl)) ?_; (with_reducible refine (ancepsref54_Valid.calls k _ _ l0_0 t275 _ ?side1 ?side2 A2.out).mono ?_); (case side1 => repeat (first | exact (Kd.C_below HR0_0.out HB.out) | (with_reducible refine Kd.C_alloc ?_ _) | (with_reducible refine Kd.C_drewN ?_ _) | (with_reducible refine Kd.C_drew ?_))); (case side2 => exact HC0_0.out); rintro e w6 ⟨rfl, hb⟩; refine ⟨_, rfl, ?_⟩; have n0_ := Aside0.mk (blk_below (g := gb274) (o := .cells #[.slice A0_0 l0_0.length c0_0] 25 (0, 0)) (by (with_reducible repeat (first | refine blk_drewN ?_ _ | refine blk_drew ?_ | refine blk_alloc ?_ _)); exact BK274.out) hb); have n1_ := Aside0.mk (below_step (by repeat (first | (with_reducible first | exact HB.out | apply below_alloc | apply pw_below_drewN | apply below_drew1 | refine below_set ?_ GE274.out) | exact HB.out)) hb); clear BK274; clear HB; have BK274 := n0_; have HB := n1_; clear n0_ n1_; (try clear hb); (try clear hb2); (try clear hk); (try clear hi)))
    go_loopg [5, 6] k (fun kq v5 v6 w' => ∃ (x5_1 : ByteArray) (x6_1 : Int), v5 = .string x5_1 ∧ v6 = .int .i64 x6_1 ∧ Aside0 (ancepsref54_Format.l0 kq x5_1 x6_1 l0_0 = some (r1, r2)) ∧ Aside0 (kq ≤ k) ∧ Aside0 (w'.heap[gb274]? = some (.cells #[(.slice A0_0 l0_0.length c0_0)] 25 (0, 0))) ∧ Aside0 (Below w.heap.size w w'))
    case atStart => exact ⟨((⟨#[]⟩ : ByteArray)), (0), (by first | rfl | (simp; done) | (simp [*]; done)), (by first | rfl | (simp; done) | (simp [*]; done)), H', ⟨Nat.le_refl _⟩, ⟨by (with_reducible repeat (first | refine blk_drewN ?_ _ | refine blk_drew ?_ | refine blk_alloc ?_ _)); exact BK274.out⟩, ⟨by repeat (first | (with_reducible first | exact HB.out | apply below_alloc | apply pw_below_drewN | apply below_drew1 | refine below_set ?_ GE274.out) | exact HB.out)⟩⟩
    case round =>
      clear H'
      try clear c1
      try clear c2
      try clear p2
      try clear c3
      try clear c3b0
      try clear c3b1
      try clear hcz5_0
      try clear hfz5_0
      obtain ⟨x5_1, x6_1, rfl, rfl, HA, HK1, BK274, HB⟩ := hrel
      cases gk with
      | zero => exact absurd HA.out (by simp [ancepsref54_Format.l0])
      | succ k1 =>
        have H := HA.out
        clear HA
        simp only [ancepsref54_Format.l0] at H
        by_cases c7 : x6_1 < (l0_0.length : Int)
        · rw [if_pos c7] at H
          have c7b0 : decide (x6_1 < (l0_0.length : Int)) = true := decide_eq_true c7
          clear c7
          by_cases c8 : 0 ≤ x6_1
          · rw [if_pos c8] at H
            have c8b0 : decide (0 ≤ x6_1) = true := decide_eq_true c8
            clear c8
            by_cases c9 : x5_1.size + (rdOf ByteArray.empty l0_0 x6_1).size ≤ 9223372036854775807
            · rw [if_pos c9] at H
              have c9b0 := eq_true c9
              have c9b1 : decide (x5_1.size + (rdOf ByteArray.empty l0_0 x6_1).size ≤ 9223372036854775807) = true := decide_eq_true c9
              try have c9b2 : (9223372036854775807 < x5_1.size + (rdOf ByteArray.empty l0_0 x6_1).size) = False := eq_false (Nat.not_lt.2 c9)
              by_cases c10 : (x5_1 ++ (rdOf ByteArray.empty l0_0 x6_1)).size + 1 ≤ 9223372036854775807
              · rw [if_pos c10] at H
                have c10b0 := eq_true c10
                have c10b1 : decide ((x5_1 ++ (rdOf ByteArray.empty l0_0 x6_1)).size + 1 ≤ 9223372036854775807) = true := decide_eq_true c10
                try have c10b2 : (9223372036854775807 < (x5_1 ++ (rdOf ByteArray.empty l0_0 x6_1)).size + 1) = False := eq_false (Nat.not_lt.2 c10)
                have c10b3 : x5_1.size + (rdOf ByteArray.empty l0_0 x6_1).size + 1 ≤ 9223372036854775807 := by have h_ := c10; simp only [ByteArray.size_append] at h_; exact h_
                have c10b4 : (9223372036854775807 < x5_1.size + (rdOf ByteArray.empty l0_0 x6_1).size + 1) = False := eq_false (Nat.not_lt.2 c10b3)
                have c10b5 : decide (x5_1.size + (rdOf ByteArray.empty l0_0 x6_1).size + 1 ≤ 9223372036854775807) = true := decide_eq_true c10b3
                replace c10b3 := eq_true c10b3
                have H' := Aside0.mk H
                clear H
                have hcz11_0 : wr.cell? ⟨gb274, 0, none⟩ = some (.slice A0_0 l0_0.length c0_0) := (blk_cell BK274.out 0).trans rfl
                have hfz11_0 := blk_frozen BK274.out 0
                have p276 : 0 ≤ (x6_1 : Int) := of_decide_eq_true (by first | (with_reducible assumption) | assumption)
                have q276 : x6_1 < (l0_0.length : Int) := of_decide_eq_true (by first | (with_reducible assumption) | assumption)
                obtain ⟨ad276, e276, hx276_0⟩ := Kd.at_string HR0_0.out x6_1 p276 q276
                cases e276
                replace hx276_0 := (HB.out.cell (World.block_lt_of_cell? w _ hx276_0)).trans hx276_0
                replace p276 := eq_true p276
                replace q276 := eq_true q276
                go_wp2
                go_roundg k1
                case measure => have := HK1.out; omega
                case rel => exact ⟨((x5_1 ++ (rdOf ByteArray.empty l0_0 x6_1)) ++ (⟨#[10]⟩ : ByteArray)), (wrap64 (x6_1 + 1)), (by first | rfl | (simp; done) | (simp [*]; done)), (by first | rfl | (simp; done) | (simp [*]; done)), H', ⟨by have := HK1.out; omega⟩, ⟨by (with_reducible repeat (first | refine blk_drewN ?_ _ | refine blk_drew ?_ | refine blk_alloc ?_ _)); exact BK274.out⟩, ⟨by repeat (first | (with_reducible first | exact HB.out | apply below_alloc | apply pw_below_drewN | apply below_drew1 | refine below_set ?_ GE274.out) | exact HB.out)⟩⟩
              · rw [if_neg c10] at H
                exact absurd H (by simp)
            · rw [if_neg c9] at H
              exact absurd H (by simp)
          · rw [if_neg c8] at H
            exact absurd H (by simp)
        · rw [if_neg c7] at H
          have c7b0 : decide (x6_1 < (l0_0.length : Int)) = false := decide_eq_false c7
          clear c7
          simp only [Option.some.injEq, Prod.mk.injEq] at H
          obtain ⟨rfl, rfl⟩ := H
          have hcz12_0 : wr.cell? ⟨gb274, 0, none⟩ = some (.slice A0_0 l0_0.length c0_0) := (blk_cell BK274.out 0).trans rfl
          have hfz12_0 := blk_frozen BK274.out 0
          go_wp2
          go_ret2
          exact ⟨by first | rfl | (simp [errW_none, errW_some] <;> rfl) | (simp [*, errW_none, errW_some] <;> rfl), by repeat (first | (with_reducible first | exact HB.out | apply below_alloc | apply pw_below_drewN | apply below_drew1 | refine below_set ?_ GE274.out) | exact HB.out)⟩
  · rw [if_neg c3] at H
    have c3b0 : (t275 == 0) = false := beq_eq_false_iff_ne.mpr c3
    have c3b1 : (t275 != 0) = true := bne_iff_ne.mpr c3
    simp only [Option.some.injEq, Prod.mk.injEq] at H
    obtain ⟨rfl, rfl⟩ := H
    go_enter Tryd.func12, Tryd.ntmps12
    go_wp2_with (first | ((with_reducible refine gate_dst (N := 1) rfl ?_); refine box_event ?hg (N := 1) ?hd (cs := #[.slice A0_0 l0_0.length c0_0]) (t := 25) ?hr ?_; (case hd => rfl); (case hg => rfl); (case hr => first | (go_simp; done) | (go_simp; rfl)); intro gb274 hg w13 hbox hb; have n0_ := Aside0.mk (below_step (by repeat (first | (with_reducible first | exact HB.out | apply below_alloc | apply pw_below_drewN | apply below_drew1) | exact HB.out)) hb); have n1_ := Aside0.mk (hbox); have n2_ := Aside0.mk ((by rw [hg]; exact (below_size (by repeat (first | (with_reducible first | exact HB.out | apply below_alloc | apply pw_below_drewN | apply below_drew1) | exact HB.out))) : w.heap.size ≤ gb274)); have n3_ := Aside0.mk ((by rw [hg]; exact (below_size (by repeat (first | (with_reducible first | exact HB.out | apply below_alloc | apply pw_below_drewN | apply below_drew1) | exact HB.out))) : w.heap.size ≤ gb274)); clear HB; have HB := n0_; have BK274 := n1_; have GW274 := n2_; have GE274 := n3_; clear n0_ n1_ n2_ n3_; clear hb hbox hg; have hcz14_0 : w13.cell? ⟨gb274, 0, none⟩ = some (.slice A0_0 l0_0.length c0_0) := (blk_cell BK274.out 0).trans rfl; have hfz14_0 := blk_frozen BK274.out 0) | ((with_reducible refine gate_callee (f := 25) rfl ?_); refine goesL_ (some 8) rfl rfl Tryd.func25 (by kernel_rfl) rfl #[.agg #[.slice A0_0 l0_0.length c0_0]] rfl (by (try simp only [List.map_toArray, List.map_cons, List.map_nil]); first | done | rfl | (simp only [List.length_drop, List.length_take]; rfl)) ?_; (with_reducible refine (ancepsref54_Valid.calls k _ _ l0_0 t275 _ ?side1 ?side2 A2.out).mono ?_); (case side1 => repeat (first | exact (Kd.C_below HR0_0.out HB.out) | (with_reducible refine Kd.C_alloc ?_ _) | (with_reducible refine Kd.C_drewN ?_ _) | (with_reducible refine Kd.C_drew ?_))); (case side2 => exact HC0_0.out); rintro e w15 ⟨rfl, hb⟩; refine ⟨_, rfl, ?_⟩; have n0_ := Aside0.mk (blk_below (g := gb274) (o := .cells #[.slice A0_0 l0_0.length c0_0] 25 (0, 0)) (by (with_reducible repeat (first | refine blk_drewN ?_ _ | refine blk_drew ?_ | refine blk_alloc ?_ _)); exact BK274.out) hb); have n1_ := Aside0.mk (below_step (by repeat (first | (with_reducible first | exact HB.out | apply below_alloc | apply pw_below_drewN | apply below_drew1 | refine below_set ?_ GE274.out) | exact HB.out)) hb); clear BK274; clear HB; have BK274 := n0_; have HB := n1_; clear n0_ n1_; (try clear hb); (try clear hb2); (try clear hk); (try clear hi)))
    go_ret2
    exact ⟨by first | rfl | (simp [errW_none, errW_some] <;> rfl) | (simp [*, errW_none, errW_some] <;> rfl), by repeat (first | (with_reducible first | exact HB.out | apply below_alloc | apply pw_below_drewN | apply below_drew1 | refine below_set ?_ GE274.out) | exact HB.out)⟩

/-! ### ancepslaw54_WordlistTexts: function 4 -/
mutual
def ancepslaw54_WordlistTexts.j0 : Nat → Bool → List ByteArray → Option (Bool)
  | 0, _, _ => none
  | k + 1, x16, x278000 => if x16 = true then ((ancepslaw54_awake.f k).bind fun t280 => (some t280)) else ((ancepslaw54_copied.f x278000).bind fun t281 => ((wordlist_Format.f k t281).bind fun bt284 => ((ancepsref54_Format.f k x278000).bind fun bt286 => (if bt284.1.toList = bt286.1.toList then (if bt284.2 = bt286.2 then (ancepslaw54_WordlistTexts.j1 k bt284.1 bt284.2 bt286.1 bt286.2 (bt284.2 != 0) x278000) else (ancepslaw54_WordlistTexts.j1 k bt284.1 bt284.2 bt286.1 bt286.2 true x278000)) else (ancepslaw54_WordlistTexts.j1 k bt284.1 bt284.2 bt286.1 bt286.2 true x278000)))))
def ancepslaw54_WordlistTexts.j1 : Nat → ByteArray → Int → ByteArray → Int → Bool → List ByteArray → Option (Bool)
  | 0, _, _, _, _, _, _ => none
  | k + 1, x3, x4, x5, x6, x40, x278000 => if x40 = true then (if x3.toList = x5.toList then (some (x4 == x6)) else (some false)) else ((wordlist_Parse.f k x3).bind fun bt288 => (if bt288.2.2 = 0 then (if bt288.2.1 = 0 then ((slices_Equal_string_string.f k bt288.1 x278000).bind fun t294 => (some t294)) else (some false)) else (some false)))
end
def ancepslaw54_WordlistTexts.f (k : Nat) (l0_0 : List ByteArray) : Option (Bool) := (ancepslaw54_awake.f k).bind fun t278 => (if t278 = true then ((ancepsref54_Few.f k l0_0).bind fun t279 => (ancepslaw54_WordlistTexts.j0 k (!t279) l0_0)) else (ancepslaw54_WordlistTexts.j0 k true l0_0))
theorem ancepslaw54_WordlistTexts.mono_l : ∀ k, (∀ y0 y1, LeO (ancepslaw54_WordlistTexts.j0 k y0 y1) (ancepslaw54_WordlistTexts.j0 (k + 1) y0 y1)) ∧ (∀ y0 y1 y2 y3 y4 y5, LeO (ancepslaw54_WordlistTexts.j1 k y0 y1 y2 y3 y4 y5) (ancepslaw54_WordlistTexts.j1 (k + 1) y0 y1 y2 y3 y4 y5))
  | 0 => ⟨fun _ _ r h => by simp [ancepslaw54_WordlistTexts.j0] at h, fun _ _ _ _ _ _ r h => by simp [ancepslaw54_WordlistTexts.j1] at h⟩
  | k + 1 => by
    obtain ⟨ih0, ih1⟩ := ancepslaw54_WordlistTexts.mono_l k
    refine ⟨?_, ?_⟩
    · intro y0 y1
      unfold ancepslaw54_WordlistTexts.j0
      repeat' first
      | (with_reducible exact ih0 _ _)
      | (with_reducible exact ih1 _ _ _ _ _ _)
      | (with_reducible exact ancepslaw54_awake.mono _)
      | (with_reducible exact ancepsref54_Few.mono _ _)
      | (with_reducible exact ancepsref54_Format.mono _ _)
      | (with_reducible exact slices_Equal_string_string.mono _ _ _)
      | (with_reducible exact wordlist_Format.mono _ _)
      | (with_reducible exact wordlist_Parse.mono _ _)
      | (with_reducible exact LeO.refl _)
      | (with_reducible exact LeO.none _)
      | (with_reducible refine LeO.ite ?_ ?_)
      | (with_reducible refine LeO.bind ?_ (fun _ => ?_))
      | exact ih0 _ _
      | exact ih1 _ _ _ _ _ _
      | exact ancepslaw54_awake.mono _
      | exact ancepsref54_Few.mono _ _
      | exact ancepsref54_Format.mono _ _
      | exact slices_Equal_string_string.mono _ _ _
      | exact wordlist_Format.mono _ _
      | exact wordlist_Parse.mono _ _
      | exact LeO.none _
      | refine LeO.ite ?_ ?_
      | refine LeO.bind ?_ (fun _ => ?_)
    · intro y0 y1 y2 y3 y4 y5
      unfold ancepslaw54_WordlistTexts.j1
      repeat' first
      | (with_reducible exact ih0 _ _)
      | (with_reducible exact ih1 _ _ _ _ _ _)
      | (with_reducible exact ancepslaw54_awake.mono _)
      | (with_reducible exact ancepsref54_Few.mono _ _)
      | (with_reducible exact ancepsref54_Format.mono _ _)
      | (with_reducible exact slices_Equal_string_string.mono _ _ _)
      | (with_reducible exact wordlist_Format.mono _ _)
      | (with_reducible exact wordlist_Parse.mono _ _)
      | (with_reducible exact LeO.refl _)
      | (with_reducible exact LeO.none _)
      | (with_reducible refine LeO.ite ?_ ?_)
      | (with_reducible refine LeO.bind ?_ (fun _ => ?_))
      | exact ih0 _ _
      | exact ih1 _ _ _ _ _ _
      | exact ancepslaw54_awake.mono _
      | exact ancepsref54_Few.mono _ _
      | exact ancepsref54_Format.mono _ _
      | exact slices_Equal_string_string.mono _ _ _
      | exact wordlist_Format.mono _ _
      | exact wordlist_Parse.mono _ _
      | exact LeO.none _
      | refine LeO.ite ?_ ?_
      | refine LeO.bind ?_ (fun _ => ?_)
theorem ancepslaw54_WordlistTexts.mono : ∀ a0 k, LeO (ancepslaw54_WordlistTexts.f k a0) (ancepslaw54_WordlistTexts.f (k + 1) a0) := by
  intro a0 k
  obtain ⟨ih0, ih1⟩ := ancepslaw54_WordlistTexts.mono_l k
  unfold ancepslaw54_WordlistTexts.f
  repeat' first
      | (with_reducible exact ih0 _ _)
      | (with_reducible exact ih1 _ _ _ _ _ _)
      | (with_reducible exact ancepslaw54_awake.mono _)
      | (with_reducible exact ancepsref54_Few.mono _ _)
      | (with_reducible exact ancepsref54_Format.mono _ _)
      | (with_reducible exact slices_Equal_string_string.mono _ _ _)
      | (with_reducible exact wordlist_Format.mono _ _)
      | (with_reducible exact wordlist_Parse.mono _ _)
      | (with_reducible exact LeO.refl _)
      | (with_reducible exact LeO.none _)
      | (with_reducible refine LeO.ite ?_ ?_)
      | (with_reducible refine LeO.bind ?_ (fun _ => ?_))
      | exact ih0 _ _
      | exact ih1 _ _ _ _ _ _
      | exact ancepslaw54_awake.mono _
      | exact ancepsref54_Few.mono _ _
      | exact ancepsref54_Format.mono _ _
      | exact slices_Equal_string_string.mono _ _ _
      | exact wordlist_Format.mono _ _
      | exact wordlist_Parse.mono _ _
      | exact LeO.none _
      | refine LeO.ite ?_ ?_
      | refine LeO.bind ?_ (fun _ => ?_)
set_option maxHeartbeats 8000000 in
set_option maxRecDepth 100000 in
theorem ancepslaw54_WordlistTexts.calls (k : Nat) (A0_0 : Option Addr) (c0_0 : Nat) (l0_0 : List ByteArray) (r : Bool) (w : World) (hr0_0 : Kd.C Kd.string w A0_0 l0_0.length l0_0) (hc0_0 : l0_0.length ≤ c0_0) (h : ancepslaw54_WordlistTexts.f k l0_0 = some r) :
    Calls Tryd.prog 4 #[.agg #[.slice A0_0 l0_0.length c0_0]] w fun e w' => e = .returned (.bool r) ∧ Below w.heap.size w w' := by
  have hu25 := Tryd.underlying25
  have HR0_0 := Aside0.mk hr0_0
  have HC0_0 := Aside0.mk hc0_0
  clear hr0_0 hc0_0
  have HB := Aside0.mk (Below.refl w.heap.size w)
  have H : ((ancepslaw54_awake.f k).bind fun t278 => (if t278 = true then ((ancepsref54_Few.f k l0_0).bind fun t279 => (ancepslaw54_WordlistTexts.j0 k (!t279) l0_0)) else (ancepslaw54_WordlistTexts.j0 k true l0_0))) = some r := h
  clear h
  have HC2 := Aside0.mk H
  clear H
  go_enter Tryd.func4, Tryd.ntmps4
  go_upto_region 1 with (first | ((with_reducible refine gate_dst (N := 1) rfl ?_); refine box_event ?hg (N := 1) ?hd (cs := #[.slice A0_0 l0_0.length c0_0]) (t := 25) ?hr ?_; (case hd => rfl); (case hg => rfl); (case hr => first | (go_simp; done) | (go_simp; rfl)); intro gb277 hg w3 hbox hb; have n0_ := Aside0.mk (below_step (by repeat (first | (with_reducible first | exact HB.out | apply below_alloc | apply pw_below_drewN | apply below_drew1) | exact HB.out)) hb); have n1_ := Aside0.mk (hbox); have n2_ := Aside0.mk ((by rw [hg]; exact (below_size (by repeat (first | (with_reducible first | exact HB.out | apply below_alloc | apply pw_below_drewN | apply below_drew1) | exact HB.out))) : w.heap.size ≤ gb277)); have n3_ := Aside0.mk ((by rw [hg]; exact (below_size (by repeat (first | (with_reducible first | exact HB.out | apply below_alloc | apply pw_below_drewN | apply below_drew1) | exact HB.out))) : w.heap.size ≤ gb277)); clear HB; have HB := n0_; have BK277 := n1_; have GW277 := n2_; have GE277 := n3_; clear n0_ n1_ n2_ n3_; clear hb hbox hg))
  (try simp only [Act.put, List.setIfInBounds_toArray, List.set_cons_zero, List.set_cons_succ])
  go_cut [16] (fun v16 wc => ∃ (kq : Nat) (x16_1 : Bool), v16 = .bool x16_1 ∧ Aside0 (ancepslaw54_WordlistTexts.j0 kq x16_1 l0_0 = some r) ∧ Aside0 (kq ≤ k) ∧ Aside0 (wc.heap[gb277]? = some (.cells #[(.slice A0_0 l0_0.length c0_0)] 25 (0, 0))) ∧ Aside0 (Below w.heap.size w wc))
  case first =>
    have H := HC2.out
    clear HC2
    replace H := Option.bind_eq_some_iff.mp H
    obtain ⟨t278, A40, H⟩ := H
    replace H : (if t278 = true then ((ancepsref54_Few.f k l0_0).bind fun t279 => (ancepslaw54_WordlistTexts.j0 k (!t279) l0_0)) else (ancepslaw54_WordlistTexts.j0 k true l0_0)) = some r := H
    have A4 := Aside0.mk A40
    clear A40
    by_cases c5 : t278 = true
    · subst c5
      have H1 : ((ancepsref54_Few.f k l0_0).bind fun t279 => (ancepslaw54_WordlistTexts.j0 k (!t279) l0_0)) = some r := by rw [if_pos rfl] at H; exact H
      clear H
      have H := H1
      clear H1
      replace H := Option.bind_eq_some_iff.mp H
      obtain ⟨t279, A60, H⟩ := H
      replace H : (ancepslaw54_WordlistTexts.j0 k (!t279) l0_0) = some r := H
      have A6 := Aside0.mk A60
      clear A60
      have H' := Aside0.mk H
      clear H
      go_wp2_with (first | ((with_reducible refine gate_callee (f := 5) rfl ?_); refine goesL_ (some 10) rfl rfl Tryd.func5 (by kernel_rfl) rfl #[] rfl (by (try simp only [List.map_toArray, List.map_cons, List.map_nil]); first | done | rfl | (simp only [List.length_drop, List.length_take]; rfl)) ?_; (with_reducible refine (ancepslaw54_awake.calls k  true _ A4.out).mono ?_); rintro e w7 ⟨rfl, hb⟩; refine ⟨_, rfl, ?_⟩; have n0_ := Aside0.mk (blk_below (g := gb277) (o := .cells #[.slice A0_0 l0_0.length c0_0] 25 (0, 0)) (by (with_reducible repeat (first | refine blk_drewN ?_ _ | refine blk_drew ?_ | refine blk_alloc ?_ _)); exact BK277.out) hb); have n1_ := Aside0.mk (below_step (by repeat (first | (with_reducible first | exact HB.out | apply below_alloc | apply pw_below_drewN | apply below_drew1 | refine below_set ?_ GE277.out) | exact HB.out)) hb); clear BK277; clear HB; have BK277 := n0_; have HB := n1_; clear n0_ n1_; (try clear hb); (try clear hb2); (try clear hk); (try clear hi); have hcz8_0 : w7.cell? ⟨gb277, 0, none⟩ = some (.slice A0_0 l0_0.length c0_0) := (blk_cell BK277.out 0).trans rfl; have hfz8_0 := blk_frozen BK277.out 0) | (go_at_call 10; (with_reducible refine (ancepsref54_Few.calls k _ _ l0_0 t279 _ ?side1 ?side2 A6.out).mono ?_); (case side1 => repeat (first | exact (Kd.C_below HR0_0.out HB.out) | (with_reducible refine Kd.C_alloc ?_ _) | (with_reducible refine Kd.C_drewN ?_ _) | (with_reducible refine Kd.C_drew ?_))); (case side2 => exact HC0_0.out); rintro e w9 ⟨rfl, hb⟩; have n0_ := Aside0.mk (blk_below (g := gb277) (o := .cells #[.slice A0_0 l0_0.length c0_0] 25 (0, 0)) (by (with_reducible repeat (first | refine blk_drewN ?_ _ | refine blk_drew ?_ | refine blk_alloc ?_ _)); exact BK277.out) hb); have n1_ := Aside0.mk (below_step (by repeat (first | (with_reducible first | exact HB.out | apply below_alloc | apply pw_below_drewN | apply below_drew1 | refine below_set ?_ GE277.out) | exact HB.out)) hb); clear BK277; clear HB; have BK277 := n0_; have HB := n1_; clear n0_ n1_; (try clear hb); (try clear hb2); (try clear hk); (try clear hi)))
      go_meet
      case rel => exact ⟨_, (!t279), (by first | rfl | (simp; done) | (simp [*]; done)), H', ⟨by first | omega | exact Nat.le_refl _⟩, ⟨by (with_reducible repeat (first | refine blk_drewN ?_ _ | refine blk_drew ?_ | refine blk_alloc ?_ _)); exact BK277.out⟩, ⟨by repeat (first | (with_reducible first | exact HB.out | apply below_alloc | apply pw_below_drewN | apply below_drew1 | refine below_set ?_ GE277.out) | exact HB.out)⟩⟩
    · replace c5 := Bool.eq_false_iff.mpr c5
      subst c5
      have H1 : (ancepslaw54_WordlistTexts.j0 k true l0_0) = some r := by rw [if_neg (show ¬ (false = true) by decide)] at H; exact H
      clear H
      have H := H1
      clear H1
      have H' := Aside0.mk H
      clear H
      go_wp2_with (first | ((with_reducible refine gate_callee (f := 5) rfl ?_); refine goesL_ (some 10) rfl rfl Tryd.func5 (by kernel_rfl) rfl #[] rfl (by (try simp only [List.map_toArray, List.map_cons, List.map_nil]); first | done | rfl | (simp only [List.length_drop, List.length_take]; rfl)) ?_; (with_reducible refine (ancepslaw54_awake.calls k  false _ A4.out).mono ?_); rintro e w10 ⟨rfl, hb⟩; refine ⟨_, rfl, ?_⟩; have n0_ := Aside0.mk (blk_below (g := gb277) (o := .cells #[.slice A0_0 l0_0.length c0_0] 25 (0, 0)) (by (with_reducible repeat (first | refine blk_drewN ?_ _ | refine blk_drew ?_ | refine blk_alloc ?_ _)); exact BK277.out) hb); have n1_ := Aside0.mk (below_step (by repeat (first | (with_reducible first | exact HB.out | apply below_alloc | apply pw_below_drewN | apply below_drew1 | refine below_set ?_ GE277.out) | exact HB.out)) hb); clear BK277; clear HB; have BK277 := n0_; have HB := n1_; clear n0_ n1_; (try clear hb); (try clear hb2); (try clear hk); (try clear hi)))
      go_meet
      case rel => exact ⟨_, (true), (by first | rfl | (simp; done) | (simp [*]; done)), H', ⟨by first | omega | exact Nat.le_refl _⟩, ⟨by (with_reducible repeat (first | refine blk_drewN ?_ _ | refine blk_drew ?_ | refine blk_alloc ?_ _)); exact BK277.out⟩, ⟨by repeat (first | (with_reducible first | exact HB.out | apply below_alloc | apply pw_below_drewN | apply below_drew1 | refine below_set ?_ GE277.out) | exact HB.out)⟩⟩
  case rest =>
    clear HC2
    try clear p2
    try clear c4
    try clear c5
    try clear hcz8_0
    try clear hfz8_0
    obtain ⟨kq, x16_1, rfl, HA, HJ1, BK277, HB⟩ := hcut
    cases kq with
    | zero => exact absurd HA.out (by simp [ancepslaw54_WordlistTexts.j0])
    | succ kj1 =>
      have H := HA.out
      clear HA
      simp only [ancepslaw54_WordlistTexts.j0] at H
      by_cases c11 : x16_1 = true
      · subst c11
        have H1 : ((ancepslaw54_awake.f kj1).bind fun t280 => (some t280)) = some r := by rw [if_pos rfl] at H; exact H
        clear H
        have H := H1
        clear H1
        replace H := Option.bind_eq_some_iff.mp H
        obtain ⟨t280, A120, H⟩ := H
        replace H : (some t280) = some r := H
        have A12 := Aside0.mk A120
        clear A120
        obtain rfl := Option.some.inj H
        go_wp2_with (first | ((with_reducible refine gate_callee (f := 5) rfl ?_); refine goesL_ (some 17) rfl rfl Tryd.func5 (by kernel_rfl) rfl #[] rfl (by (try simp only [List.map_toArray, List.map_cons, List.map_nil]); first | done | rfl | (simp only [List.length_drop, List.length_take]; rfl)) ?_; (with_reducible refine (ancepslaw54_awake.calls kj1  t280 _ A12.out).mono ?_); rintro e w13 ⟨rfl, hb⟩; refine ⟨_, rfl, ?_⟩; have n0_ := Aside0.mk (blk_below (g := gb277) (o := .cells #[.slice A0_0 l0_0.length c0_0] 25 (0, 0)) (by (with_reducible repeat (first | refine blk_drewN ?_ _ | refine blk_drew ?_ | refine blk_alloc ?_ _)); exact BK277.out) hb); have n1_ := Aside0.mk (below_step (by repeat (first | (with_reducible first | exact HB.out | apply below_alloc | apply pw_below_drewN | apply below_drew1 | refine below_set ?_ GE277.out) | exact HB.out)) hb); clear BK277; clear HB; have BK277 := n0_; have HB := n1_; clear n0_ n1_; (try clear hb); (try clear hb2); (try clear hk); (try clear hi)))
        go_ret
        exact ⟨by first | rfl | (simp [errW_none, errW_some] <;> rfl) | (simp [*, errW_none, errW_some] <;> rfl), by repeat (first | (with_reducible first | exact HB.out | apply below_alloc | apply pw_below_drewN | apply below_drew1 | refine below_set ?_ GE277.out) | exact HB.out)⟩
      · replace c11 := Bool.eq_false_iff.mpr c11
        subst c11
        have H1 : ((ancepslaw54_copied.f l0_0).bind fun t281 => ((wordlist_Format.f kj1 t281).bind fun bt284 => ((ancepsref54_Format.f kj1 l0_0).bind fun bt286 => (if bt284.1.toList = bt286.1.toList then (if bt284.2 = bt286.2 then (ancepslaw54_WordlistTexts.j1 kj1 bt284.1 bt284.2 bt286.1 bt286.2 (bt284.2 != 0) l0_0) else (ancepslaw54_WordlistTexts.j1 kj1 bt284.1 bt284.2 bt286.1 bt286.2 true l0_0)) else (ancepslaw54_WordlistTexts.j1 kj1 bt284.1 bt284.2 bt286.1 bt286.2 true l0_0))))) = some r := by rw [if_neg (show ¬ (false = true) by decide)] at H; exact H
        clear H
        have H := H1
        clear H1
        replace H := Option.bind_eq_some_iff.mp H
        obtain ⟨t281, A140, H⟩ := H
        replace H : ((wordlist_Format.f kj1 t281).bind fun bt284 => ((ancepsref54_Format.f kj1 l0_0).bind fun bt286 => (if bt284.1.toList = bt286.1.toList then (if bt284.2 = bt286.2 then (ancepslaw54_WordlistTexts.j1 kj1 bt284.1 bt284.2 bt286.1 bt286.2 (bt284.2 != 0) l0_0) else (ancepslaw54_WordlistTexts.j1 kj1 bt284.1 bt284.2 bt286.1 bt286.2 true l0_0)) else (ancepslaw54_WordlistTexts.j1 kj1 bt284.1 bt284.2 bt286.1 bt286.2 true l0_0)))) = some r := H
        have A14 := Aside0.mk A140
        clear A140
        replace H := Option.bind_eq_some_iff.mp H
        obtain ⟨⟨t284, t285⟩, A150, H⟩ := H
        replace H : ((ancepsref54_Format.f kj1 l0_0).bind fun bt286 => (if t284.toList = bt286.1.toList then (if t285 = bt286.2 then (ancepslaw54_WordlistTexts.j1 kj1 t284 t285 bt286.1 bt286.2 (t285 != 0) l0_0) else (ancepslaw54_WordlistTexts.j1 kj1 t284 t285 bt286.1 bt286.2 true l0_0)) else (ancepslaw54_WordlistTexts.j1 kj1 t284 t285 bt286.1 bt286.2 true l0_0))) = some r := H
        have A15 := Aside0.mk A150
        clear A150
        replace H := Option.bind_eq_some_iff.mp H
        obtain ⟨⟨t286, t287⟩, A160, H⟩ := H
        replace H : (if t284.toList = t286.toList then (if t285 = t287 then (ancepslaw54_WordlistTexts.j1 kj1 t284 t285 t286 t287 (t285 != 0) l0_0) else (ancepslaw54_WordlistTexts.j1 kj1 t284 t285 t286 t287 true l0_0)) else (ancepslaw54_WordlistTexts.j1 kj1 t284 t285 t286 t287 true l0_0)) = some r := H
        have A16 := Aside0.mk A160
        clear A160
        have HC17 := Aside0.mk H
        clear H
        have hcz18_0 : wc.cell? ⟨gb277, 0, none⟩ = some (.slice A0_0 l0_0.length c0_0) := (blk_cell BK277.out 0).trans rfl
        have hfz18_0 := blk_frozen BK277.out 0
        go_upto_region 5 with (first | ((with_reducible refine gate_callee (f := 11) rfl ?_); refine goesL_ (some 20) rfl rfl Tryd.func11 (by kernel_rfl) rfl #[.agg #[.slice A0_0 l0_0.length c0_0]] rfl (by (try simp only [List.map_toArray, List.map_cons, List.map_nil]); first | done | rfl | (simp only [List.length_drop, List.length_take]; rfl)) ?_; (with_reducible refine (ancepslaw54_copied.calls _ _ l0_0 t281 _ ?side1 ?side2 A14.out).mono ?_); (case side1 => repeat (first | exact (Kd.C_below HR0_0.out HB.out) | (with_reducible refine Kd.C_alloc ?_ _) | (with_reducible refine Kd.C_drewN ?_ _) | (with_reducible refine Kd.C_drew ?_))); (case side2 => exact HC0_0.out); rintro e w19 ⟨v282, rfl, ho0, hb⟩; refine ⟨_, rfl, ?_⟩; have n0_ := Aside0.mk (Kd.R_lower ho0 (below_size (by repeat (first | (with_reducible first | exact HB.out | apply below_alloc | apply pw_below_drewN | apply below_drew1 | refine below_set ?_ GE277.out) | exact HB.out)))); have n1_ := Aside0.mk (blk_below (g := gb277) (o := .cells #[.slice A0_0 l0_0.length c0_0] 25 (0, 0)) (by (with_reducible repeat (first | refine blk_drewN ?_ _ | refine blk_drew ?_ | refine blk_alloc ?_ _)); exact BK277.out) hb); have n2_ := Aside0.mk (below_step (by repeat (first | (with_reducible first | exact HB.out | apply below_alloc | apply pw_below_drewN | apply below_drew1 | refine below_set ?_ GE277.out) | exact HB.out)) hb); clear BK277; clear HB; have HO283 := n0_; have BK277 := n1_; have HB := n2_; clear n0_ n1_ n2_; (try clear hb); (try clear hb2); (try clear hk); (try clear hi); (try clear ho0); obtain ⟨Ao20, co20, eo20⟩ := Kd.R_slice HO283.out; subst eo20) | ((with_reducible refine gate_callee (f := 9) rfl ?_); refine goesL_ (some 21) rfl rfl Tryd.func9 (by kernel_rfl) rfl #[.agg #[.slice Ao20 t281.length co20]] rfl (by (try simp only [List.map_toArray, List.map_cons, List.map_nil]); first | done | rfl | (simp only [List.length_drop, List.length_take]; rfl)) ?_; (with_reducible refine (wordlist_Format.calls kj1 _ _ t281 t284 t285 _ ?side1 ?side2 A15.out).mono ?_); (case side1 => repeat (first | exact (Kd.R_reads' HO283.out).2.2 | (with_reducible refine Kd.C_alloc ?_ _) | (with_reducible refine Kd.C_drewN ?_ _) | (with_reducible refine Kd.C_drew ?_))); (case side2 => exact (Kd.R_reads' HO283.out).2.1); rintro e w21 ⟨rfl, hb⟩; refine ⟨_, rfl, ?_⟩; have n0_ := Aside0.mk (Kd.R_below (by (with_reducible repeat (first | apply Kd.R_alloc | apply Kd.R_drewN | apply Kd.R_drew)); exact HO283.out) hb); have n1_ := Aside0.mk (blk_below (g := gb277) (o := .cells #[.slice A0_0 l0_0.length c0_0] 25 (0, 0)) (by (with_reducible repeat (first | refine blk_drewN ?_ _ | refine blk_drew ?_ | refine blk_alloc ?_ _)); exact BK277.out) hb); have n2_ := Aside0.mk (below_step (by repeat (first | (with_reducible first | exact HB.out | apply below_alloc | apply pw_below_drewN | apply below_drew1 | refine below_set ?_ GE277.out) | exact HB.out)) hb); clear HO283; clear BK277; clear HB; have HO283 := n0_; have BK277 := n1_; have HB := n2_; clear n0_ n1_ n2_; (try clear hb); (try clear hb2); (try clear hk); (try clear hi); have hcz22_0 : w21.cell? ⟨gb277, 0, none⟩ = some (.slice A0_0 l0_0.length c0_0) := (blk_cell BK277.out 0).trans rfl; have hfz22_0 := blk_frozen BK277.out 0) | ((with_reducible refine gate_callee (f := 12) rfl ?_); refine goesL_ (some 26) rfl rfl Tryd.func12 (by kernel_rfl) rfl #[.agg #[.slice A0_0 l0_0.length c0_0]] rfl (by (try simp only [List.map_toArray, List.map_cons, List.map_nil]); first | done | rfl | (simp only [List.length_drop, List.length_take]; rfl)) ?_; (with_reducible refine (ancepsref54_Format.calls kj1 _ _ l0_0 t286 t287 _ ?side1 ?side2 A16.out).mono ?_); (case side1 => repeat (first | exact (Kd.C_below HR0_0.out HB.out) | (with_reducible refine Kd.C_alloc ?_ _) | (with_reducible refine Kd.C_drewN ?_ _) | (with_reducible refine Kd.C_drew ?_))); (case side2 => exact HC0_0.out); rintro e w23 ⟨rfl, hb⟩; refine ⟨_, rfl, ?_⟩; have n0_ := Aside0.mk (Kd.R_below (by (with_reducible repeat (first | apply Kd.R_alloc | apply Kd.R_drewN | apply Kd.R_drew)); exact HO283.out) hb); have n1_ := Aside0.mk (blk_below (g := gb277) (o := .cells #[.slice A0_0 l0_0.length c0_0] 25 (0, 0)) (by (with_reducible repeat (first | refine blk_drewN ?_ _ | refine blk_drew ?_ | refine blk_alloc ?_ _)); exact BK277.out) hb); have n2_ := Aside0.mk (below_step (by repeat (first | (with_reducible first | exact HB.out | apply below_alloc | apply pw_below_drewN | apply below_drew1 | refine below_set ?_ GE277.out) | exact HB.out)) hb); clear HO283; clear BK277; clear HB; have HO283 := n0_; have BK277 := n1_; have HB := n2_; clear n0_ n1_ n2_; (try clear hb); (try clear hb2); (try clear hk); (try clear hi)))
        (try simp only [Act.put, List.setIfInBounds_toArray, List.set_cons_zero, List.set_cons_succ])
        go_cut [40] (fun v40 wc => ∃ (kq : Nat) (x40_16 : Bool), v40 = .bool x40_16 ∧ Aside0 (ancepslaw54_WordlistTexts.j1 kq t284 t285 t286 t287 x40_16 l0_0 = some r) ∧ Aside0 (kq ≤ kj1) ∧ Aside0 (wc.heap[gb277]? = some (.cells #[(.slice A0_0 l0_0.length c0_0)] 25 (0, 0))) ∧ Aside0 (Below w.heap.size w wc))
        case first =>
          have H := HC17.out
          clear HC17
          by_cases c24 : t284.toList = t286.toList
          · rw [if_pos c24] at H
            have c24b0 : (t284.toList == t286.toList) = true := beq_iff_eq.mpr c24
            have c24b1 : (t284.toList != t286.toList) = false := bne_eq_false_iff_eq.mpr c24
            clear c24
            (first | rw [c24b0] | (simp only [i64_w, i32_w]; rw [c24b0]) | skip)
            by_cases c25 : t285 = t287
            · rw [if_pos c25] at H
              have c25b0 : (t285 == t287) = true := beq_iff_eq.mpr c25
              have c25b1 : (t285 != t287) = false := bne_eq_false_iff_eq.mpr c25
              clear c25
              have H' := Aside0.mk H
              clear H
              go_wp2
              go_meet
              case rel => exact ⟨_, ((t285 != 0)), (by first | rfl | (simp; done) | (simp [*]; done)), H', ⟨by have := HJ1.out; first | omega | exact Nat.le_refl _⟩, ⟨by (with_reducible repeat (first | refine blk_drewN ?_ _ | refine blk_drew ?_ | refine blk_alloc ?_ _)); exact BK277.out⟩, ⟨by repeat (first | (with_reducible first | exact HB.out | apply below_alloc | apply pw_below_drewN | apply below_drew1 | refine below_set ?_ GE277.out) | exact HB.out)⟩⟩
            · rw [if_neg c25] at H
              have c25b0 : (t285 == t287) = false := beq_eq_false_iff_ne.mpr c25
              have c25b1 : (t285 != t287) = true := bne_iff_ne.mpr c25
              have H' := Aside0.mk H
              clear H
              go_wp2
              go_meet
              case rel => exact ⟨_, (true), (by first | rfl | (simp; done) | (simp [*]; done)), H', ⟨by have := HJ1.out; first | omega | exact Nat.le_refl _⟩, ⟨by (with_reducible repeat (first | refine blk_drewN ?_ _ | refine blk_drew ?_ | refine blk_alloc ?_ _)); exact BK277.out⟩, ⟨by repeat (first | (with_reducible first | exact HB.out | apply below_alloc | apply pw_below_drewN | apply below_drew1 | refine below_set ?_ GE277.out) | exact HB.out)⟩⟩
          · rw [if_neg c24] at H
            have c24b0 : (t284.toList == t286.toList) = false := beq_eq_false_iff_ne.mpr c24
            have c24b1 : (t284.toList != t286.toList) = true := bne_iff_ne.mpr c24
            (first | rw [c24b0] | (simp only [i64_w, i32_w]; rw [c24b0]) | skip)
            have H' := Aside0.mk H
            clear H
            go_wp2
            go_meet
            case rel => exact ⟨_, (true), (by first | rfl | (simp; done) | (simp [*]; done)), H', ⟨by have := HJ1.out; first | omega | exact Nat.le_refl _⟩, ⟨by (with_reducible repeat (first | refine blk_drewN ?_ _ | refine blk_drew ?_ | refine blk_alloc ?_ _)); exact BK277.out⟩, ⟨by repeat (first | (with_reducible first | exact HB.out | apply below_alloc | apply pw_below_drewN | apply below_drew1 | refine below_set ?_ GE277.out) | exact HB.out)⟩⟩
        case rest =>
          clear HC17
          try clear c1
          try clear c2
          try clear p2
          try clear c4
          try clear c5
          try clear c9
          try clear c11
          try clear c12
          try clear c24
          try clear c24b0
          try clear c24b1
          try clear c25
          try clear c25b0
          try clear c25b1
          try clear hcz18_0
          try clear hcz22_0
          try clear hcz8_0
          try clear hfz18_0
          try clear hfz22_0
          try clear hfz8_0
          try clear p2
          obtain ⟨kq, x40_16, rfl, HA, HJ16, BK277, HB⟩ := hcut
          cases kq with
          | zero => exact absurd HA.out (by simp [ancepslaw54_WordlistTexts.j1])
          | succ kj16 =>
            have H := HA.out
            clear HA
            simp only [ancepslaw54_WordlistTexts.j1] at H
            by_cases c26 : x40_16 = true
            · subst c26
              have H1 : (if t284.toList = t286.toList then (some (t285 == t287)) else (some false)) = some r := by rw [if_pos rfl] at H; exact H
              clear H
              have H := H1
              clear H1
              by_cases c27 : t284.toList = t286.toList
              · rw [if_pos c27] at H
                have c27b0 : (t284.toList == t286.toList) = true := beq_iff_eq.mpr c27
                have c27b1 : (t284.toList != t286.toList) = false := bne_eq_false_iff_eq.mpr c27
                clear c27
                obtain rfl := Option.some.inj H
                go_wp2
                go_ret
                exact ⟨by first | rfl | (simp [errW_none, errW_some] <;> rfl) | (simp [*, errW_none, errW_some] <;> rfl), by repeat (first | (with_reducible first | exact HB.out | apply below_alloc | apply pw_below_drewN | apply below_drew1 | refine below_set ?_ GE277.out) | exact HB.out)⟩
              · rw [if_neg c27] at H
                have c27b0 : (t284.toList == t286.toList) = false := beq_eq_false_iff_ne.mpr c27
                have c27b1 : (t284.toList != t286.toList) = true := bne_iff_ne.mpr c27
                obtain rfl := Option.some.inj H
                go_wp2
                go_ret
                exact ⟨by first | rfl | (simp [errW_none, errW_some] <;> rfl) | (simp [*, errW_none, errW_some] <;> rfl), by repeat (first | (with_reducible first | exact HB.out | apply below_alloc | apply pw_below_drewN | apply below_drew1 | refine below_set ?_ GE277.out) | exact HB.out)⟩
            · replace c26 := Bool.eq_false_iff.mpr c26
              subst c26
              have H1 : ((wordlist_Parse.f kj16 t284).bind fun bt288 => (if bt288.2.2 = 0 then (if bt288.2.1 = 0 then ((slices_Equal_string_string.f kj16 bt288.1 l0_0).bind fun t294 => (some t294)) else (some false)) else (some false))) = some r := by rw [if_neg (show ¬ (false = true) by decide)] at H; exact H
              clear H
              have H := H1
              clear H1
              replace H := Option.bind_eq_some_iff.mp H
              obtain ⟨⟨t288, t291, t292⟩, A280, H⟩ := H
              replace H : (if t292 = 0 then (if t291 = 0 then ((slices_Equal_string_string.f kj16 t288 l0_0).bind fun t294 => (some t294)) else (some false)) else (some false)) = some r := H
              have A28 := Aside0.mk A280
              clear A280
              by_cases c29 : t292 = 0
              · rw [if_pos c29] at H
                have c29b0 : (t292 == 0) = true := beq_iff_eq.mpr c29
                have c29b1 : (t292 != 0) = false := bne_eq_false_iff_eq.mpr c29
                clear c29
                by_cases c30 : t291 = 0
                · rw [if_pos c30] at H
                  have c30b0 : (t291 == 0) = true := beq_iff_eq.mpr c30
                  have c30b1 : (t291 != 0) = false := bne_eq_false_iff_eq.mpr c30
                  clear c30
                  replace H := Option.bind_eq_some_iff.mp H
                  obtain ⟨t294, A310, H⟩ := H
                  replace H : (some t294) = some r := H
                  have A31 := Aside0.mk A310
                  clear A310
                  obtain rfl := Option.some.inj H
                  go_wp2_with (first | ((with_reducible refine gate_callee (f := 6) rfl ?_); refine goesL_ (some 51) rfl rfl Tryd.func6 (by kernel_rfl) rfl #[.string t284] rfl (by (try simp only [List.map_toArray, List.map_cons, List.map_nil]); first | done | rfl | (simp only [List.length_drop, List.length_take]; rfl)) ?_; (with_reducible refine (wordlist_Parse.calls kj16 t284 t288 t291 t292 _ A28.out).mono ?_); rintro e w32 ⟨v289, rfl, ho0, hb⟩; refine ⟨_, rfl, ?_⟩; have n0_ := Aside0.mk (Kd.R_lower ho0 (below_size (by repeat (first | (with_reducible first | exact HB.out | apply below_alloc | apply pw_below_drewN | apply below_drew1 | refine below_set ?_ GE277.out) | exact HB.out)))); have n1_ := Aside0.mk (blk_below (g := gb277) (o := .cells #[.slice A0_0 l0_0.length c0_0] 25 (0, 0)) (by (with_reducible repeat (first | refine blk_drewN ?_ _ | refine blk_drew ?_ | refine blk_alloc ?_ _)); exact BK277.out) hb); have n2_ := Aside0.mk (below_step (by repeat (first | (with_reducible first | exact HB.out | apply below_alloc | apply pw_below_drewN | apply below_drew1 | refine below_set ?_ GE277.out) | exact HB.out)) hb); clear BK277; clear HB; have HO290 := n0_; have BK277 := n1_; have HB := n2_; clear n0_ n1_ n2_; (try clear hb); (try clear hb2); (try clear hk); (try clear hi); (try clear ho0)) | ((with_reducible refine gate_dst (N := 7) rfl ?_); refine box_event ?hg (N := 7) ?hd (cs := #[.slice none 0 0]) (t := 25) ?hr ?_; (case hd => rfl); (case hg => rfl); (case hr => first | (go_simp; done) | (go_simp; rfl)); intro gb293 hg w33 hbox hb; have n0_ := Aside0.mk (Kd.R_below (by (with_reducible repeat (first | apply Kd.R_alloc | apply Kd.R_drewN | apply Kd.R_drew)); exact HO290.out) hb); have n1_ := Aside0.mk (blk_below (g := gb277) (o := .cells #[.slice A0_0 l0_0.length c0_0] 25 (0, 0)) (by (with_reducible repeat (first | refine blk_drewN ?_ _ | refine blk_drew ?_ | refine blk_alloc ?_ _)); exact BK277.out) hb); have n2_ := Aside0.mk (below_step (by repeat (first | (with_reducible first | exact HB.out | apply below_alloc | apply pw_below_drewN | apply below_drew1 | refine below_set ?_ GE277.out) | exact HB.out)) hb); have n3_ := Aside0.mk (hbox); have n4_ := Aside0.mk ((by rw [hg]; exact (below_size (by repeat (first | (with_reducible first | exact HB.out | apply below_alloc | apply pw_below_drewN | apply below_drew1 | refine below_set ?_ GE277.out) | exact HB.out))) : w.heap.size ≤ gb293)); have n5_ := Aside0.mk ((by rw [hg]; exact (below_size (by repeat (first | (with_reducible first | exact HB.out | apply below_alloc | apply pw_below_drewN | apply below_drew1 | refine below_set ?_ GE277.out) | exact HB.out))) : w.heap.size ≤ gb293)); have n6_ := Aside0.mk ((by rw [hg]; exact Nat.ne_of_lt (blk_lt (g := gb277) (o := .cells #[.slice A0_0 l0_0.length c0_0] 25 (0, 0)) (by (with_reducible repeat (first | refine blk_drewN ?_ _ | refine blk_drew ?_ | refine blk_alloc ?_ _)); exact BK277.out)) : gb277 ≠ gb293)); have n7_ := Aside0.mk ((by rw [hg]; exact Nat.ne_of_gt (blk_lt (g := gb277) (o := .cells #[.slice A0_0 l0_0.length c0_0] 25 (0, 0)) (by (with_reducible repeat (first | refine blk_drewN ?_ _ | refine blk_drew ?_ | refine blk_alloc ?_ _)); exact BK277.out)) : gb293 ≠ gb277)); clear HO290; clear BK277; clear HB; have HO290 := n0_; have BK277 := n1_; have HB := n2_; have BK293 := n3_; have GW293 := n4_; have GE293 := n5_; have NB277_293 := n6_; have NB293_277 := n7_; clear n0_ n1_ n2_ n3_ n4_ n5_ n6_ n7_; clear hb hbox hg; obtain ⟨Ao34, co34, eo34⟩ := Kd.R_slice HO290.out; subst eo34; have hnb35 := NB293_277.out; have hnc35 := NB277_293.out; have hcz36_0 : w33.cell? ⟨gb293, 0, none⟩ = some (.slice none 0 0) := (blk_cell BK293.out 0).trans rfl; have hfz36_0 := blk_frozen BK293.out 0; have hcz37_0 : w33.cell? ⟨gb277, 0, none⟩ = some (.slice A0_0 l0_0.length c0_0) := (blk_cell BK277.out 0).trans rfl; have hfz37_0 := blk_frozen BK277.out 0) | (go_at_call 8; (with_reducible refine (slices_Equal_string_string.calls kj16 _ _ t288 _ _ l0_0 t294 _ ?side1 ?side2 ?side3 ?side4 A31.out).mono ?_); (case side1 => refine (Kd.R_reads' (e := 9) (base := w.heap.size) (ok := fun k_ => True) (n := t288.length) (c := co34) ?_).2.2; exact (by (with_reducible repeat (first | apply Kd.R_alloc | apply Kd.R_drewN | apply Kd.R_drew)); exact (Kd.R_mono (Kd.R_far (p := ⟨gb293, 0, none⟩) (Kd.R_types HO290.out BK293.out (by decide)) (fun _ hk => hk.2) (.slice Ao34 t288.length co34)) (fun _ h_ => h_.1)))); (case side2 => exact (Kd.R_reads' HO290.out).2.1); (case side3 => exact Kd.C_below HR0_0.out (by repeat (first | (with_reducible first | exact HB.out | apply below_alloc | apply pw_below_drewN | apply below_drew1 | refine below_set ?_ GE277.out | refine below_set ?_ GE293.out) | exact HB.out))); (case side4 => exact HC0_0.out); rintro e w' ⟨rfl, ⟨nd, rfl⟩⟩))
                  go_ret
                  exact ⟨by first | rfl | (simp [errW_none, errW_some] <;> rfl) | (simp [*, errW_none, errW_some] <;> rfl), by repeat (first | (with_reducible first | exact HB.out | apply below_alloc | apply pw_below_drewN | apply below_drew1 | refine below_set ?_ GE277.out | refine below_set ?_ GE293.out) | exact HB.out)⟩
                · rw [if_neg c30] at H
                  have c30b0 : (t291 == 0) = false := beq_eq_false_iff_ne.mpr c30
                  have c30b1 : (t291 != 0) = true := bne_iff_ne.mpr c30
                  obtain rfl := Option.some.inj H
                  go_wp2_with (first | ((with_reducible refine gate_callee (f := 6) rfl ?_); refine goesL_ (some 51) rfl rfl Tryd.func6 (by kernel_rfl) rfl #[.string t284] rfl (by (try simp only [List.map_toArray, List.map_cons, List.map_nil]); first | done | rfl | (simp only [List.length_drop, List.length_take]; rfl)) ?_; (with_reducible refine (wordlist_Parse.calls kj16 t284 t288 t291 t292 _ A28.out).mono ?_); rintro e w38 ⟨v289, rfl, ho0, hb⟩; refine ⟨_, rfl, ?_⟩; have n0_ := Aside0.mk (Kd.R_lower ho0 (below_size (by repeat (first | (with_reducible first | exact HB.out | apply below_alloc | apply pw_below_drewN | apply below_drew1 | refine below_set ?_ GE277.out) | exact HB.out)))); have n1_ := Aside0.mk (blk_below (g := gb277) (o := .cells #[.slice A0_0 l0_0.length c0_0] 25 (0, 0)) (by (with_reducible repeat (first | refine blk_drewN ?_ _ | refine blk_drew ?_ | refine blk_alloc ?_ _)); exact BK277.out) hb); have n2_ := Aside0.mk (below_step (by repeat (first | (with_reducible first | exact HB.out | apply below_alloc | apply pw_below_drewN | apply below_drew1 | refine below_set ?_ GE277.out) | exact HB.out)) hb); clear BK277; clear HB; have HO290 := n0_; have BK277 := n1_; have HB := n2_; clear n0_ n1_ n2_; (try clear hb); (try clear hb2); (try clear hk); (try clear hi); (try clear ho0)) | ((with_reducible refine gate_dst (N := 7) rfl ?_); refine box_event ?hg (N := 7) ?hd (cs := #[.slice none 0 0]) (t := 25) ?hr ?_; (case hd => rfl); (case hg => rfl); (case hr => first | (go_simp; done) | (go_simp; rfl)); intro gb293 hg w39 hbox hb; have n0_ := Aside0.mk (Kd.R_below (by (with_reducible repeat (first | apply Kd.R_alloc | apply Kd.R_drewN | apply Kd.R_drew)); exact HO290.out) hb); have n1_ := Aside0.mk (blk_below (g := gb277) (o := .cells #[.slice A0_0 l0_0.length c0_0] 25 (0, 0)) (by (with_reducible repeat (first | refine blk_drewN ?_ _ | refine blk_drew ?_ | refine blk_alloc ?_ _)); exact BK277.out) hb); have n2_ := Aside0.mk (below_step (by repeat (first | (with_reducible first | exact HB.out | apply below_alloc | apply pw_below_drewN | apply below_drew1 | refine below_set ?_ GE277.out) | exact HB.out)) hb); have n3_ := Aside0.mk (hbox); have n4_ := Aside0.mk ((by rw [hg]; exact (below_size (by repeat (first | (with_reducible first | exact HB.out | apply below_alloc | apply pw_below_drewN | apply below_drew1 | refine below_set ?_ GE277.out) | exact HB.out))) : w.heap.size ≤ gb293)); have n5_ := Aside0.mk ((by rw [hg]; exact (below_size (by repeat (first | (with_reducible first | exact HB.out | apply below_alloc | apply pw_below_drewN | apply below_drew1 | refine below_set ?_ GE277.out) | exact HB.out))) : w.heap.size ≤ gb293)); have n6_ := Aside0.mk ((by rw [hg]; exact Nat.ne_of_lt (blk_lt (g := gb277) (o := .cells #[.slice A0_0 l0_0.length c0_0] 25 (0, 0)) (by (with_reducible repeat (first | refine blk_drewN ?_ _ | refine blk_drew ?_ | refine blk_alloc ?_ _)); exact BK277.out)) : gb277 ≠ gb293)); have n7_ := Aside0.mk ((by rw [hg]; exact Nat.ne_of_gt (blk_lt (g := gb277) (o := .cells #[.slice A0_0 l0_0.length c0_0] 25 (0, 0)) (by (with_reducible repeat (first | refine blk_drewN ?_ _ | refine blk_drew ?_ | refine blk_alloc ?_ _)); exact BK277.out)) : gb293 ≠ gb277)); clear HO290; clear BK277; clear HB; have HO290 := n0_; have BK277 := n1_; have HB := n2_; have BK293 := n3_; have GW293 := n4_; have GE293 := n5_; have NB277_293 := n6_; have NB293_277 := n7_; clear n0_ n1_ n2_ n3_ n4_ n5_ n6_ n7_; clear hb hbox hg; obtain ⟨Ao40, co40, eo40⟩ := Kd.R_slice HO290.out; subst eo40; have hnb41 := NB293_277.out; have hnc41 := NB277_293.out; have hcz42_0 : w39.cell? ⟨gb293, 0, none⟩ = some (.slice none 0 0) := (blk_cell BK293.out 0).trans rfl; have hfz42_0 := blk_frozen BK293.out 0))
                  go_ret
                  exact ⟨by first | rfl | (simp [errW_none, errW_some] <;> rfl) | (simp [*, errW_none, errW_some] <;> rfl), by repeat (first | (with_reducible first | exact HB.out | apply below_alloc | apply pw_below_drewN | apply below_drew1 | refine below_set ?_ GE277.out | refine below_set ?_ GE293.out) | exact HB.out)⟩
              · rw [if_neg c29] at H
                have c29b0 : (t292 == 0) = false := beq_eq_false_iff_ne.mpr c29
                have c29b1 : (t292 != 0) = true := bne_iff_ne.mpr c29
                obtain rfl := Option.some.inj H
                go_wp2_with (first | ((with_reducible refine gate_callee (f := 6) rfl ?_); refine goesL_ (some 51) rfl rfl Tryd.func6 (by kernel_rfl) rfl #[.string t284] rfl (by (try simp only [List.map_toArray, List.map_cons, List.map_nil]); first | done | rfl | (simp only [List.length_drop, List.length_take]; rfl)) ?_; (with_reducible refine (wordlist_Parse.calls kj16 t284 t288 t291 t292 _ A28.out).mono ?_); rintro e w43 ⟨v289, rfl, ho0, hb⟩; refine ⟨_, rfl, ?_⟩; have n0_ := Aside0.mk (Kd.R_lower ho0 (below_size (by repeat (first | (with_reducible first | exact HB.out | apply below_alloc | apply pw_below_drewN | apply below_drew1 | refine below_set ?_ GE277.out) | exact HB.out)))); have n1_ := Aside0.mk (blk_below (g := gb277) (o := .cells #[.slice A0_0 l0_0.length c0_0] 25 (0, 0)) (by (with_reducible repeat (first | refine blk_drewN ?_ _ | refine blk_drew ?_ | refine blk_alloc ?_ _)); exact BK277.out) hb); have n2_ := Aside0.mk (below_step (by repeat (first | (with_reducible first | exact HB.out | apply below_alloc | apply pw_below_drewN | apply below_drew1 | refine below_set ?_ GE277.out) | exact HB.out)) hb); clear BK277; clear HB; have HO290 := n0_; have BK277 := n1_; have HB := n2_; clear n0_ n1_ n2_; (try clear hb); (try clear hb2); (try clear hk); (try clear hi); (try clear ho0)) | ((with_reducible refine gate_dst (N := 7) rfl ?_); refine box_event ?hg (N := 7) ?hd (cs := #[.slice none 0 0]) (t := 25) ?hr ?_; (case hd => rfl); (case hg => rfl); (case hr => first | (go_simp; done) | (go_simp; rfl)); intro gb293 hg w44 hbox hb; have n0_ := Aside0.mk (Kd.R_below (by (with_reducible repeat (first | apply Kd.R_alloc | apply Kd.R_drewN | apply Kd.R_drew)); exact HO290.out) hb); have n1_ := Aside0.mk (blk_below (g := gb277) (o := .cells #[.slice A0_0 l0_0.length c0_0] 25 (0, 0)) (by (with_reducible repeat (first | refine blk_drewN ?_ _ | refine blk_drew ?_ | refine blk_alloc ?_ _)); exact BK277.out) hb); have n2_ := Aside0.mk (below_step (by repeat (first | (with_reducible first | exact HB.out | apply below_alloc | apply pw_below_drewN | apply below_drew1 | refine below_set ?_ GE277.out) | exact HB.out)) hb); have n3_ := Aside0.mk (hbox); have n4_ := Aside0.mk ((by rw [hg]; exact (below_size (by repeat (first | (with_reducible first | exact HB.out | apply below_alloc | apply pw_below_drewN | apply below_drew1 | refine below_set ?_ GE277.out) | exact HB.out))) : w.heap.size ≤ gb293)); have n5_ := Aside0.mk ((by rw [hg]; exact (below_size (by repeat (first | (with_reducible first | exact HB.out | apply below_alloc | apply pw_below_drewN | apply below_drew1 | refine below_set ?_ GE277.out) | exact HB.out))) : w.heap.size ≤ gb293)); have n6_ := Aside0.mk ((by rw [hg]; exact Nat.ne_of_lt (blk_lt (g := gb277) (o := .cells #[.slice A0_0 l0_0.length c0_0] 25 (0, 0)) (by (with_reducible repeat (first | refine blk_drewN ?_ _ | refine blk_drew ?_ | refine blk_alloc ?_ _)); exact BK277.out)) : gb277 ≠ gb293)); have n7_ := Aside0.mk ((by rw [hg]; exact Nat.ne_of_gt (blk_lt (g := gb277) (o := .cells #[.slice A0_0 l0_0.length c0_0] 25 (0, 0)) (by (with_reducible repeat (first | refine blk_drewN ?_ _ | refine blk_drew ?_ | refine blk_alloc ?_ _)); exact BK277.out)) : gb293 ≠ gb277)); clear HO290; clear BK277; clear HB; have HO290 := n0_; have BK277 := n1_; have HB := n2_; have BK293 := n3_; have GW293 := n4_; have GE293 := n5_; have NB277_293 := n6_; have NB293_277 := n7_; clear n0_ n1_ n2_ n3_ n4_ n5_ n6_ n7_; clear hb hbox hg; obtain ⟨Ao45, co45, eo45⟩ := Kd.R_slice HO290.out; subst eo45; have hnb46 := NB293_277.out; have hnc46 := NB277_293.out; have hcz47_0 : w44.cell? ⟨gb293, 0, none⟩ = some (.slice none 0 0) := (blk_cell BK293.out 0).trans rfl; have hfz47_0 := blk_frozen BK293.out 0))
                go_ret
                exact ⟨by first | rfl | (simp [errW_none, errW_some] <;> rfl) | (simp [*, errW_none, errW_some] <;> rfl), by repeat (first | (with_reducible first | exact HB.out | apply below_alloc | apply pw_below_drewN | apply below_drew1 | refine below_set ?_ GE277.out | refine below_set ?_ GE293.out) | exact HB.out)⟩

/-- THE ONE PURE STATEMENT of ancepslaw54_WordlistTexts: yours. -/
def ancepslaw54_WordlistTexts.Pure : Prop := ∀ (l0_0 : List ByteArray), l0_0.length ≤ maxLen → l0_0.length * 16 ≤ 140737488351232 → (∀ x ∈ l0_0, x.size ≤ 140737488351232) → ∃ k, ancepslaw54_WordlistTexts.f k l0_0 = some true
theorem ancepslaw54_WordlistTexts.walk (P : ancepslaw54_WordlistTexts.Pure) (A0_0 : Option Addr) (c0_0 : Nat) (l0_0 : List ByteArray) (w : World) (hr0_0 : Kd.C Kd.string w A0_0 l0_0.length l0_0) (hc0_0 : l0_0.length ≤ c0_0) (hm0_0 : l0_0.length ≤ maxLen) (y0_0 : l0_0.length * 16 ≤ 140737488351232) (hw0_0 : ∀ x ∈ l0_0, x.size ≤ 140737488351232) :
    Calls Tryd.prog 4 #[.agg #[.slice A0_0 l0_0.length c0_0]] w fun e w' => e = .returned (.bool true) ∧ Below w.heap.size w w' := by
  obtain ⟨k, h⟩ := P l0_0 hm0_0 y0_0 hw0_0
  refine (ancepslaw54_WordlistTexts.calls k _ _ l0_0 true w hr0_0 hc0_0 h).mono ?_
  rintro e w' ⟨rfl, hd⟩
  exact ⟨rfl, hd⟩

end Go.Proofs.YtdaooagikacboaaDoor.X
