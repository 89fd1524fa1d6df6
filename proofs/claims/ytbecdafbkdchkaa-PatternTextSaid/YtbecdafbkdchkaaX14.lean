-- printed by this session's xprint.py: out of the translation, by the kit's print with additions; Lean checks it
import Derived.Test.YtbecdafbkdchkaaWN
import Derived.Test.YtbecdafbkdchkaaWShare
import Derived.Test.YtbecdafbkdchkaaWRepsOne
import Derived.Test.YtbecdafbkdchkaaX0
import Derived.Test.YtbecdafbkdchkaaX3
namespace Go.Proofs.Ytbecdafbkdchkaa.X
open Go.RowKit Go.Proofs.YtbecdafbkdchkaaW.PrintWords Go.Proofs.YtbecdafbkdchkaaW.PrintLast Go.Proofs.YtbecdafbkdchkaaW.PrintMore
attribute [local go_sem] max2_int min2_int max_two min_two max_three min_three max_four min_four isSome_setCell   -- for this text's walks alone
set_option linter.unusedVariables false
set_option linter.unusedSimpArgs false

/-! ### pattern_Text: function 25 -/
def pattern_Text.letter (l : Int) : List UInt8 := (if l % 2 = 0 then [117] else [45]) ++ (if 2 ≤ l then [46] else [])
theorem pattern_Text.letter_len (l : Int) : (pattern_Text.letter l).length ≤ 2 := by
  unfold pattern_Text.letter
  split <;> split <;> simp
theorem pattern_Text.flat_len (l : List Int) : (l.flatMap pattern_Text.letter).length ≤ 2 * l.length := by
  induction l with
  | nil => simp
  | cons x r ih =>
    have := pattern_Text.letter_len x
    rw [List.flatMap_cons, List.length_append, List.length_cons]
    omega
def pattern_Text.f (l0 : List Int) : Option (ByteArray × Int) :=
  if 60 < l0.length then some (⟨#[]⟩, 3) else if l0.all (fun l => decide (0 ≤ l ∧ l ≤ 3)) then some (⟨(l0.flatMap pattern_Text.letter).toArray⟩, 0) else some (⟨#[]⟩, 6)
set_option maxHeartbeats 4000000 in
set_option maxRecDepth 100000 in
theorem pattern_Text.calls (A0 : Option Addr) (c0 : Nat) (l0 : List Int) (r1 : ByteArray) (r2 : Int) (w : World) (hr0 : Kd.C (Kd.int .i64) w A0 l0.length l0) (hc0 : l0.length ≤ c0) (h : pattern_Text.f l0 = some (r1, r2)) :
    Calls Try.prog 25 #[.slice A0 l0.length c0] w fun e w' => e = .returned (.tuple #[.string r1, .int .i64 r2]) ∧ Below w.heap.size w w' := by
  unfold pattern_Text.f at h
  by_cases hl : 60 < l0.length
  · rw [if_pos hl] at h
    obtain ⟨rfl, rfl⟩ := Prod.mk.inj (Option.some.inj h)
    clear h
    have hm := hr0.2.1
    go_enter Try.func25, Try.ntmps25
    go_wp2
    go_ret2
    exact ⟨rfl, Below.refl _ _⟩
  rw [if_neg hl] at h
  obtain ⟨ad, had⟩ : ∃ ad, 0 < l0.length → A0 = some ad := by
    rcases Nat.eq_zero_or_pos l0.length with h0 | h0
    · exact ⟨⟨0, 0, none⟩, fun h => absurd h (by omega)⟩
    · obtain ⟨ad, he, _⟩ := Kd.at_int hr0 0 (by omega) (by omega)
      exact ⟨ad, fun _ => he⟩
  have H := Lib.hid h
  have HA := Lib.hid had
  have HR := Lib.hid hr0
  clear h had hr0
  go_enter Try.func25, Try.ntmps25
  go_wp2
  go_loopw [12] (fun i wr => ∃ k : Nat, k ≤ l0.length ∧ i = .int .i64 k ∧ Hid ((l0.take k).all (fun l => decide (0 ≤ l ∧ l ≤ 3)) = true) ∧ ∃ r, Hid (Bld.Bd wr w.heap.size r ((l0.take k).flatMap pattern_Text.letter)) ∧ Hid (∀ g, r = some g → w.heap.size ≤ g) ∧ Below w.heap.size w wr)
    (fun i _ => l0.length - (intOf i).toNat)
  case atStart => exact ⟨0, Nat.zero_le _, rfl, Lib.hid rfl, none, Lib.hid (Bld.Bd.new w), Lib.hid (fun g hg => by cases hg), (Below.refl _ _).alloc (Nat.le_refl _) _⟩
  case round =>
    obtain ⟨k, hk, rfl, hall, r, hB, hrg, hbel⟩ := hrel
    have hlt : w.heap.size < wr.heap.size := (Bld.Bd.lt hB.out).1
    have hbl := pattern_Text.flat_len (l0.take k)
    have htl : (l0.take k).length = k := by rw [List.length_take]; omega
    rw [htl] at hbl
    have HBL := Lib.hid hbl
    clear hbl htl
    by_cases hkl : k < l0.length
    · have hA := HA.out (by omega)
      subst hA
      obtain ⟨ad', he, hc⟩ := Kd.at_int HR.out (k : Int) (by omega) (by omega)
      injection he with he
      subst he
      have hx : rd l0 (k : Int) = l0[k] := by unfold rd; rw [Int.toNat_natCast, List.getD_eq_getElem?_getD, List.getElem?_eq_getElem hkl]; rfl
      rw [hx, Int.toNat_natCast] at hc
      have hcell := pw_cell_below hbel hc
      have hts : l0.take (k + 1) = l0.take k ++ [l0[k]] := by rw [List.take_succ_eq_append_getElem hkl]
      obtain ⟨x, hxe⟩ : ∃ x, l0[k] = x := ⟨_, rfl⟩
      rw [hxe] at hcell hts
      have HT := Lib.hid hts
      have HX := Lib.hid hxe
      clear hc hx hts hxe
      by_cases hbad : x < 0 ∨ 3 < x
      · have hr : (⟨#[]⟩ : ByteArray) = r1 ∧ (6 : Int) = r2 := by
          have h2 := H.out
          have hnot : ¬ l0.all (fun l => decide (0 ≤ l ∧ l ≤ 3)) = true := by
            intro ha
            have := of_decide_eq_true (List.all_eq_true.1 ha l0[k] (List.getElem_mem hkl))
            rw [HX.out] at this
            omega
          rw [if_neg hnot] at h2
          exact Prod.mk.inj (Option.some.inj h2)
        obtain ⟨rfl, rfl⟩ := hr
        rcases hbad with hbad | hbad
        · have hnb : decide (x < 0) = true := decide_eq_true hbad
          go_wp2
          go_ret2
          exact ⟨rfl, hbel⟩
        · have hnb : decide (x < 0) = false := decide_eq_false (by omega)
          go_wp2
          go_ret2
          exact ⟨rfl, hbel⟩
      · have h0 : 0 ≤ x := by omega
        have h3 : x ≤ 3 := by omega
        have hnb : decide (x < 0) = false := decide_eq_false (by omega)
        have hnc : decide (3 < x) = false := decide_eq_false (by omega)
        have hx4 : x = 0 ∨ x = 1 ∨ x = 2 ∨ x = 3 := by omega
        rcases hx4 with rfl | rfl | rfl | rfl
        · go_wp2_with (go_at_call 38; refine (Bld.writeByte' _ _ _ _ 117 117 rfl hB.out (by have := HBL.out; omega)).mono ?_)
          (first | rintro e w1 rfl hwr | rintro e w1 ⟨rfl, hwr⟩)
          obtain ⟨r', hb1, hr1, hf1⟩ := hwr
          obtain ⟨hg1, hbe1⟩ := Bld.carry (Nat.le_refl _) hrg.out (Nat.le_of_lt hlt) hr1 hf1
          have R1 : Bld.Bd w1 w.heap.size r' ((l0.take (k + 1)).flatMap pattern_Text.letter) := by
            rw [HT.out, List.flatMap_append, show [(0 : Int)].flatMap pattern_Text.letter = [117] by decide]
            exact hb1
          have R2 : (l0.take (k + 1)).all (fun l => decide (0 ≤ l ∧ l ≤ 3)) = true := by
            rw [HT.out, List.all_append, hall.out]; rfl
          have HE := Lib.hid (hbel.trans hbe1)
          have HR1 := Lib.hid R1; have HR2 := Lib.hid R2; have HG := Lib.hid hg1
          clear R1 R2 hb1 hr1 hf1 hbe1 hg1
          go_wp2
          go_roundw
          case rel => exact ⟨k + 1, by omega, by go_num, HR2, _, HR1, HG, HE.out⟩
          case measure => simp [intOf]; omega
        · go_wp2_with (go_at_call 38; refine (Bld.writeByte' _ _ _ _ 45 45 rfl hB.out (by have := HBL.out; omega)).mono ?_)
          (first | rintro e w1 rfl hwr | rintro e w1 ⟨rfl, hwr⟩)
          obtain ⟨r', hb1, hr1, hf1⟩ := hwr
          obtain ⟨hg1, hbe1⟩ := Bld.carry (Nat.le_refl _) hrg.out (Nat.le_of_lt hlt) hr1 hf1
          have R1 : Bld.Bd w1 w.heap.size r' ((l0.take (k + 1)).flatMap pattern_Text.letter) := by
            rw [HT.out, List.flatMap_append, show [(1 : Int)].flatMap pattern_Text.letter = [45] by decide]
            exact hb1
          have R2 : (l0.take (k + 1)).all (fun l => decide (0 ≤ l ∧ l ≤ 3)) = true := by
            rw [HT.out, List.all_append, hall.out]; rfl
          have HE := Lib.hid (hbel.trans hbe1)
          have HR1 := Lib.hid R1; have HR2 := Lib.hid R2; have HG := Lib.hid hg1
          clear R1 R2 hb1 hr1 hf1 hbe1 hg1
          go_wp2
          go_roundw
          case rel => exact ⟨k + 1, by omega, by go_num, HR2, _, HR1, HG, HE.out⟩
          case measure => simp [intOf]; omega
        · go_wp2_with (go_at_call 38; refine (Bld.writeByte' _ _ _ _ 117 117 rfl hB.out (by have := HBL.out; omega)).mono ?_)
          (first | rintro e w1 rfl hwr | rintro e w1 ⟨rfl, hwr⟩)
          obtain ⟨r', hb1, hr1, hf1⟩ := hwr
          obtain ⟨hg1, hbe1⟩ := Bld.carry (Nat.le_refl _) hrg.out (Nat.le_of_lt hlt) hr1 hf1
          have HB1 := Lib.hid hb1; have HS1 := Lib.hid hbe1.size; have HG1 := Lib.hid hg1; have HE1 := Lib.hid (hbel.trans hbe1); clear hb1 hr1 hf1 hbe1 hg1 hcell
          go_wp2_with (go_at_call 38; refine (Bld.writeByte' _ _ _ _ 46 46 rfl HB1.out (by have := HBL.out; rw [List.length_append, List.length_singleton]; omega)).mono ?_)
          (first | rintro e w2 rfl hwr | rintro e w2 ⟨rfl, hwr⟩)
          obtain ⟨r2', hb1, hr1, hf1⟩ := hwr
          obtain ⟨hg1, hbe1⟩ := Bld.carry (Nat.le_refl _) HG1.out (by have := HS1.out; omega) hr1 hf1
          have hbel := HE1.out
          have r' := r2'
          have R1 : Bld.Bd w2 w.heap.size r2' ((l0.take (k + 1)).flatMap pattern_Text.letter) := by
            rw [HT.out, List.flatMap_append, show [(2 : Int)].flatMap pattern_Text.letter = [117, 46] by decide]
            rw [show ([117, 46] : List UInt8) = [117] ++ [46] from rfl, ← List.append_assoc]; exact hb1
          have R2 : (l0.take (k + 1)).all (fun l => decide (0 ≤ l ∧ l ≤ 3)) = true := by
            rw [HT.out, List.all_append, hall.out]; rfl
          have HE := Lib.hid (hbel.trans hbe1)
          have HR1 := Lib.hid R1; have HR2 := Lib.hid R2; have HG := Lib.hid hg1
          clear R1 R2 hb1 hr1 hf1 hbe1 hg1
          go_wp2
          go_roundw
          case rel => exact ⟨k + 1, by omega, by go_num, HR2, _, HR1, HG, HE.out⟩
          case measure => simp [intOf]; omega
        · go_wp2_with (go_at_call 38; refine (Bld.writeByte' _ _ _ _ 45 45 rfl hB.out (by have := HBL.out; omega)).mono ?_)
          (first | rintro e w1 rfl hwr | rintro e w1 ⟨rfl, hwr⟩)
          obtain ⟨r', hb1, hr1, hf1⟩ := hwr
          obtain ⟨hg1, hbe1⟩ := Bld.carry (Nat.le_refl _) hrg.out (Nat.le_of_lt hlt) hr1 hf1
          have HB1 := Lib.hid hb1; have HS1 := Lib.hid hbe1.size; have HG1 := Lib.hid hg1; have HE1 := Lib.hid (hbel.trans hbe1); clear hb1 hr1 hf1 hbe1 hg1 hcell
          go_wp2_with (go_at_call 38; refine (Bld.writeByte' _ _ _ _ 46 46 rfl HB1.out (by have := HBL.out; rw [List.length_append, List.length_singleton]; omega)).mono ?_)
          (first | rintro e w2 rfl hwr | rintro e w2 ⟨rfl, hwr⟩)
          obtain ⟨r2', hb1, hr1, hf1⟩ := hwr
          obtain ⟨hg1, hbe1⟩ := Bld.carry (Nat.le_refl _) HG1.out (by have := HS1.out; omega) hr1 hf1
          have hbel := HE1.out
          have r' := r2'
          have R1 : Bld.Bd w2 w.heap.size r2' ((l0.take (k + 1)).flatMap pattern_Text.letter) := by
            rw [HT.out, List.flatMap_append, show [(3 : Int)].flatMap pattern_Text.letter = [45, 46] by decide]
            rw [show ([45, 46] : List UInt8) = [45] ++ [46] from rfl, ← List.append_assoc]; exact hb1
          have R2 : (l0.take (k + 1)).all (fun l => decide (0 ≤ l ∧ l ≤ 3)) = true := by
            rw [HT.out, List.all_append, hall.out]; rfl
          have HE := Lib.hid (hbel.trans hbe1)
          have HR1 := Lib.hid R1; have HR2 := Lib.hid R2; have HG := Lib.hid hg1
          clear R1 R2 hb1 hr1 hf1 hbe1 hg1
          go_wp2
          go_roundw
          case rel => exact ⟨k + 1, by omega, by go_num, HR2, _, HR1, HG, HE.out⟩
          case measure => simp [intOf]; omega
    · have hke : k = l0.length := by omega
      subst hke
      have hr : (⟨(l0.flatMap pattern_Text.letter).toArray⟩ : ByteArray) = r1 ∧ (0 : Int) = r2 := by
        have h2 := H.out
        have h3 := hall.out
        rw [List.take_length] at h3
        rw [if_pos h3] at h2
        exact Prod.mk.inj (Option.some.inj h2)
      obtain ⟨rfl, rfl⟩ := hr
      have hB2 : Bld.Bd wr w.heap.size r (l0.flatMap pattern_Text.letter) := by have := hB.out; rwa [List.take_length] at this
      have HB2 := Lib.hid hB2
      clear hB2
      go_wp2_with (go_at_call 39; refine (Bld.string_ _ _ _ _ HB2.out).mono ?_)
      rintro e w1 ⟨rfl, hf1⟩
      have hb1 := hf1.below (Nat.le_of_lt hlt) (fun g hg => hrg.out g hg.symm)
      go_wp2
      go_ret2
      exact ⟨rfl, hbel.trans hb1⟩

/-! ### slices_Clone_int_int: function 26 -/
def slices_Clone_int_int.f (l0 : List Int) : Option (List Int) := (some (([] : List Int) : List Int)).bind fun y302 => (if y302.length + l0.length < 17592186044416 then (some (y302 ++ l0)) else (none))
set_option maxHeartbeats 8000000 in
set_option maxRecDepth 100000 in
theorem slices_Clone_int_int.calls (A0 : Option Addr) (c0 : Nat) (l0 : List Int) (r : List Int) (w : World) (hr0 : Kd.C (Kd.int .i64) w A0 l0.length l0) (hc0 : l0.length ≤ c0) (h : slices_Clone_int_int.f l0 = some r) :
    Calls Try.prog 26 #[.slice A0 l0.length c0] w fun e w' => ∃ v0_ : Value, e = .returned (v0_) ∧ Kd.R (Kd.int .i64) 3 w' w.heap.size (fun _ => True) v0_ r ∧ Below w.heap.size w w' := by
  cases A0 with
  | none =>
    have hl_ := Kd.C_none hr0
    subst hl_
    have hr_ : r = [] := by (have h_ := h; simp [slices_Clone_int_int.f] at h_; first | exact h_ | exact h_.symm | exact h_.2 | exact h_.2.symm)
    subst hr_
    have hn_ := fun (W : World) => Go.Lib.run_eql_slice_nil (P := Try.prog) W 37 3 none 0 c0 0 0 Try.underlying37
    clear hr0 hc0 h
    go_enter Try.func26, Try.ntmps26
    (try simp only [List.length_nil])
    go_wp2
    go_ret
    exact ⟨_, rfl, Kd.R_nil _ _ _ _ _, Below.refl _ _⟩
  | some a0_ =>
    have hn_ := fun (W : World) => Go.Lib.run_eql_slice_nil (P := Try.prog) W 37 3 (some a0_) l0.length c0 0 0 Try.underlying37
    have HR0 := Aside0.mk hr0
    have HC0 := Aside0.mk hc0
    clear hr0 hc0
    have HB := Aside0.mk (Below.refl w.heap.size w)
    have H : ((some (([] : List Int) : List Int)).bind fun y302 => (if y302.length + l0.length < 17592186044416 then (some (y302 ++ l0)) else (none))) = some r := h
    clear h
    obtain ⟨y302, hy302⟩ : ∃ y_ : List Int, y_ = (([] : List Int)) := ⟨_, rfl⟩
    replace H : (if y302.length + l0.length < 17592186044416 then (some (y302 ++ l0)) else (none)) = some r := by first | (rw [hy302]; with_reducible exact H) | (have H2_ := (Option.bind_some _ _).symm.trans H; rw [hy302]; with_reducible exact H2_) | (have H2_ := (Option.bind_some _ _).symm.trans H; with_reducible exact H2_) | with_reducible exact H | (rw [hy302]; exact H) | exact H
    have Ny302 := Aside0.mk hy302
    clear hy302
    by_cases c2 : y302.length + l0.length < 17592186044416
    · rw [if_pos c2] at H
      have LMc2 := Aside0.mk c2
      clear c2
      obtain ⟨y305, hy305⟩ : ∃ y_ : List Int, y_ = (y302 ++ l0) := ⟨_, rfl⟩
      replace H : (some y305) = some r := by first | (rw [hy305]; with_reducible exact H) | (have H2_ := (Option.bind_some _ _).symm.trans H; rw [hy305]; with_reducible exact H2_) | (have H2_ := (Option.bind_some _ _).symm.trans H; with_reducible exact H2_) | with_reducible exact H | (rw [hy305]; exact H) | exact H
      have Ny305 := Aside0.mk hy305
      clear hy305
      obtain rfl := Option.some.inj H
      go_enter Try.func26, Try.ntmps26
      go_wp2_with (first | ((with_reducible refine gate_dst (N := 5) rfl ?_); refine Kd.R_lit (Kd.int .i64) _ 3 ?hg (N := 5) ?hd (xs := ([] : List Int)) (inner := []) (ok := fun _ => True) (okp := fun _ => True) ?hr ?hp (fun _ hk => hk) trivial (Below.refl _ _) (Nat.le_refl _) (by simp) ?_; (case hd => rfl); (case hg => rfl); (case hr => first | (go_simp; done) | (go_simp; rfl)); (case hp => exact (Reps.none _ _)); intro v303 w3 ho4 hb hg_ hnew_; clear hg_ hnew_; (first | rw [← Ny302.out] at ho4 | (simp only [Int.reduceToNat] at ho4; rw [← Ny302.out] at ho4)); have n0_ := Aside0.mk (Kd.R_lower ho4 (below_size (by repeat (first | (with_reducible first | exact HB.out | apply below_alloc | apply pw_below_drewN | apply below_drew1) | exact HB.out)))); have n1_ := Aside0.mk (below_step (by repeat (first | (with_reducible first | exact HB.out | apply below_alloc | apply pw_below_drewN | apply below_drew1) | exact HB.out)) hb); clear HB; have HO304 := n0_; have HB := n1_; clear n0_ n1_; clear hb ho4) | ((with_reducible refine gate_builtin (b := .append) (xs := #[.tmp 5, .tmp 6]) rfl ?_); at_builtin; refine Kd.R_append_rows (Kd.int .i64) (w0 := w) w.heap.size rfl (.tmp 5) (.tmp 6) 37 3 (.int .i64 0) 8 rfl Try.underlying37 info3 rfl (by decide) (by omega) v303 y302 l0 _ _ _ (fun _ => True) (fun _ => False) rfl rfl ?aO ?aR (fun _ _ h => h) (fun _ h => h.elim) ?aF ?aB ?aS ?aL ?_; (case aR => repeat (first | exact (Kd.C_below HR0.out HB.out) | (with_reducible refine Kd.C_alloc ?_ _) | (with_reducible refine Kd.C_drewN ?_ _) | (with_reducible refine Kd.C_drew ?_))); (case aB => exact (by repeat (first | (with_reducible first | exact HB.out | apply below_alloc | apply pw_below_drewN | apply below_drew1) | exact HB.out))); (case aF => exact (fun _ _ => trivial)); (case aO => exact (by (with_reducible repeat (first | apply Kd.R_alloc | apply Kd.R_drewN | apply Kd.R_drew)); exact HO304.out)); (case aS => exact (below_size (by repeat (first | (with_reducible first | exact HB.out | apply below_alloc | apply pw_below_drewN | apply below_drew1) | exact HB.out)))); (case aL => have := LMc2.out; omega); intro v306 w5 ho hb hg hat; rw [← Ny305.out] at ho; have n0_ := Aside0.mk (hb); have n1_ := Aside0.mk (ho); clear HB; clear HO304; have HB := n0_; have HO307 := n1_; clear n0_ n1_; clear ho hb hg hat))
      go_ret
      exact ⟨_, by first | rfl | (simp [errW_none, errW_some] <;> rfl) | (simp [*, errW_none, errW_some] <;> rfl), by (with_reducible repeat (first | apply Kd.R_alloc | apply Kd.R_drewN | apply Kd.R_drew)); exact HO307.out, by repeat (first | (with_reducible first | exact HB.out | apply below_alloc | apply pw_below_drewN | apply below_drew1) | exact HB.out)⟩
    · rw [if_neg c2] at H
      exact absurd H (by simp)


/-! ### ancepsref04_Text: function 27 -/
def ancepsref04_Text.l0 : Nat → List Int → ByteArray → Int → Option (ByteArray × Int)
  | 0, _, _, _ => none
  | k + 1, x0, x4, x5 => if x5 < (x0.length : Int) then (if 0 ≤ x5 then (if (rd x0 x5) < 0 then (some ((⟨#[]⟩ : ByteArray), 6)) else (if (rd x0 x5) > 3 then (some ((⟨#[]⟩ : ByteArray), 6)) else ((some (([(⟨#[117]⟩ : ByteArray), (⟨#[45]⟩ : ByteArray), (⟨#[117, 46]⟩ : ByteArray), (⟨#[45, 46]⟩ : ByteArray)] : List ByteArray) : List ByteArray)).bind fun y310 => (if 0 ≤ (rd x0 x5) then (if (rd x0 x5) < (y310.length : Int) then (if x4.size + (rdOf ByteArray.empty y310 (rd x0 x5)).size ≤ 9223372036854775807 then (ancepsref04_Text.l0 k x0 (x4 ++ (rdOf ByteArray.empty y310 (rd x0 x5))) (wrap64 (x5 + 1))) else (none)) else (none)) else (none))))) else (none)) else (some (x4, 0))
def ancepsref04_Text.f (k : Nat) (l0 : List Int) : Option (ByteArray × Int) := if (l0.length : Int) > 60 then (some ((⟨#[]⟩ : ByteArray), 3)) else (ancepsref04_Text.l0 k l0 (⟨#[]⟩ : ByteArray) 0)
theorem ancepsref04_Text.mono_l : ∀ k, (∀ y0 y1 y2, LeO (ancepsref04_Text.l0 k y0 y1 y2) (ancepsref04_Text.l0 (k + 1) y0 y1 y2))
  | 0 => fun _ _ _ r h => by simp [ancepsref04_Text.l0] at h
  | k + 1 => by
    have ih0 := ancepsref04_Text.mono_l k
    · intro y0 y1 y2
      unfold ancepsref04_Text.l0
      repeat' first
      | (with_reducible exact ih0 _ _ _)
      | (with_reducible exact LeO.refl _)
      | (with_reducible exact LeO.none _)
      | (with_reducible refine LeO.ite ?_ ?_)
      | (with_reducible refine LeO.bind ?_ (fun _ => ?_))
      | exact ih0 _ _ _
      | exact LeO.none _
      | refine LeO.ite ?_ ?_
      | refine LeO.bind ?_ (fun _ => ?_)
theorem ancepsref04_Text.mono : ∀ a0 k, LeO (ancepsref04_Text.f k a0) (ancepsref04_Text.f (k + 1) a0) := by
  intro a0 k
  have ih0 := ancepsref04_Text.mono_l k
  unfold ancepsref04_Text.f
  repeat' first
      | (with_reducible exact ih0 _ _ _)
      | (with_reducible exact LeO.refl _)
      | (with_reducible exact LeO.none _)
      | (with_reducible refine LeO.ite ?_ ?_)
      | (with_reducible refine LeO.bind ?_ (fun _ => ?_))
      | exact ih0 _ _ _
      | exact LeO.none _
      | refine LeO.ite ?_ ?_
      | refine LeO.bind ?_ (fun _ => ?_)
set_option maxHeartbeats 8000000 in
set_option maxRecDepth 100000 in
theorem ancepsref04_Text.calls (k : Nat) (A0 : Option Addr) (c0 : Nat) (l0 : List Int) (r1 : ByteArray) (r2 : Int) (w : World) (hr0 : Kd.C (Kd.int .i64) w A0 l0.length l0) (hc0 : l0.length ≤ c0) (h : ancepsref04_Text.f k l0 = some (r1, r2)) :
    Calls Try.prog 27 #[.slice A0 l0.length c0] w fun e w' => e = .returned (.tuple #[.string r1, .int .i64 r2]) ∧ Below w.heap.size w w' := by
  have HR0 := Aside0.mk hr0
  have HC0 := Aside0.mk hc0
  clear hr0 hc0
  have HB := Aside0.mk (Below.refl w.heap.size w)
  have H : (if (l0.length : Int) > 60 then (some ((⟨#[]⟩ : ByteArray), 3)) else (ancepsref04_Text.l0 k l0 (⟨#[]⟩ : ByteArray) 0)) = some (r1, r2) := h
  clear h
  by_cases c2 : (l0.length : Int) > 60
  · rw [if_pos c2] at H
    have c2b0 : decide (60 < (l0.length : Int)) = true := decide_eq_true c2
    have c2b1 : decide (60 < l0.length) = true := decide_eq_true (by omega)
    clear c2
    simp only [Option.some.injEq, Prod.mk.injEq] at H
    obtain ⟨rfl, rfl⟩ := H
    go_enter Try.func27, Try.ntmps27
    go_wp2
    go_ret2
    exact ⟨by first | rfl | (simp [errW_none, errW_some] <;> rfl) | (simp [*, errW_none, errW_some] <;> rfl), by repeat (first | (with_reducible first | exact HB.out | apply below_alloc | apply pw_below_drewN | apply below_drew1) | exact HB.out)⟩
  · rw [if_neg c2] at H
    have c2b0 : decide (60 < (l0.length : Int)) = false := decide_eq_false c2
    have c2b1 : decide (60 < l0.length) = false := decide_eq_false (by omega)
    clear c2
    have H' := Aside0.mk H
    clear H
    go_enter Try.func27, Try.ntmps27
    go_wp2
    go_loopg [4, 5] k (fun kq v4 v5 w' => ∃ (x4_1 : ByteArray) (x5_1 : Int), v4 = .string x4_1 ∧ v5 = .int .i64 x5_1 ∧ Aside0 (ancepsref04_Text.l0 kq l0 x4_1 x5_1 = some (r1, r2)) ∧ Aside0 (kq ≤ k) ∧ Aside0 (Below w.heap.size w w'))
    case atStart => exact ⟨((⟨#[]⟩ : ByteArray)), (0), (by first | rfl | (simp; done) | (simp [*]; done)), (by first | rfl | (simp; done) | (simp [*]; done)), H', ⟨Nat.le_refl _⟩, ⟨by repeat (first | (with_reducible first | exact HB.out | apply below_alloc | apply pw_below_drewN | apply below_drew1) | exact HB.out)⟩⟩
    case round =>
      clear H'
      try clear c2
      try clear c2b0
      try clear c2b1
      try clear p2
      obtain ⟨x4_1, x5_1, rfl, rfl, HA, HK1, HB⟩ := hrel
      cases gk with
      | zero => exact absurd HA.out (by simp [ancepsref04_Text.l0])
      | succ k1 =>
        have H := HA.out
        clear HA
        simp only [ancepsref04_Text.l0] at H
        by_cases c3 : x5_1 < (l0.length : Int)
        · rw [if_pos c3] at H
          have c3b0 : decide (x5_1 < (l0.length : Int)) = true := decide_eq_true c3
          clear c3
          by_cases c4 : 0 ≤ x5_1
          · rw [if_pos c4] at H
            have c4b0 : decide (0 ≤ x5_1) = true := decide_eq_true c4
            clear c4
            by_cases c5 : (rd l0 x5_1) < 0
            · rw [if_pos c5] at H
              have c5b0 : decide ((rd l0 x5_1) < 0) = true := decide_eq_true c5
              clear c5
              simp only [Option.some.injEq, Prod.mk.injEq] at H
              obtain ⟨rfl, rfl⟩ := H
              have p308 : 0 ≤ (x5_1 : Int) := of_decide_eq_true (by first | (with_reducible assumption) | assumption)
              have q308 : x5_1 < (l0.length : Int) := of_decide_eq_true (by first | (with_reducible assumption) | assumption)
              obtain ⟨ad308, e308, hx308_0⟩ := Kd.at_int HR0.out x5_1 p308 q308
              cases e308
              replace hx308_0 := (HB.out.cell (World.block_lt_of_cell? w _ hx308_0)).trans hx308_0
              replace p308 := eq_true p308
              replace q308 := eq_true q308
              go_wp2
              go_ret2
              exact ⟨by first | rfl | (simp [errW_none, errW_some] <;> rfl) | (simp [*, errW_none, errW_some] <;> rfl), by repeat (first | (with_reducible first | exact HB.out | apply below_alloc | apply pw_below_drewN | apply below_drew1) | exact HB.out)⟩
            · rw [if_neg c5] at H
              have c5b0 : decide ((rd l0 x5_1) < 0) = false := decide_eq_false c5
              clear c5
              by_cases c6 : (rd l0 x5_1) > 3
              · rw [if_pos c6] at H
                have c6b0 : decide (3 < (rd l0 x5_1)) = true := decide_eq_true c6
                clear c6
                simp only [Option.some.injEq, Prod.mk.injEq] at H
                obtain ⟨rfl, rfl⟩ := H
                have p308 : 0 ≤ (x5_1 : Int) := of_decide_eq_true (by first | (with_reducible assumption) | assumption)
                have q308 : x5_1 < (l0.length : Int) := of_decide_eq_true (by first | (with_reducible assumption) | assumption)
                obtain ⟨ad308, e308, hx308_0⟩ := Kd.at_int HR0.out x5_1 p308 q308
                cases e308
                replace hx308_0 := (HB.out.cell (World.block_lt_of_cell? w _ hx308_0)).trans hx308_0
                replace p308 := eq_true p308
                replace q308 := eq_true q308
                have p309 : 0 ≤ (x5_1 : Int) := of_decide_eq_true (by first | (with_reducible assumption) | assumption)
                have q309 : x5_1 < (l0.length : Int) := of_decide_eq_true (by first | (with_reducible assumption) | assumption)
                obtain ⟨ad309, e309, hx309_0⟩ := Kd.at_int HR0.out x5_1 p309 q309
                obtain rfl : ad308 = ad309 := (by injection e309)
                replace hx309_0 := (HB.out.cell (World.block_lt_of_cell? w _ hx309_0)).trans hx309_0
                replace p309 := eq_true p309
                replace q309 := eq_true q309
                go_wp2
                go_ret2
                exact ⟨by first | rfl | (simp [errW_none, errW_some] <;> rfl) | (simp [*, errW_none, errW_some] <;> rfl), by repeat (first | (with_reducible first | exact HB.out | apply below_alloc | apply pw_below_drewN | apply below_drew1) | exact HB.out)⟩
              · rw [if_neg c6] at H
                have c6b0 : decide (3 < (rd l0 x5_1)) = false := decide_eq_false c6
                clear c6
                obtain ⟨y310, hy310⟩ : ∃ y_ : List ByteArray, y_ = (([(⟨#[117]⟩ : ByteArray), (⟨#[45]⟩ : ByteArray), (⟨#[117, 46]⟩ : ByteArray), (⟨#[45, 46]⟩ : ByteArray)] : List ByteArray)) := ⟨_, rfl⟩
                replace H : (if 0 ≤ (rd l0 x5_1) then (if (rd l0 x5_1) < (y310.length : Int) then (if x4_1.size + (rdOf ByteArray.empty y310 (rd l0 x5_1)).size ≤ 9223372036854775807 then (ancepsref04_Text.l0 k1 l0 (x4_1 ++ (rdOf ByteArray.empty y310 (rd l0 x5_1))) (wrap64 (x5_1 + 1))) else (none)) else (none)) else (none)) = some (r1, r2) := by first | (rw [hy310]; with_reducible exact H) | (have H2_ := (Option.bind_some _ _).symm.trans H; rw [hy310]; with_reducible exact H2_) | (have H2_ := (Option.bind_some _ _).symm.trans H; with_reducible exact H2_) | with_reducible exact H | (rw [hy310]; exact H) | exact H
                have Ny310 := Aside0.mk hy310
                clear hy310
                by_cases c7 : 0 ≤ (rd l0 x5_1)
                · rw [if_pos c7] at H
                  have c7b0 : decide (0 ≤ (rd l0 x5_1)) = true := decide_eq_true c7
                  clear c7
                  by_cases c8 : (rd l0 x5_1) < (y310.length : Int)
                  · rw [if_pos c8] at H
                    have c8b0 : decide ((rd l0 x5_1) < (y310.length : Int)) = true := decide_eq_true c8
                    clear c8
                    by_cases c9 : x4_1.size + (rdOf ByteArray.empty y310 (rd l0 x5_1)).size ≤ 9223372036854775807
                    · rw [if_pos c9] at H
                      have c9b0 := eq_true c9
                      have c9b1 : decide (x4_1.size + (rdOf ByteArray.empty y310 (rd l0 x5_1)).size ≤ 9223372036854775807) = true := decide_eq_true c9
                      try have c9b2 : (9223372036854775807 < x4_1.size + (rdOf ByteArray.empty y310 (rd l0 x5_1)).size) = False := eq_false (Nat.not_lt.2 c9)
                      have H' := Aside0.mk H
                      clear H
                      have p308 : 0 ≤ (x5_1 : Int) := of_decide_eq_true (by first | (with_reducible assumption) | assumption)
                      have q308 : x5_1 < (l0.length : Int) := of_decide_eq_true (by first | (with_reducible assumption) | assumption)
                      obtain ⟨ad308, e308, hx308_0⟩ := Kd.at_int HR0.out x5_1 p308 q308
                      cases e308
                      replace hx308_0 := (HB.out.cell (World.block_lt_of_cell? w _ hx308_0)).trans hx308_0
                      replace p308 := eq_true p308
                      replace q308 := eq_true q308
                      have p309 : 0 ≤ (x5_1 : Int) := of_decide_eq_true (by first | (with_reducible assumption) | assumption)
                      have q309 : x5_1 < (l0.length : Int) := of_decide_eq_true (by first | (with_reducible assumption) | assumption)
                      obtain ⟨ad309, e309, hx309_0⟩ := Kd.at_int HR0.out x5_1 p309 q309
                      obtain rfl : ad308 = ad309 := (by injection e309)
                      replace hx309_0 := (HB.out.cell (World.block_lt_of_cell? w _ hx309_0)).trans hx309_0
                      replace p309 := eq_true p309
                      replace q309 := eq_true q309
                      go_wp2_with (first | ((with_reducible refine gate_dst (N := 28) rfl ?_); refine Kd.R_lit Kd.string _ 9 ?hg (N := 28) ?hd (xs := ([(⟨#[117]⟩ : ByteArray), (⟨#[45]⟩ : ByteArray), (⟨#[117, 46]⟩ : ByteArray), (⟨#[45, 46]⟩ : ByteArray)] : List ByteArray)) (inner := [.string (⟨#[117]⟩ : ByteArray), .string (⟨#[45]⟩ : ByteArray), .string (⟨#[117, 46]⟩ : ByteArray), .string (⟨#[45, 46]⟩ : ByteArray)]) (ok := fun _ => True) (okp := fun _ => True) ?hr ?hp (fun _ hk => hk) trivial (Below.refl _ _) (Nat.le_refl _) (by simp) ?_; (case hd => rfl); (case hg => rfl); (case hr => first | (go_simp; done) | (go_simp; rfl)); (case hp => exact (Reps.one (show Kd.M Kd.string _ _ _ (⟨#[117]⟩ : ByteArray) [.string (⟨#[117]⟩ : ByteArray)] from rfl) (Reps.one (show Kd.M Kd.string _ _ _ (⟨#[45]⟩ : ByteArray) [.string (⟨#[45]⟩ : ByteArray)] from rfl) (Reps.one (show Kd.M Kd.string _ _ _ (⟨#[117, 46]⟩ : ByteArray) [.string (⟨#[117, 46]⟩ : ByteArray)] from rfl) (Reps.one (show Kd.M Kd.string _ _ _ (⟨#[45, 46]⟩ : ByteArray) [.string (⟨#[45, 46]⟩ : ByteArray)] from rfl) (Reps.none _ _)))))); intro v311 w10 ho11 hb hg_ hnew_; clear hg_ hnew_; (first | rw [← Ny310.out] at ho11 | (simp only [Int.reduceToNat] at ho11; rw [← Ny310.out] at ho11)); have n0_ := Aside0.mk (Kd.R_lower ho11 (below_size (by repeat (first | (with_reducible first | exact HB.out | apply below_alloc | apply pw_below_drewN | apply below_drew1) | exact HB.out)))); have n1_ := Aside0.mk (below_step (by repeat (first | (with_reducible first | exact HB.out | apply below_alloc | apply pw_below_drewN | apply below_drew1) | exact HB.out)) hb); clear HB; have HO312 := n0_; have HB := n1_; clear n0_ n1_; clear hb ho11; have p313 : 0 ≤ (x5_1 : Int) := of_decide_eq_true (by first | (with_reducible assumption) | assumption); have q313 : x5_1 < (l0.length : Int) := of_decide_eq_true (by first | (with_reducible assumption) | assumption); obtain ⟨ad313, e313, hx313_0⟩ := Kd.at_int HR0.out x5_1 p313 q313; obtain rfl : ad308 = ad313 := (by injection e313); replace hx313_0 := (HB.out.cell (World.block_lt_of_cell? w _ hx313_0)).trans hx313_0; replace p313 := eq_true p313; replace q313 := eq_true q313; obtain ⟨Ao12, co12, eo12⟩ := Kd.R_slice HO312.out; subst eo12; have p314 : 0 ≤ ((rd l0 x5_1) : Int) := of_decide_eq_true (by first | (with_reducible assumption) | assumption); have q314 : (rd l0 x5_1) < (y310.length : Int) := of_decide_eq_true (by first | (with_reducible assumption) | assumption); obtain ⟨ad314, e314, hx314_0⟩ := Kd.at_string (Kd.R_reads' HO312.out).2.2 (rd l0 x5_1) p314 q314; cases e314; replace p314 := eq_true p314; replace q314 := eq_true q314))
                      go_roundg k1
                      case measure => have := HK1.out; omega
                      case rel => exact ⟨(x4_1 ++ (rdOf ByteArray.empty y310 (rd l0 x5_1))), (wrap64 (x5_1 + 1)), (by first | rfl | (simp; done) | (simp [*]; done)), (by first | rfl | (simp; done) | (simp [*]; done)), H', ⟨by have := HK1.out; omega⟩, ⟨by repeat (first | (with_reducible first | exact HB.out | apply below_alloc | apply pw_below_drewN | apply below_drew1) | exact HB.out)⟩⟩
                    · rw [if_neg c9] at H
                      exact absurd H (by simp)
                  · rw [if_neg c8] at H
                    exact absurd H (by simp)
                · rw [if_neg c7] at H
                  exact absurd H (by simp)
          · rw [if_neg c4] at H
            exact absurd H (by simp)
        · rw [if_neg c3] at H
          have c3b0 : decide (x5_1 < (l0.length : Int)) = false := decide_eq_false c3
          clear c3
          simp only [Option.some.injEq, Prod.mk.injEq] at H
          obtain ⟨rfl, rfl⟩ := H
          go_wp2
          go_ret2
          exact ⟨by first | rfl | (simp [errW_none, errW_some] <;> rfl) | (simp [*, errW_none, errW_some] <;> rfl), by repeat (first | (with_reducible first | exact HB.out | apply below_alloc | apply pw_below_drewN | apply below_drew1) | exact HB.out)⟩

/-! ### ancepslaw04_PatternText: function 9 -/
mutual
def ancepslaw04_PatternText.j0 : Nat → List Int → Bool → Option (Bool)
  | 0, _, _ => none
  | k + 1, x0, x15 => if x15 = true then ((ancepslaw04_awake.f k).bind fun t316 => (some t316)) else ((slices_Clone_int_int.f x0).bind fun t317 => ((pattern_Text.f t317).bind fun bt320 => ((ancepsref04_Text.f k x0).bind fun bt322 => (if bt320.1.toList = bt322.1.toList then (if bt320.2 = bt322.2 then (ancepslaw04_PatternText.j1 k x0 bt320.1 bt320.2 bt322.1 bt322.2 (bt320.2 != 0)) else (ancepslaw04_PatternText.j1 k x0 bt320.1 bt320.2 bt322.1 bt322.2 true)) else (ancepslaw04_PatternText.j1 k x0 bt320.1 bt320.2 bt322.1 bt322.2 true)))))
def ancepslaw04_PatternText.j1 : Nat → List Int → ByteArray → Int → ByteArray → Int → Bool → Option (Bool)
  | 0, _, _, _, _, _, _ => none
  | k + 1, x0, x3, x4, x5, x6, x39 => if x39 = true then (if x3.toList = x5.toList then (some (x4 == x6)) else (some false)) else ((pattern_Letters.f k x3).bind fun bt324 => (if bt324.2 = 0 then ((slices_Equal_int_int.f k x0 bt324.1).bind fun t328 => (some t328)) else (some false)))
end
def ancepslaw04_PatternText.f (k : Nat) (l0 : List Int) : Option (Bool) := (ancepslaw04_awake.f k).bind fun t315 => (if t315 = true then (ancepslaw04_PatternText.j0 k l0 (decide ((l0.length : Int) > 100))) else (ancepslaw04_PatternText.j0 k l0 true))
theorem ancepslaw04_PatternText.mono_l : ∀ k, (∀ y0 y1, LeO (ancepslaw04_PatternText.j0 k y0 y1) (ancepslaw04_PatternText.j0 (k + 1) y0 y1)) ∧ (∀ y0 y1 y2 y3 y4 y5, LeO (ancepslaw04_PatternText.j1 k y0 y1 y2 y3 y4 y5) (ancepslaw04_PatternText.j1 (k + 1) y0 y1 y2 y3 y4 y5))
  | 0 => ⟨fun _ _ r h => by simp [ancepslaw04_PatternText.j0] at h, fun _ _ _ _ _ _ r h => by simp [ancepslaw04_PatternText.j1] at h⟩
  | k + 1 => by
    obtain ⟨ih0, ih1⟩ := ancepslaw04_PatternText.mono_l k
    refine ⟨?_, ?_⟩
    · intro y0 y1
      unfold ancepslaw04_PatternText.j0
      repeat' first
      | (with_reducible exact ih0 _ _)
      | (with_reducible exact ih1 _ _ _ _ _ _)
      | (with_reducible exact ancepslaw04_awake.mono _)
      | (with_reducible exact ancepsref04_Text.mono _ _)
      | (with_reducible exact pattern_Letters.mono _ _)
      | (with_reducible exact slices_Equal_int_int.mono _ _ _)
      | (with_reducible exact LeO.refl _)
      | (with_reducible exact LeO.none _)
      | (with_reducible refine LeO.ite ?_ ?_)
      | (with_reducible refine LeO.bind ?_ (fun _ => ?_))
      | exact ih0 _ _
      | exact ih1 _ _ _ _ _ _
      | exact ancepslaw04_awake.mono _
      | exact ancepsref04_Text.mono _ _
      | exact pattern_Letters.mono _ _
      | exact slices_Equal_int_int.mono _ _ _
      | exact LeO.none _
      | refine LeO.ite ?_ ?_
      | refine LeO.bind ?_ (fun _ => ?_)
    · intro y0 y1 y2 y3 y4 y5
      unfold ancepslaw04_PatternText.j1
      repeat' first
      | (with_reducible exact ih0 _ _)
      | (with_reducible exact ih1 _ _ _ _ _ _)
      | (with_reducible exact ancepslaw04_awake.mono _)
      | (with_reducible exact ancepsref04_Text.mono _ _)
      | (with_reducible exact pattern_Letters.mono _ _)
      | (with_reducible exact slices_Equal_int_int.mono _ _ _)
      | (with_reducible exact LeO.refl _)
      | (with_reducible exact LeO.none _)
      | (with_reducible refine LeO.ite ?_ ?_)
      | (with_reducible refine LeO.bind ?_ (fun _ => ?_))
      | exact ih0 _ _
      | exact ih1 _ _ _ _ _ _
      | exact ancepslaw04_awake.mono _
      | exact ancepsref04_Text.mono _ _
      | exact pattern_Letters.mono _ _
      | exact slices_Equal_int_int.mono _ _ _
      | exact LeO.none _
      | refine LeO.ite ?_ ?_
      | refine LeO.bind ?_ (fun _ => ?_)
theorem ancepslaw04_PatternText.mono : ∀ a0 k, LeO (ancepslaw04_PatternText.f k a0) (ancepslaw04_PatternText.f (k + 1) a0) := by
  intro a0 k
  obtain ⟨ih0, ih1⟩ := ancepslaw04_PatternText.mono_l k
  unfold ancepslaw04_PatternText.f
  repeat' first
      | (with_reducible exact ih0 _ _)
      | (with_reducible exact ih1 _ _ _ _ _ _)
      | (with_reducible exact ancepslaw04_awake.mono _)
      | (with_reducible exact ancepsref04_Text.mono _ _)
      | (with_reducible exact pattern_Letters.mono _ _)
      | (with_reducible exact slices_Equal_int_int.mono _ _ _)
      | (with_reducible exact LeO.refl _)
      | (with_reducible exact LeO.none _)
      | (with_reducible refine LeO.ite ?_ ?_)
      | (with_reducible refine LeO.bind ?_ (fun _ => ?_))
      | exact ih0 _ _
      | exact ih1 _ _ _ _ _ _
      | exact ancepslaw04_awake.mono _
      | exact ancepsref04_Text.mono _ _
      | exact pattern_Letters.mono _ _
      | exact slices_Equal_int_int.mono _ _ _
      | exact LeO.none _
      | refine LeO.ite ?_ ?_
      | refine LeO.bind ?_ (fun _ => ?_)
set_option maxHeartbeats 8000000 in
set_option maxRecDepth 100000 in
theorem ancepslaw04_PatternText.calls (k : Nat) (A0 : Option Addr) (c0 : Nat) (l0 : List Int) (r : Bool) (w : World) (hr0 : Kd.C (Kd.int .i64) w A0 l0.length l0) (hc0 : l0.length ≤ c0) (h : ancepslaw04_PatternText.f k l0 = some r) :
    Calls Try.prog 9 #[.slice A0 l0.length c0] w fun e w' => e = .returned (.bool r) ∧ Below w.heap.size w w' := by
  have HR0 := Aside0.mk hr0
  have HC0 := Aside0.mk hc0
  clear hr0 hc0
  have HB := Aside0.mk (Below.refl w.heap.size w)
  have H : ((ancepslaw04_awake.f k).bind fun t315 => (if t315 = true then (ancepslaw04_PatternText.j0 k l0 (decide ((l0.length : Int) > 100))) else (ancepslaw04_PatternText.j0 k l0 true))) = some r := h
  clear h
  have HC2 := Aside0.mk H
  clear H
  go_enter Try.func9, Try.ntmps9
  go_upto_region 1 with (fail)
  go_cut [15] (fun v15 wc => ∃ (kq : Nat) (x15_1 : Bool), v15 = .bool x15_1 ∧ Aside0 (ancepslaw04_PatternText.j0 kq l0 x15_1 = some r) ∧ Aside0 (kq ≤ k) ∧ Aside0 (Below w.heap.size w wc))
  case first =>
    have H := HC2.out
    clear HC2
    replace H := Option.bind_eq_some_iff.mp H
    obtain ⟨t315, A30, H⟩ := H
    replace H : (if t315 = true then (ancepslaw04_PatternText.j0 k l0 (decide ((l0.length : Int) > 100))) else (ancepslaw04_PatternText.j0 k l0 true)) = some r := H
    have A3 := Aside0.mk A30
    clear A30
    by_cases c4 : t315 = true
    · subst c4
      have H1 : (ancepslaw04_PatternText.j0 k l0 (decide ((l0.length : Int) > 100))) = some r := by rw [if_pos rfl] at H; exact H
      clear H
      have H := H1
      clear H1
      have H' := Aside0.mk H
      clear H
      go_wp2_with (first | ((with_reducible refine gate_callee (f := 10) rfl ?_); refine goesL_ (some 9) rfl rfl Try.func10 (by kernel_rfl) rfl #[] rfl (by (try simp only [List.map_toArray, List.map_cons, List.map_nil]); first | done | rfl | (simp only [List.length_drop, List.length_take]; rfl)) ?_; (with_reducible refine (ancepslaw04_awake.calls k  true _ A3.out).mono ?_); rintro e w5 ⟨rfl, hb⟩; refine ⟨_, rfl, ?_⟩; have n0_ := Aside0.mk (below_step (by repeat (first | (with_reducible first | exact HB.out | apply below_alloc | apply pw_below_drewN | apply below_drew1) | exact HB.out)) hb); clear HB; have HB := n0_; clear n0_; (try clear hb); (try clear hb2); (try clear hk); (try clear hi)))
      go_meet
      case rel => exact ⟨_, (decide ((l0.length : Int) > 100)), (by first | rfl | (simp; done) | (simp [*]; done)), H', ⟨by first | omega | exact Nat.le_refl _⟩, ⟨by repeat (first | (with_reducible first | exact HB.out | apply below_alloc | apply pw_below_drewN | apply below_drew1) | exact HB.out)⟩⟩
    · replace c4 := Bool.eq_false_iff.mpr c4
      subst c4
      have H1 : (ancepslaw04_PatternText.j0 k l0 true) = some r := by rw [if_neg (show ¬ (false = true) by decide)] at H; exact H
      clear H
      have H := H1
      clear H1
      have H' := Aside0.mk H
      clear H
      go_wp2_with (first | ((with_reducible refine gate_callee (f := 10) rfl ?_); refine goesL_ (some 9) rfl rfl Try.func10 (by kernel_rfl) rfl #[] rfl (by (try simp only [List.map_toArray, List.map_cons, List.map_nil]); first | done | rfl | (simp only [List.length_drop, List.length_take]; rfl)) ?_; (with_reducible refine (ancepslaw04_awake.calls k  false _ A3.out).mono ?_); rintro e w6 ⟨rfl, hb⟩; refine ⟨_, rfl, ?_⟩; have n0_ := Aside0.mk (below_step (by repeat (first | (with_reducible first | exact HB.out | apply below_alloc | apply pw_below_drewN | apply below_drew1) | exact HB.out)) hb); clear HB; have HB := n0_; clear n0_; (try clear hb); (try clear hb2); (try clear hk); (try clear hi)))
      go_meet
      case rel => exact ⟨_, (true), (by first | rfl | (simp; done) | (simp [*]; done)), H', ⟨by first | omega | exact Nat.le_refl _⟩, ⟨by repeat (first | (with_reducible first | exact HB.out | apply below_alloc | apply pw_below_drewN | apply below_drew1) | exact HB.out)⟩⟩
  case rest =>
    clear HC2
    try clear c1
    try clear p2
    try clear c4
    obtain ⟨kq, x15_1, rfl, HA, HJ1, HB⟩ := hcut
    cases kq with
    | zero => exact absurd HA.out (by simp [ancepslaw04_PatternText.j0])
    | succ kj1 =>
      have H := HA.out
      clear HA
      simp only [ancepslaw04_PatternText.j0] at H
      by_cases c7 : x15_1 = true
      · subst c7
        have H1 : ((ancepslaw04_awake.f kj1).bind fun t316 => (some t316)) = some r := by rw [if_pos rfl] at H; exact H
        clear H
        have H := H1
        clear H1
        replace H := Option.bind_eq_some_iff.mp H
        obtain ⟨t316, A80, H⟩ := H
        replace H : (some t316) = some r := H
        have A8 := Aside0.mk A80
        clear A80
        obtain rfl := Option.some.inj H
        go_wp2_with (first | ((with_reducible refine gate_callee (f := 10) rfl ?_); refine goesL_ (some 16) rfl rfl Try.func10 (by kernel_rfl) rfl #[] rfl (by (try simp only [List.map_toArray, List.map_cons, List.map_nil]); first | done | rfl | (simp only [List.length_drop, List.length_take]; rfl)) ?_; (with_reducible refine (ancepslaw04_awake.calls kj1  t316 _ A8.out).mono ?_); rintro e w9 ⟨rfl, hb⟩; refine ⟨_, rfl, ?_⟩; have n0_ := Aside0.mk (below_step (by repeat (first | (with_reducible first | exact HB.out | apply below_alloc | apply pw_below_drewN | apply below_drew1) | exact HB.out)) hb); clear HB; have HB := n0_; clear n0_; (try clear hb); (try clear hb2); (try clear hk); (try clear hi)))
        go_ret
        exact ⟨by first | rfl | (simp [errW_none, errW_some] <;> rfl) | (simp [*, errW_none, errW_some] <;> rfl), by repeat (first | (with_reducible first | exact HB.out | apply below_alloc | apply pw_below_drewN | apply below_drew1) | exact HB.out)⟩
      · replace c7 := Bool.eq_false_iff.mpr c7
        subst c7
        have H1 : ((slices_Clone_int_int.f l0).bind fun t317 => ((pattern_Text.f t317).bind fun bt320 => ((ancepsref04_Text.f kj1 l0).bind fun bt322 => (if bt320.1.toList = bt322.1.toList then (if bt320.2 = bt322.2 then (ancepslaw04_PatternText.j1 kj1 l0 bt320.1 bt320.2 bt322.1 bt322.2 (bt320.2 != 0)) else (ancepslaw04_PatternText.j1 kj1 l0 bt320.1 bt320.2 bt322.1 bt322.2 true)) else (ancepslaw04_PatternText.j1 kj1 l0 bt320.1 bt320.2 bt322.1 bt322.2 true))))) = some r := by rw [if_neg (show ¬ (false = true) by decide)] at H; exact H
        clear H
        have H := H1
        clear H1
        replace H := Option.bind_eq_some_iff.mp H
        obtain ⟨t317, A100, H⟩ := H
        replace H : ((pattern_Text.f t317).bind fun bt320 => ((ancepsref04_Text.f kj1 l0).bind fun bt322 => (if bt320.1.toList = bt322.1.toList then (if bt320.2 = bt322.2 then (ancepslaw04_PatternText.j1 kj1 l0 bt320.1 bt320.2 bt322.1 bt322.2 (bt320.2 != 0)) else (ancepslaw04_PatternText.j1 kj1 l0 bt320.1 bt320.2 bt322.1 bt322.2 true)) else (ancepslaw04_PatternText.j1 kj1 l0 bt320.1 bt320.2 bt322.1 bt322.2 true)))) = some r := H
        have A10 := Aside0.mk A100
        clear A100
        replace H := Option.bind_eq_some_iff.mp H
        obtain ⟨⟨t320, t321⟩, A110, H⟩ := H
        replace H : ((ancepsref04_Text.f kj1 l0).bind fun bt322 => (if t320.toList = bt322.1.toList then (if t321 = bt322.2 then (ancepslaw04_PatternText.j1 kj1 l0 t320 t321 bt322.1 bt322.2 (t321 != 0)) else (ancepslaw04_PatternText.j1 kj1 l0 t320 t321 bt322.1 bt322.2 true)) else (ancepslaw04_PatternText.j1 kj1 l0 t320 t321 bt322.1 bt322.2 true))) = some r := H
        have A11 := Aside0.mk A110
        clear A110
        replace H := Option.bind_eq_some_iff.mp H
        obtain ⟨⟨t322, t323⟩, A120, H⟩ := H
        replace H : (if t320.toList = t322.toList then (if t321 = t323 then (ancepslaw04_PatternText.j1 kj1 l0 t320 t321 t322 t323 (t321 != 0)) else (ancepslaw04_PatternText.j1 kj1 l0 t320 t321 t322 t323 true)) else (ancepslaw04_PatternText.j1 kj1 l0 t320 t321 t322 t323 true)) = some r := H
        have A12 := Aside0.mk A120
        clear A120
        have HC13 := Aside0.mk H
        clear H
        go_upto_region 5 with (first | ((with_reducible refine gate_callee (f := 26) rfl ?_); refine goesL_ (some 19) rfl rfl Try.func26 (by kernel_rfl) rfl #[.slice A0 l0.length c0] rfl (by (try simp only [List.map_toArray, List.map_cons, List.map_nil]); first | done | rfl | (simp only [List.length_drop, List.length_take]; rfl)) ?_; (with_reducible refine (slices_Clone_int_int.calls _ _ l0 t317 _ ?side1 ?side2 A10.out).mono ?_); (case side1 => repeat (first | exact (Kd.C_below HR0.out HB.out) | (with_reducible refine Kd.C_alloc ?_ _) | (with_reducible refine Kd.C_drewN ?_ _) | (with_reducible refine Kd.C_drew ?_))); (case side2 => exact HC0.out); rintro e w14 ⟨v318, rfl, ho0, hb⟩; refine ⟨_, rfl, ?_⟩; have n0_ := Aside0.mk (Kd.R_lower ho0 (below_size (by repeat (first | (with_reducible first | exact HB.out | apply below_alloc | apply pw_below_drewN | apply below_drew1) | exact HB.out)))); have n1_ := Aside0.mk (below_step (by repeat (first | (with_reducible first | exact HB.out | apply below_alloc | apply pw_below_drewN | apply below_drew1) | exact HB.out)) hb); clear HB; have HO319 := n0_; have HB := n1_; clear n0_ n1_; (try clear hb); (try clear hb2); (try clear hk); (try clear hi); (try clear ho0); obtain ⟨Ao15, co15, eo15⟩ := Kd.R_slice HO319.out; subst eo15) | ((with_reducible refine gate_callee (f := 25) rfl ?_); refine goesL_ (some 20) rfl rfl Try.func25 (by kernel_rfl) rfl #[.slice Ao15 t317.length co15] rfl (by (try simp only [List.map_toArray, List.map_cons, List.map_nil]); first | done | rfl | (simp only [List.length_drop, List.length_take]; rfl)) ?_; (with_reducible refine (pattern_Text.calls _ _ t317 t320 t321 _ ?side1 ?side2 A11.out).mono ?_); (case side1 => repeat (first | exact (Kd.R_reads' HO319.out).2.2 | (with_reducible refine Kd.C_alloc ?_ _) | (with_reducible refine Kd.C_drewN ?_ _) | (with_reducible refine Kd.C_drew ?_))); (case side2 => exact (Kd.R_reads' HO319.out).2.1); rintro e w16 ⟨rfl, hb⟩; refine ⟨_, rfl, ?_⟩; have n0_ := Aside0.mk (Kd.R_below (by (with_reducible repeat (first | apply Kd.R_alloc | apply Kd.R_drewN | apply Kd.R_drew)); exact HO319.out) hb); have n1_ := Aside0.mk (below_step (by repeat (first | (with_reducible first | exact HB.out | apply below_alloc | apply pw_below_drewN | apply below_drew1) | exact HB.out)) hb); clear HO319; clear HB; have HO319 := n0_; have HB := n1_; clear n0_ n1_; (try clear hb); (try clear hb2); (try clear hk); (try clear hi)) | ((with_reducible refine gate_callee (f := 27) rfl ?_); refine goesL_ (some 25) rfl rfl Try.func27 (by kernel_rfl) rfl #[.slice A0 l0.length c0] rfl (by (try simp only [List.map_toArray, List.map_cons, List.map_nil]); first | done | rfl | (simp only [List.length_drop, List.length_take]; rfl)) ?_; (with_reducible refine (ancepsref04_Text.calls kj1 _ _ l0 t322 t323 _ ?side1 ?side2 A12.out).mono ?_); (case side1 => repeat (first | exact (Kd.C_below HR0.out HB.out) | (with_reducible refine Kd.C_alloc ?_ _) | (with_reducible refine Kd.C_drewN ?_ _) | (with_reducible refine Kd.C_drew ?_))); (case side2 => exact HC0.out); rintro e w17 ⟨rfl, hb⟩; refine ⟨_, rfl, ?_⟩; have n0_ := Aside0.mk (Kd.R_below (by (with_reducible repeat (first | apply Kd.R_alloc | apply Kd.R_drewN | apply Kd.R_drew)); exact HO319.out) hb); have n1_ := Aside0.mk (below_step (by repeat (first | (with_reducible first | exact HB.out | apply below_alloc | apply pw_below_drewN | apply below_drew1) | exact HB.out)) hb); clear HO319; clear HB; have HO319 := n0_; have HB := n1_; clear n0_ n1_; (try clear hb); (try clear hb2); (try clear hk); (try clear hi)))
        (try simp only [Act.put, List.setIfInBounds_toArray, List.set_cons_zero, List.set_cons_succ])
        go_cut [39] (fun v39 wc => ∃ (kq : Nat) (x39_12 : Bool), v39 = .bool x39_12 ∧ Aside0 (ancepslaw04_PatternText.j1 kq l0 t320 t321 t322 t323 x39_12 = some r) ∧ Aside0 (kq ≤ kj1) ∧ Aside0 (Below w.heap.size w wc))
        case first =>
          have H := HC13.out
          clear HC13
          by_cases c18 : t320.toList = t322.toList
          · rw [if_pos c18] at H
            have c18b0 : (t320.toList == t322.toList) = true := beq_iff_eq.mpr c18
            have c18b1 : (t320.toList != t322.toList) = false := bne_eq_false_iff_eq.mpr c18
            clear c18
            (first | rw [c18b0] | (simp only [i64_w, i32_w]; rw [c18b0]) | skip)
            by_cases c19 : t321 = t323
            · rw [if_pos c19] at H
              have c19b0 : (t321 == t323) = true := beq_iff_eq.mpr c19
              have c19b1 : (t321 != t323) = false := bne_eq_false_iff_eq.mpr c19
              clear c19
              have H' := Aside0.mk H
              clear H
              go_wp2
              go_meet
              case rel => exact ⟨_, ((t321 != 0)), (by first | rfl | (simp; done) | (simp [*]; done)), H', ⟨by have := HJ1.out; first | omega | exact Nat.le_refl _⟩, ⟨by repeat (first | (with_reducible first | exact HB.out | apply below_alloc | apply pw_below_drewN | apply below_drew1) | exact HB.out)⟩⟩
            · rw [if_neg c19] at H
              have c19b0 : (t321 == t323) = false := beq_eq_false_iff_ne.mpr c19
              have c19b1 : (t321 != t323) = true := bne_iff_ne.mpr c19
              have H' := Aside0.mk H
              clear H
              go_wp2
              go_meet
              case rel => exact ⟨_, (true), (by first | rfl | (simp; done) | (simp [*]; done)), H', ⟨by have := HJ1.out; first | omega | exact Nat.le_refl _⟩, ⟨by repeat (first | (with_reducible first | exact HB.out | apply below_alloc | apply pw_below_drewN | apply below_drew1) | exact HB.out)⟩⟩
          · rw [if_neg c18] at H
            have c18b0 : (t320.toList == t322.toList) = false := beq_eq_false_iff_ne.mpr c18
            have c18b1 : (t320.toList != t322.toList) = true := bne_iff_ne.mpr c18
            (first | rw [c18b0] | (simp only [i64_w, i32_w]; rw [c18b0]) | skip)
            have H' := Aside0.mk H
            clear H
            go_wp2
            go_meet
            case rel => exact ⟨_, (true), (by first | rfl | (simp; done) | (simp [*]; done)), H', ⟨by have := HJ1.out; first | omega | exact Nat.le_refl _⟩, ⟨by repeat (first | (with_reducible first | exact HB.out | apply below_alloc | apply pw_below_drewN | apply below_drew1) | exact HB.out)⟩⟩
        case rest =>
          clear HC13
          try clear c1
          try clear c2
          try clear p2
          try clear c4
          try clear c7
          try clear c9
          try clear c10
          try clear c18
          try clear c18b0
          try clear c18b1
          try clear c19
          try clear c19b0
          try clear c19b1
          try clear p2
          obtain ⟨kq, x39_12, rfl, HA, HJ12, HB⟩ := hcut
          cases kq with
          | zero => exact absurd HA.out (by simp [ancepslaw04_PatternText.j1])
          | succ kj12 =>
            have H := HA.out
            clear HA
            simp only [ancepslaw04_PatternText.j1] at H
            by_cases c20 : x39_12 = true
            · subst c20
              have H1 : (if t320.toList = t322.toList then (some (t321 == t323)) else (some false)) = some r := by rw [if_pos rfl] at H; exact H
              clear H
              have H := H1
              clear H1
              by_cases c21 : t320.toList = t322.toList
              · rw [if_pos c21] at H
                have c21b0 : (t320.toList == t322.toList) = true := beq_iff_eq.mpr c21
                have c21b1 : (t320.toList != t322.toList) = false := bne_eq_false_iff_eq.mpr c21
                clear c21
                obtain rfl := Option.some.inj H
                go_wp2
                go_ret
                exact ⟨by first | rfl | (simp [errW_none, errW_some] <;> rfl) | (simp [*, errW_none, errW_some] <;> rfl), by repeat (first | (with_reducible first | exact HB.out | apply below_alloc | apply pw_below_drewN | apply below_drew1) | exact HB.out)⟩
              · rw [if_neg c21] at H
                have c21b0 : (t320.toList == t322.toList) = false := beq_eq_false_iff_ne.mpr c21
                have c21b1 : (t320.toList != t322.toList) = true := bne_iff_ne.mpr c21
                obtain rfl := Option.some.inj H
                go_wp2
                go_ret
                exact ⟨by first | rfl | (simp [errW_none, errW_some] <;> rfl) | (simp [*, errW_none, errW_some] <;> rfl), by repeat (first | (with_reducible first | exact HB.out | apply below_alloc | apply pw_below_drewN | apply below_drew1) | exact HB.out)⟩
            · replace c20 := Bool.eq_false_iff.mpr c20
              subst c20
              have H1 : ((pattern_Letters.f kj12 t320).bind fun bt324 => (if bt324.2 = 0 then ((slices_Equal_int_int.f kj12 l0 bt324.1).bind fun t328 => (some t328)) else (some false))) = some r := by rw [if_neg (show ¬ (false = true) by decide)] at H; exact H
              clear H
              have H := H1
              clear H1
              replace H := Option.bind_eq_some_iff.mp H
              obtain ⟨⟨t324, t325⟩, A220, H⟩ := H
              replace H : (if t325 = 0 then ((slices_Equal_int_int.f kj12 l0 t324).bind fun t328 => (some t328)) else (some false)) = some r := H
              have A22 := Aside0.mk A220
              clear A220
              by_cases c23 : t325 = 0
              · rw [if_pos c23] at H
                have c23b0 : (t325 == 0) = true := beq_iff_eq.mpr c23
                have c23b1 : (t325 != 0) = false := bne_eq_false_iff_eq.mpr c23
                clear c23
                replace H := Option.bind_eq_some_iff.mp H
                obtain ⟨t328, A240, H⟩ := H
                replace H : (some t328) = some r := H
                have A24 := Aside0.mk A240
                clear A240
                obtain rfl := Option.some.inj H
                go_wp2_with (first | ((with_reducible refine gate_callee (f := 28) rfl ?_); refine goesL_ (some 50) rfl rfl Try.func28 (by kernel_rfl) rfl #[.string t320] rfl (by (try simp only [List.map_toArray, List.map_cons, List.map_nil]); first | done | rfl | (simp only [List.length_drop, List.length_take]; rfl)) ?_; (with_reducible refine (pattern_Letters.calls kj12 t320 t324 t325 _ A22.out).mono ?_); rintro e w25 ⟨v326, rfl, ho0, hb⟩; refine ⟨_, rfl, ?_⟩; have n0_ := Aside0.mk (Kd.R_lower ho0 (below_size (by repeat (first | (with_reducible first | exact HB.out | apply below_alloc | apply pw_below_drewN | apply below_drew1) | exact HB.out)))); have n1_ := Aside0.mk (below_step (by repeat (first | (with_reducible first | exact HB.out | apply below_alloc | apply pw_below_drewN | apply below_drew1) | exact HB.out)) hb); clear HB; have HO327 := n0_; have HB := n1_; clear n0_ n1_; (try clear hb); (try clear hb2); (try clear hk); (try clear hi); (try clear ho0); obtain ⟨Ao26, co26, eo26⟩ := Kd.R_slice HO327.out; subst eo26) | (go_at_call 29; (with_reducible refine (slices_Equal_int_int.calls kj12 _ _ l0 _ _ t324 t328 _ ?side1 ?side2 ?side3 ?side4 A24.out).mono ?_); (case side1 => repeat (first | exact (Kd.C_below HR0.out HB.out) | (with_reducible refine Kd.C_alloc ?_ _) | (with_reducible refine Kd.C_drewN ?_ _) | (with_reducible refine Kd.C_drew ?_))); (case side2 => exact HC0.out); (case side3 => repeat (first | exact (Kd.R_reads' HO327.out).2.2 | (with_reducible refine Kd.C_alloc ?_ _) | (with_reducible refine Kd.C_drewN ?_ _) | (with_reducible refine Kd.C_drew ?_))); (case side4 => exact (Kd.R_reads' HO327.out).2.1); rintro e w' ⟨rfl, ⟨nd, rfl⟩⟩))
                go_ret
                exact ⟨by first | rfl | (simp [errW_none, errW_some] <;> rfl) | (simp [*, errW_none, errW_some] <;> rfl), by repeat (first | (with_reducible first | exact HB.out | apply below_alloc | apply pw_below_drewN | apply below_drew1) | exact HB.out)⟩
              · rw [if_neg c23] at H
                have c23b0 : (t325 == 0) = false := beq_eq_false_iff_ne.mpr c23
                have c23b1 : (t325 != 0) = true := bne_iff_ne.mpr c23
                obtain rfl := Option.some.inj H
                go_wp2_with (first | ((with_reducible refine gate_callee (f := 28) rfl ?_); refine goesL_ (some 50) rfl rfl Try.func28 (by kernel_rfl) rfl #[.string t320] rfl (by (try simp only [List.map_toArray, List.map_cons, List.map_nil]); first | done | rfl | (simp only [List.length_drop, List.length_take]; rfl)) ?_; (with_reducible refine (pattern_Letters.calls kj12 t320 t324 t325 _ A22.out).mono ?_); rintro e w27 ⟨v326, rfl, ho0, hb⟩; refine ⟨_, rfl, ?_⟩; have n0_ := Aside0.mk (Kd.R_lower ho0 (below_size (by repeat (first | (with_reducible first | exact HB.out | apply below_alloc | apply pw_below_drewN | apply below_drew1) | exact HB.out)))); have n1_ := Aside0.mk (below_step (by repeat (first | (with_reducible first | exact HB.out | apply below_alloc | apply pw_below_drewN | apply below_drew1) | exact HB.out)) hb); clear HB; have HO327 := n0_; have HB := n1_; clear n0_ n1_; (try clear hb); (try clear hb2); (try clear hk); (try clear hi); (try clear ho0)))
                go_ret
                exact ⟨by first | rfl | (simp [errW_none, errW_some] <;> rfl) | (simp [*, errW_none, errW_some] <;> rfl), by repeat (first | (with_reducible first | exact HB.out | apply below_alloc | apply pw_below_drewN | apply below_drew1) | exact HB.out)⟩

/-- THE ONE PURE STATEMENT of ancepslaw04_PatternText: yours. -/
def ancepslaw04_PatternText.Pure : Prop := ∀ (l0 : List Int), l0.length ≤ maxLen → l0.length * 8 ≤ 140737488351232 → (∀ x ∈ l0, (Lit.int .i64 x).wf = true) → ∃ k, ancepslaw04_PatternText.f k l0 = some true
theorem ancepslaw04_PatternText.walk (P : ancepslaw04_PatternText.Pure) (a0 : Option Addr) (len0 cap0 : Nat) (z0 : List Int) (w : World) (w0 : (a0 = none ∧ len0 = 0 ∧ cap0 = 0 ∧ z0 = []) ∨ ∃ x, a0 = some x ∧ len0 ≤ cap0 ∧ cap0 ≤ maxLen ∧ z0.length = cap0 ∧ (∀ i, i < z0.length → w.cell? (x.add i) = some (.int .i64 (z0.getD i 0))) ∧ ∀ n ∈ z0, (Lit.int .i64 n).wf = true) (y0 : len0 * 8 ≤ 140737488351232) :
    Calls Try.prog 9 #[.slice a0 len0 cap0] w fun e w' => e = .returned (.bool true) ∧ Below w.heap.size w w' := by
  obtain ⟨l0, rfl, hr0, hm0, hw0, hc0⟩ := ReadsInt.ofRowC w0
  obtain ⟨k, h⟩ := P l0 hm0 y0 hw0
  refine (ancepslaw04_PatternText.calls k _ _ l0 true w (Kd.C_of_reads (d := (0 : Int)) (h1 := fun _ => rfl) hr0) hc0 h).mono ?_
  rintro e w' ⟨rfl, hd⟩
  exact ⟨rfl, hd⟩

end Go.Proofs.Ytbecdafbkdchkaa.X
