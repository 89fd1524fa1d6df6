-- printed by this session's xprint.py: out of the translation, by the kit's print with additions; Lean checks it
import Derived.Test.YtnjiniegpjfemaaDoorWN
import Derived.Test.YtnjiniegpjfemaaDoorWShare
import Derived.Test.YtnjiniegpjfemaaDoorWRepsOne
import Derived.Test.YtnjiniegpjfemaaDoorX0
namespace Go.Proofs.YtnjiniegpjfemaaDoor.X
open Go.RowKit Go.Proofs.YtnjiniegpjfemaaDoorW.PrintWords Go.Proofs.YtnjiniegpjfemaaDoorW.PrintLast Go.Proofs.YtnjiniegpjfemaaDoorW.PrintMore
attribute [local go_sem] max2_int min2_int max_two min_two max_three min_three max_four min_four isSome_setCell binOp_gtr_str binOp_leq_str binOp_geq_str   -- for this text's walks alone
set_option linter.unusedVariables false
set_option linter.unusedSimpArgs false

/-! ### api_Sound_35: function 35 -/
-- slices.Grow of the nil slice
theorem api_Sound_35.grow (m : Nat) (hm : m ≤ 1000000) (w0 w : World) (hB : Below w0.heap.size w0 w) :
    Calls Tryd.prog 54 #[.slice none 0 0, .int .i64 m] w fun e w' => ∃ v, e = .returned v ∧ Kd.N (Kd.slice 23 k23) 26 w' w0.heap.size (fun k_ => w0.heap.size ≤ k_) v [] ∧ Below w0.heap.size w0 w' := by
  have HB := Lib.hid hB; have HM := Lib.hid hm
  clear hB
  rcases Nat.eq_zero_or_pos m with h0 | h0
  · subst h0
    go_enter Tryd.func54, Tryd.ntmps54
    go_wp2_with (fail)
    go_ret
    exact ⟨_, rfl, Kd.N_nil _ _ _ _ _, HB.out⟩
  · have b0 : decide (0 < (m : Int)) = true := decide_eq_true (by omega)
    have b1 : decide (0 < m) = true := decide_eq_true h0
    have b2 : decide ((m : Int) < 0) = false := decide_eq_false (by omega)
    have hw : wrap64 (m : Int) = (m : Int) := by unfold wrap64; omega
    have hw2 : IntKind.i64.wrap (m : Int) = (m : Int) := (i64_w _).trans hw
    clear hw
    obtain ⟨i9, hi9, _, hs9, _⟩ := info_parts info26
    have hcut0 := cut_to (P := Tryd.prog) 34 26 .i64 Tryd.underlying34 hi9 none 0 0 0 (by decide) (by decide) (by decide)
    go_enter Tryd.func54, Tryd.ntmps54
    go_wp2_with (first | ((with_reducible refine gate_builtin (b := .append) (xs := #[.tmp 20, .tmp 21]) rfl ?_); at_builtin; refine Kd.N_append_zeros (Kd.slice 23 k23) (w0 := w0) w0.heap.size rfl (.tmp 20) (.tmp 21) 34 3 26 (.slice none 0 0) 24 rfl Tryd.underlying34 Tryd.underlying3 info26 rfl (by decide) (by omega) (.slice none 0 0) [] ([] : List S23) (m : Int) (fun k_ => w0.heap.size ≤ k_) rfl rfl (Kd.FK_slice_mk (Nat.le_refl _) (Kd.F_nil _ _ _)) (fun k hk => Nat.le_trans HB.out.size hk) (Kd.N_nil _ _ _ _ _) (by omega) HB.out HB.out.size (by rw [Int.toNat_natCast]; have := HM.out; simp only [List.length_nil]; omega) ?_; intro v1 w1 hr hb hg hat; obtain ⟨A1, c1, rfl⟩ := Kd.N_slice hr; have hl := (Kd.N_reads' hr).2.1; have R1 := Lib.hid (Kd.N_take (m := 0) hr (Nat.zero_le _)); have B1 := Lib.hid hb; have hcut1 := cut_to (P := Tryd.prog) 34 26 .i64 Tryd.underlying34 hi9 A1 _ c1 0 (by decide) (by omega) hl; clear hr hb hg hat hl))
    go_ret
    exact ⟨_, rfl, R1.out, B1.out⟩
def api_Sound_35.f (l0 : List (List (List S23))) : Option (List (List S23)) := if l0.flatten.length ≤ 1000000 ∧ l0.length ≤ 1000000 then some l0.flatten else none
theorem api_Sound_35.part (L : List (List (List S23))) (i : Nat) (h : i < L.length) : (L.take (i + 1)).flatten = (L.take i).flatten ++ L.getD i [] := by
  rw [List.take_add_one, List.getElem?_eq_getElem h, List.flatten_append, List.getD_eq_getElem?_getD, List.getElem?_eq_getElem h]
  simp
theorem api_Sound_35.part_le (L : List (List (List S23))) (i : Nat) : (L.take i).flatten.length ≤ L.flatten.length := by
  have : L.flatten = (L.take i).flatten ++ (L.drop i).flatten := by rw [← List.flatten_append, List.take_append_drop]
  rw [this, List.length_append]; omega
set_option maxHeartbeats 4000000 in
set_option maxRecDepth 100000 in
theorem api_Sound_35.calls (P0_ : Nat → Prop) (A0 : Option Addr) (c0 : Nat) (l0 : List (List (List S23))) (r : List (List S23)) (w : World) (hs0 : Kd.V (Kd.slice 26 (Kd.slice 23 k23)) 34 w w.heap.size (fun k_ => P0_ k_) (.slice A0 l0.length c0) l0) (h : api_Sound_35.f l0 = some r) :
    Calls Tryd.prog 35 #[.slice A0 l0.length c0] w fun e w' => ∃ v0_ : Value, e = .returned (v0_) ∧ Kd.N (Kd.slice 23 k23) 26 w' w.heap.size (fun k_ => (P0_ k_ ∨ w.heap.size ≤ k_)) v0_ r ∧ Below w.heap.size w w' := by
  unfold api_Sound_35.f at h
  by_cases h1 : l0.flatten.length ≤ 1000000 ∧ l0.length ≤ 1000000
  · rw [if_pos h1] at h
    obtain rfl := Option.some.inj h
    have HR := Lib.hid (Kd.F_bound (Kd.V_F hs0)); have HC := Lib.hid (Kd.V_reads' hs0).2.1; have HT := Lib.hid h1.1; have HL := Lib.hid h1.2
    clear h hs0 h1
    have HB := Lib.hid (Below.refl w.heap.size w)
    go_enter Tryd.func35, Tryd.ntmps35
    go_wp2_with (fail)
    go_loopg [3, 11] l0.length (fun kq v3 v11 wr => ∃ (j : Nat), v3 = .int .i64 ((l0.take j).flatten.length : Nat) ∧ v11 = .int .i64 j ∧ Hid (j + kq = l0.length) ∧ Hid (Below w.heap.size w wr))
    case atStart => exact ⟨0, (by simp), rfl, Lib.hid (by omega), HB⟩
    case round =>
      clear HB
      obtain ⟨j, rfl, rfl, HJ, HB⟩ := hrel
      cases gk with
      | succ k1 =>
        have c1 : j < l0.length := by have := HJ.out; omega
        have b1 : decide ((j : Int) < (l0.length : Int)) = true := decide_eq_true (by omega)
        have b1' : decide (j < l0.length) = true := decide_eq_true c1
        have hp := api_Sound_35.part l0 j c1
        have hple := api_Sound_35.part_le l0 (j + 1)
        have hsum : ((l0.take (j + 1)).flatten.length : Int) = ((l0.take j).flatten.length : Int) + ((l0.getD j []).length : Int) := by rw [hp, List.length_append]; omega
        have HS := Lib.hid hsum; have HPL := Lib.hid hple
        obtain ⟨ad, ce, rfl, hcl, hK, hcc⟩ := Kd.C_get (Kd.C_below (Kd.F_now HR.out) HB.out) ([] : List (List S23)) (j : Int) (by omega) (by omega)
        obtain ⟨Aj, cj, rfl, hlj, hCj⟩ := hK
        have hx0 := hcc 0 _ rfl
        rw [show (Kd.slice 26 (Kd.slice 23 k23)).sz = 1 from rfl, Nat.mul_one, Nat.add_zero, Int.toNat_natCast] at hx0
        rw [Int.toNat_natCast] at hCj
        have q0 : (0 ≤ (j : Int)) = True := eq_true (by omega)
        have q1 : ((j : Int) < (l0.length : Int)) = True := eq_true (by omega)
        have q2 : (j < l0.length) = True := eq_true c1
        clear hp hple hsum hcc hcl hlj hCj
        generalize hg : l0.getD j [] = lj at hx0 HS
        generalize hT : ((l0.take j).flatten.length : Nat) = T at HS ⊢
        have hw : wrap64 ((T : Int) + (lj.length : Int)) = (((l0.take (j + 1)).flatten.length : Nat) : Int) := by have := HS.out; have := HPL.out; have := HT.out; unfold wrap64; omega
        have hw2 : IntKind.i64.wrap ((T : Int) + (lj.length : Int)) = (((l0.take (j + 1)).flatten.length : Nat) : Int) := (i64_w _).trans hw
        have hn : decide ((((l0.take (j + 1)).flatten.length : Nat) : Int) < 0) = false := decide_eq_false (by omega)
        have hj1 : wrap64 ((j : Int) + 1) = (j : Int) + 1 := by have := HL.out; unfold wrap64; omega
        have hj2 : IntKind.i64.wrap ((j : Int) + 1) = (j : Int) + 1 := (i64_w _).trans hj1
        clear hw hj1 hg hT
        obtain ⟨T1, hT1⟩ : ∃ T1 : Nat, (l0.take (j + 1)).flatten.length = T1 := ⟨_, rfl⟩
        rw [hT1] at hw2 hn
        have HT1 := Lib.hid hT1
        clear hT1
        go_wp2_with (fail)
        go_roundg k1
        case measure => omega
        case rel => exact ⟨j + 1, by rw [HT1.out], rfl, Lib.hid (by have := HJ.out; omega), HB⟩
      | zero =>
        obtain rfl : j = l0.length := by have := HJ.out; omega
        have b1 : decide ((l0.length : Int) < (l0.length : Int)) = false := decide_eq_false (by omega)
        have b1' : decide (l0.length < l0.length) = false := decide_eq_false (by omega)
        rw [List.take_length]
        clear HJ
        obtain ⟨T, hT0⟩ : ∃ T : Nat, l0.flatten.length = T := ⟨_, rfl⟩
        have HT0 := Lib.hid hT0
        rw [hT0]
        have HT2 := Lib.hid (show T ≤ 1000000 from hT0 ▸ HT.out)
        clear hT0
        go_wp2_with (fail)
        refine (api_Sound_35.grow T HT2.out w _ HB.out).mono ?_
        rintro e w2 ⟨v, rfl, hv, hb⟩
        have HV := Lib.hid (Kd.N_mono hv (ok' := fun k_ => (P0_ k_ ∨ w.heap.size ≤ k_)) (fun _ hk => .inr hk)); have B2 := Lib.hid hb
        clear hv hb HB
        go_wp2_with (fail)
        go_loopg [6, 27] l0.length (fun kq v6 v27 wr => ∃ (j : Nat), v27 = .int .i64 j ∧ Hid (j + kq = l0.length) ∧ Hid (Kd.N (Kd.slice 23 k23) 26 wr w.heap.size (fun k_ => (P0_ k_ ∨ w.heap.size ≤ k_)) v6 (l0.take j).flatten) ∧ Hid (Below w.heap.size w wr))
        case atStart => exact ⟨0, rfl, Lib.hid (by omega), HV, B2⟩
        case round =>
          clear B2 HV b1 b1'
          obtain ⟨j, rfl, HJ, HV, HB⟩ := hrel
          cases gk with
          | succ k1 =>
            have c1 : j < l0.length := by have := HJ.out; omega
            have b1 : decide ((j : Int) < (l0.length : Int)) = true := decide_eq_true (by omega)
            have b1' : decide (j < l0.length) = true := decide_eq_true c1
            have hp := api_Sound_35.part l0 j c1
            have HPL := Lib.hid (api_Sound_35.part_le l0 (j + 1))
            obtain ⟨ad, ce, rfl, hcl, hK, hcc, _⟩ := Kd.F_get (Kd.F_below HR.out HB.out) ([] : List (List S23)) (j : Int) (by omega) (by omega)
            obtain ⟨Aj, cj, rfl, hlj, hCj⟩ := Kd.FK_slice_open hK
            clear hK
            have hx0 := hcc 0 _ rfl
            rw [show (Kd.slice 26 (Kd.slice 23 k23)).sz = 1 from rfl, Nat.mul_one, Nat.add_zero, Int.toNat_natCast] at hx0
            rw [Int.toNat_natCast] at hCj
            have q0 : (0 ≤ (j : Int)) = True := eq_true (by omega)
            have q1 : ((j : Int) < (l0.length : Int)) = True := eq_true (by omega)
            have q2 : (j < l0.length) = True := eq_true c1
            have hj1 : wrap64 ((j : Int) + 1) = (j : Int) + 1 := by have := HL.out; unfold wrap64; omega
            have hj2 : IntKind.i64.wrap ((j : Int) + 1) = (j : Int) + 1 := (i64_w _).trans hj1
            have HC2 := Lib.hid hCj; have HP := Lib.hid hp
            clear hcc hcl hlj hj1 hCj hp
            generalize l0.getD j [] = lj at hx0 HC2 HP
            generalize (l0.take j).flatten = fl at HV HP
            obtain ⟨A6, c6, rfl⟩ := Kd.N_slice HV.out
            go_wp2_with (first | ((with_reducible refine gate_builtin (b := .append) (xs := #[.tmp 31, .tmp 32]) rfl ?_); at_builtin; refine Kd.N_append_rows (Kd.slice 23 k23) (w0 := w) w.heap.size rfl (.tmp 31) (.tmp 32) 34 26 (.slice none 0 0) 24 rfl Tryd.underlying34 info26 rfl (by decide) (by omega) _ fl lj Aj _ cj (fun k_ => (P0_ k_ ∨ w.heap.size ≤ k_)) (fun k_ => P0_ k_ ∧ k_ < w.heap.size) rfl rfl HV.out HC2.out (fun k_ hk => ⟨.inl hk.1, fun he => by have := Kd.N_base HV.out k_ he.symm; omega⟩) (fun k_ hk => .inr (Nat.le_trans HB.out.size hk)) HB.out HB.out.size (by have h1 := HPL.out; have h2 := HT.out; rw [HP.out, List.length_append] at h1; omega) ?_; intro v1 w1 hr hb hg hat; have R1 := Lib.hid hr; have B1 := Lib.hid hb; clear hr hb hg hat))
            go_roundg k1
            case measure => omega
            case rel => exact ⟨j + 1, rfl, Lib.hid (by have := HJ.out; omega), Lib.hid (by rw [HP.out]; exact R1.out), B1⟩
          | zero =>
            obtain rfl : j = l0.length := by have := HJ.out; omega
            have b1 : decide ((l0.length : Int) < (l0.length : Int)) = false := decide_eq_false (by omega)
            have b1' : decide (l0.length < l0.length) = false := decide_eq_false (by omega)
            have hv := HV.out
            rw [List.take_length] at hv
            have HV2 := Lib.hid hv
            clear hv
            go_wp2_with (fail)
            go_ret
            exact ⟨_, rfl, HV2.out, HB.out⟩
  · rw [if_neg h1] at h; cases h

end Go.Proofs.YtnjiniegpjfemaaDoor.X
