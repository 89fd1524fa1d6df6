-- and more
-- shortened
-- thinned
-- halved indents
-- printed by this session's xprint.py: out of the translation, by the kit's print with additions; Lean checks it
import Derived.Test.YtmjigfoldeekmaaXE
import Derived.Test.YtmjigfoldeekmaaWShare
import Derived.Test.YtmjigfoldeekmaaWRepsOne
import Derived.Test.YtmjigfoldeekmaaX0
import Derived.Test.YtmjigfoldeekmaaX5
import Derived.Test.YtmjigfoldeekmaaXA
namespace Go.Proofs.Ytmjigfoldeekmaa.X
open Go.RowKit Go.Proofs.YtmjigfoldeekmaaW.PrintWords Go.Proofs.YtmjigfoldeekmaaW.PrintLast Go.Proofs.YtmjigfoldeekmaaW.PrintMore
attribute [local go_sem] max2_int min2_int max_two min_two max_three min_three max_four min_four isSome_setCell binOp_gtr_str binOp_leq_str binOp_geq_str   -- for this text's walks alone
set_option linter.unusedVariables false
set_option linter.unusedSimpArgs false

/-! ### apparatus_names: function 42 -/
def apparatus_names.l0 : Nat → List ByteArray → List ByteArray → Int → Int → Option (Int)
 | 0, _, _, _, _ => none
 | k + 1, x0, x13, x14, x15 => if x15 < x14 then (if 0 ≤ x15 then (if x15 < (x13.length : Int) then ((token_IsName.f k (rdOf ByteArray.empty x13 x15)).bind fun t153 => (if t153 = true then (if x15 ≤ (x0.length : Int) then ((slices_Contains_string_string.f k (x0.take (x15 : Int).toNat) (rdOf ByteArray.empty x13 x15)).bind fun t155 => (if t155 = true then (some 5) else (apparatus_names.l0 k x0 x13 x14 (wrap64 (x15 + 1))))) else (none)) else (some 2))) else (none)) else (none)) else (some 0)
def apparatus_names.f (k : Nat) (l0 : List ByteArray) : Option (Int) := if (l0.length : Int) = 0 then (some 7) else (if (l0.length : Int) > 8 then (some 3) else (apparatus_names.l0 k l0 l0 (l0.length : Int) 0))
theorem apparatus_names.mono_l : ∀ k, (∀ y0 y1 y2 y3, LeO (apparatus_names.l0 k y0 y1 y2 y3) (apparatus_names.l0 (k + 1) y0 y1 y2 y3))
 | 0 => fun _ _ _ _ r h => by simp [apparatus_names.l0] at h
 | k + 1 => by
  have ih0 := apparatus_names.mono_l k
  ·intro y0 y1 y2 y3
   unfold apparatus_names.l0
   repeat' first
   | (with_reducible exact ih0 _ _ _ _)
   | (with_reducible exact slices_Contains_string_string.mono _ _ _)
   | (with_reducible exact token_IsName.mono _ _)
   | (with_reducible exact LeO.refl _)
   | (with_reducible exact LeO.none _)
   | (with_reducible refine LeO.ite ?_ ?_)
   | (with_reducible refine LeO.bind ?_ (fun _ => ?_))
   | exact ih0 _ _ _ _
   | exact slices_Contains_string_string.mono _ _ _
   | exact token_IsName.mono _ _
   | exact LeO.none _
   | refine LeO.ite ?_ ?_
   | refine LeO.bind ?_ (fun _ => ?_)
theorem apparatus_names.mono : ∀ a0 k, LeO (apparatus_names.f k a0) (apparatus_names.f (k + 1) a0) := by
 intro a0 k
 have ih0 := apparatus_names.mono_l k
 unfold apparatus_names.f
 repeat' first
   | (with_reducible exact ih0 _ _ _ _)
   | (with_reducible exact slices_Contains_string_string.mono _ _ _)
   | (with_reducible exact token_IsName.mono _ _)
   | (with_reducible exact LeO.refl _)
   | (with_reducible exact LeO.none _)
   | (with_reducible refine LeO.ite ?_ ?_)
   | (with_reducible refine LeO.bind ?_ (fun _ => ?_))
   | exact ih0 _ _ _ _
   | exact slices_Contains_string_string.mono _ _ _
   | exact token_IsName.mono _ _
   | exact LeO.none _
   | refine LeO.ite ?_ ?_
   | refine LeO.bind ?_ (fun _ => ?_)
set_option maxHeartbeats 8000000 in
set_option maxRecDepth 100000 in
theorem apparatus_names.calls (k : Nat) (A0 : Option Addr) (c0 : Nat) (l0 : List ByteArray) (r : Int) (w : World) (hr0 : Kd.C Kd.string w A0 l0.length l0) (hc0 : l0.length ≤ c0) (h : apparatus_names.f k l0 = some r) :
  Calls Try.prog 42 #[.slice A0 l0.length c0] w fun e w' => e = .returned (.int .i64 r) ∧ Drawn0 w w' := by
 have HR0 := Aside0.mk hr0
 have HC0 := Aside0.mk hc0
 clear hr0 hc0
 have H : (if (l0.length : Int) = 0 then (some 7) else (if (l0.length : Int) > 8 then (some 3) else (apparatus_names.l0 k l0 l0 (l0.length : Int) 0))) = some r := h
 clear h
 by_cases c2 : (l0.length : Int) = 0
 ·rw [if_pos c2] at H
  have c2b0 : ((l0.length : Int) == 0) = true := beq_iff_eq.mpr c2
  have c2b1 : ((l0.length : Int) != 0) = false := bne_eq_false_iff_eq.mpr c2
  clear c2
  obtain rfl := Option.some.inj H
  go_enter Try.func42, Try.ntmps42
  go_wp2
  go_ret
  exact ⟨eV, dR⟩
 ·rw [if_neg c2] at H
  have c2b0 : ((l0.length : Int) == 0) = false := beq_eq_false_iff_ne.mpr c2
  have c2b1 : ((l0.length : Int) != 0) = true := bne_iff_ne.mpr c2
  have c2b2 : ¬ (l0 = []) := fun h_ => c2 (by rw [h_]; rfl)
  by_cases c3 : (l0.length : Int) > 8
  ·rw [if_pos c3] at H
   have c3b0 : decide (8 < (l0.length : Int)) = true := decide_eq_true c3
   have c3b1 : decide (8 < l0.length) = true := decide_eq_true (by omega)
   clear c3
   obtain rfl := Option.some.inj H
   go_enter Try.func42, Try.ntmps42
   go_wp2
   go_ret
   exact ⟨eV, dR⟩
  ·rw [if_neg c3] at H
   have c3b0 : decide (8 < (l0.length : Int)) = false := decide_eq_false c3
   have c3b1 : decide (8 < l0.length) = false := decide_eq_false (by omega)
   clear c3
   have H' := Aside0.mk H
   clear H
   go_enter Try.func42, Try.ntmps42
   go_wp2
   go_loopg [15] k (fun kq v15 w' => ∃ (x15_1 : Int), v15 = .int .i64 x15_1 ∧ Aside0 (apparatus_names.l0 kq l0 l0 (l0.length : Int) x15_1 = some r) ∧ Aside0 (kq ≤ k) ∧ Drawn0 w w')
   case atStart => exact ⟨(0), eV, H', ⟨Nat.le_refl _⟩, dR⟩
   case round =>
    clear H'
    (try clear c2); (try clear c2b0); (try clear c2b1); (try clear c2b2); (try clear p2); (try clear c3); (try clear c3b0); (try clear c3b1)
    obtain ⟨x15_1, rfl, HA, HK1, ⟨m1, rfl⟩⟩ := hrel
    cases gk with
    | zero => exact absurd HA.out (by simp [apparatus_names.l0])
    | succ k1 =>
     have H := HA.out
     clear HA
     simp only [apparatus_names.l0] at H
     by_cases c4 : x15_1 < (l0.length : Int)
     ·rw [if_pos c4] at H
      have c4b0 : decide (x15_1 < (l0.length : Int)) = true := decide_eq_true c4
      clear c4
      by_cases c5 : 0 ≤ x15_1
      ·rw [if_pos c5] at H
       have c5b0 : decide (0 ≤ x15_1) = true := decide_eq_true c5
       clear c5
       by_cases c6 : x15_1 < (l0.length : Int)
       ·rw [if_pos c6] at H
        have c6b0 : decide (x15_1 < (l0.length : Int)) = true := decide_eq_true c6
        clear c6
        replace H := Option.bind_eq_some_iff.mp H
        obtain ⟨t153, A70, H⟩ := H
        try dsimp only at H
        have A7 := Aside0.mk A70
        clear A70
        by_cases c8 : t153 = true
        ·subst c8
         have H1 : (if x15_1 ≤ (l0.length : Int) then ((slices_Contains_string_string.f k1 (l0.take (x15_1 : Int).toNat) (rdOf ByteArray.empty l0 x15_1)).bind fun t155 => (if t155 = true then (some 5) else (apparatus_names.l0 k1 l0 l0 (l0.length : Int) (wrap64 (x15_1 + 1))))) else (none)) = some r := by rw [if_pos rfl] at H; exact H
         clear H
         have H := H1
         clear H1
         have c9b0 := eq_true (of_decide_eq_true (by first | (with_reducible assumption) | assumption) : 0 ≤ x15_1)
         by_cases c10 : x15_1 ≤ (l0.length : Int)
         ·rw [if_pos c10] at H
          have c10b0 := eq_true c10
          have c10b1 : decide (x15_1 ≤ (l0.length : Int)) = true := decide_eq_true c10
          clear c10
          replace H := Option.bind_eq_some_iff.mp H
          obtain ⟨t155, A110, H⟩ := H
          try dsimp only at H
          have A11 := Aside0.mk A110
          clear A110
          by_cases c12 : t155 = true
          ·subst c12
           have H1 : (some 5) = some r := by rw [if_pos rfl] at H; exact H
           clear H
           have H := H1
           clear H1
           obtain rfl := Option.some.inj H
           have p152 := oD (0 ≤ (x15_1 : Int))
           have q152 := oD (x15_1 < (l0.length : Int))
           obtain ⟨ad152, e152, hx152_0⟩ := Kd.at_string HR0.out x15_1 p152 q152
           cases e152
           replace p152 := eq_true p152
           replace q152 := eq_true q152
           go_wp2_with (first | ((with_reducible refine gate_callee (f := 64) rfl ?_); refine gL_ (some 21) Try.func64 #[.string (rdOf ByteArray.empty l0 x15_1)] ?_; (with_reducible refine (token_IsName.calls k1 (rdOf ByteArray.empty l0 x15_1) true _ A7.out).mono ?_); rintro e w' ⟨rfl, ⟨nd, rfl⟩⟩; refine ⟨_, rfl, ?_⟩; obtain ⟨i013, hi013, _, hsz13, _⟩ := info_parts info9; obtain ⟨hcut13, hA13, hC13⟩ := print_take_of (P := Try.prog) Value.string (⟨#[]⟩ : ByteArray) 34 9 .i64 Try.underlying34 hi013 hsz13 (some ad152) c0 l0 x15_1 (of_decide_eq_true (by first | (with_reducible assumption) | assumption)) (of_decide_eq_true (by first | (with_reducible assumption) | assumption)) HC0.out; have HR154 := Aside0.mk (Kd.C_of_reads (h1 := fun _ => rfl) (hA13 _ (Kd.reads_of_C HR0.out))); have HC154 := Aside0.mk hC13; clear hA13 hC13 hi013 hsz13) | ((with_reducible refine gate_callee (f := 65) rfl ?_); refine goesL_ (some 27) rfl rfl Try.func65 (by kernel_rfl) rfl #[.slice (some ad152) (l0.take (x15_1 : Int).toNat).length c0, .string (rdOf ByteArray.empty l0 x15_1)] rfl (by (try simp only [List.map_toArray, List.map_cons, List.map_nil]); first | done | (rw [show (l0.take (x15_1 : Int).toNat).length = x15_1.toNat from (by rw [List.length_take]; have h_ := oD ((x15_1 : Int) ≤ (l0.length : Int)); omega)] <;> rfl) | rfl | (simp only [List.length_drop, List.length_take]; rfl)) ?_; (with_reducible refine (slices_Contains_string_string.calls k1 _ _ (l0.take (x15_1 : Int).toNat) (rdOf ByteArray.empty l0 x15_1) true _ ?side1 ?side2 A11.out).mono ?_); (case side1 => repeat (first | exact HR154.out | (with_reducible refine Kd.C_alloc ?_ _) | (with_reducible refine Kd.C_drewN ?_ _) | (with_reducible refine Kd.C_drew ?_))); (case side2 => exact HC154.out); rintro e w' ⟨rfl, ⟨nd, rfl⟩⟩; refine ⟨_, rfl, ?_⟩))
           go_ret
           exact ⟨eV, dR⟩
          ·replace c12 := Bool.eq_false_iff.mpr c12
           subst c12
           have H1 : (apparatus_names.l0 k1 l0 l0 (l0.length : Int) (wrap64 (x15_1 + 1))) = some r := by rw [if_neg (show ¬ (false = true) by decide)] at H; exact H
           clear H
           have H := H1
           clear H1
           have H' := Aside0.mk H
           clear H
           have p152 := oD (0 ≤ (x15_1 : Int))
           have q152 := oD (x15_1 < (l0.length : Int))
           obtain ⟨ad152, e152, hx152_0⟩ := Kd.at_string HR0.out x15_1 p152 q152
           cases e152
           replace p152 := eq_true p152
           replace q152 := eq_true q152
           go_wp2_with (first | ((with_reducible refine gate_callee (f := 64) rfl ?_); refine gL_ (some 21) Try.func64 #[.string (rdOf ByteArray.empty l0 x15_1)] ?_; (with_reducible refine (token_IsName.calls k1 (rdOf ByteArray.empty l0 x15_1) true _ A7.out).mono ?_); rintro e w' ⟨rfl, ⟨nd, rfl⟩⟩; refine ⟨_, rfl, ?_⟩; obtain ⟨i014, hi014, _, hsz14, _⟩ := info_parts info9; obtain ⟨hcut14, hA14, hC14⟩ := print_take_of (P := Try.prog) Value.string (⟨#[]⟩ : ByteArray) 34 9 .i64 Try.underlying34 hi014 hsz14 (some ad152) c0 l0 x15_1 (of_decide_eq_true (by first | (with_reducible assumption) | assumption)) (of_decide_eq_true (by first | (with_reducible assumption) | assumption)) HC0.out; have HR154 := Aside0.mk (Kd.C_of_reads (h1 := fun _ => rfl) (hA14 _ (Kd.reads_of_C HR0.out))); have HC154 := Aside0.mk hC14; clear hA14 hC14 hi014 hsz14) | ((with_reducible refine gate_callee (f := 65) rfl ?_); refine goesL_ (some 27) rfl rfl Try.func65 (by kernel_rfl) rfl #[.slice (some ad152) (l0.take (x15_1 : Int).toNat).length c0, .string (rdOf ByteArray.empty l0 x15_1)] rfl (by (try simp only [List.map_toArray, List.map_cons, List.map_nil]); first | done | (rw [show (l0.take (x15_1 : Int).toNat).length = x15_1.toNat from (by rw [List.length_take]; have h_ := oD ((x15_1 : Int) ≤ (l0.length : Int)); omega)] <;> rfl) | rfl | (simp only [List.length_drop, List.length_take]; rfl)) ?_; (with_reducible refine (slices_Contains_string_string.calls k1 _ _ (l0.take (x15_1 : Int).toNat) (rdOf ByteArray.empty l0 x15_1) false _ ?side1 ?side2 A11.out).mono ?_); (case side1 => repeat (first | exact HR154.out | (with_reducible refine Kd.C_alloc ?_ _) | (with_reducible refine Kd.C_drewN ?_ _) | (with_reducible refine Kd.C_drew ?_))); (case side2 => exact HC154.out); rintro e w' ⟨rfl, ⟨nd, rfl⟩⟩; refine ⟨_, rfl, ?_⟩))
           go_roundg k1
           case measure => have := HK1.out; omega
           case rel => exact ⟨(wrap64 (x15_1 + 1)), eV, H', ⟨by have := HK1.out; omega⟩, dR⟩
         ·rw [if_neg c10] at H
          exact absurd H (by simp)
        ·replace c8 := Bool.eq_false_iff.mpr c8
         subst c8
         have H1 : (some 2) = some r := by rw [if_neg (show ¬ (false = true) by decide)] at H; exact H
         clear H
         have H := H1
         clear H1
         obtain rfl := Option.some.inj H
         have p152 := oD (0 ≤ (x15_1 : Int))
         have q152 := oD (x15_1 < (l0.length : Int))
         obtain ⟨ad152, e152, hx152_0⟩ := Kd.at_string HR0.out x15_1 p152 q152
         cases e152
         replace p152 := eq_true p152
         replace q152 := eq_true q152
         go_wp2_with (first | ((with_reducible refine gate_callee (f := 64) rfl ?_); refine gL_ (some 21) Try.func64 #[.string (rdOf ByteArray.empty l0 x15_1)] ?_; (with_reducible refine (token_IsName.calls k1 (rdOf ByteArray.empty l0 x15_1) false _ A7.out).mono ?_); rintro e w' ⟨rfl, ⟨nd, rfl⟩⟩; refine ⟨_, rfl, ?_⟩))
         go_ret
         exact ⟨eV, dR⟩
       ·rw [if_neg c6] at H
        exact absurd H (by simp)
      ·rw [if_neg c5] at H
       exact absurd H (by simp)
     ·rw [if_neg c4] at H
      have c4b0 : decide (x15_1 < (l0.length : Int)) = false := decide_eq_false c4
      clear c4
      obtain rfl := Option.some.inj H
      go_wp2
      go_ret
      exact ⟨eV, dR⟩

-- NOT PRINTED: function 66 (slices_IndexFunc_string_string)

-- NOT PRINTED: function 43 (slices_ContainsFunc_string_string)

-- NOT PRINTED: function 44 (apparatus_Collate_1)

-- NOT PRINTED: function 67 (slices_Grow_string_string)

/-! ### slices_Concat_string_string: function 45 -/
-- slices.Grow of the nil slice
theorem slices_Concat_string_string.grow (m : Nat) (hm : m ≤ 1000000) (w0 w : World) (hB : Below w0.heap.size w0 w) :
  Calls Try.prog 67 #[.slice none 0 0, .int .i64 m] w fun e w' => ∃ v, e = .returned v ∧ Kd.R Kd.string 9 w' w0.heap.size (fun _ => True) v [] ∧ Below w0.heap.size w0 w' := by
 have HB := Lib.hid hB; have HM := Lib.hid hm
 clear hB
 rcases Nat.eq_zero_or_pos m with h0 | h0
 ·subst h0
  go_enter Try.func67, Try.ntmps67
  go_wp2_with (fail)
  go_ret
  exact ⟨_, rfl, Kd.R_nil _ _ _ _ _, HB.out⟩
 ·have b0 : decide (0 < (m : Int)) = true := decide_eq_true (by omega)
  have b1 : decide (0 < m) = true := decide_eq_true h0
  have b2 : decide ((m : Int) < 0) = false := decide_eq_false (by omega)
  have hw : wrap64 (m : Int) = (m : Int) := by unfold wrap64; omega
  have hw2 : IntKind.i64.wrap (m : Int) = (m : Int) := (i64_w _).trans hw
  clear hw
  obtain ⟨i9, hi9, _, hs9, _⟩ := info_parts info9
  have hcut0 := cut_to (P := Try.prog) 34 9 .i64 Try.underlying34 hi9 none 0 0 0 (by decide) (by decide) (by decide)
  go_enter Try.func67, Try.ntmps67
  go_wp2_with (first | ((with_reducible refine gate_builtin (b := .append) (xs := #[.tmp 20, .tmp 21]) rfl ?_); at_builtin; refine Kd.R_append_zeros Kd.string (w0 := w0) w0.heap.size rfl (.tmp 20) (.tmp 21) 34 3 9 (.string ⟨#[]⟩) 16 rfl Try.underlying34 Try.underlying3 info9 rfl (by decide) (by omega) (.slice none 0 0) [] (⟨#[]⟩ : ByteArray) (m : Int) (fun _ => True) rfl rfl rfl (fun _ _ => trivial) (Kd.R_nil _ _ _ _ _) (by omega) HB.out HB.out.size (by rw [Int.toNat_natCast]; have := HM.out; simp only [List.length_nil]; omega) ?_; intro v1 w1 hr hb hg hat; obtain ⟨A1, c1, rfl⟩ := Kd.R_slice hr; have hl := (Kd.R_reads' hr).2.1; have R1 := Lib.hid (Kd.R_take (m := 0) hr (Nat.zero_le _)); have B1 := Lib.hid hb; have hcut1 := cut_to (P := Try.prog) 34 9 .i64 Try.underlying34 hi9 A1 _ c1 0 (by decide) (by omega) hl; clear hr hb hg hat hl))
  go_ret
  exact ⟨_, rfl, R1.out, B1.out⟩
def slices_Concat_string_string.f (l0 : List (List ByteArray)) : Option (List ByteArray) := if l0.flatten.length ≤ 1000000 ∧ l0.length ≤ 1000000 then some l0.flatten else none
theorem slices_Concat_string_string.part (L : List (List ByteArray)) (i : Nat) (h : i < L.length) : (L.take (i + 1)).flatten = (L.take i).flatten ++ L.getD i [] := by
 rw [List.take_add_one, List.getElem?_eq_getElem h, List.flatten_append, List.getD_eq_getElem?_getD, List.getElem?_eq_getElem h]
 simp
theorem slices_Concat_string_string.part_le (L : List (List ByteArray)) (i : Nat) : (L.take i).flatten.length ≤ L.flatten.length := by
 have : L.flatten = (L.take i).flatten ++ (L.drop i).flatten := by rw [← List.flatten_append, List.take_append_drop]
 rw [this, List.length_append]; omega
set_option maxHeartbeats 4000000 in
set_option maxRecDepth 100000 in
theorem slices_Concat_string_string.calls (A0 : Option Addr) (c0 : Nat) (l0 : List (List ByteArray)) (r : List ByteArray) (w : World) (hr0 : Kd.C (Kd.slice 9 Kd.string) w A0 l0.length l0) (hc0 : l0.length ≤ c0) (h : slices_Concat_string_string.f l0 = some r) :
  Calls Try.prog 45 #[.slice A0 l0.length c0] w fun e w' => ∃ v0_ : Value, e = .returned (v0_) ∧ Kd.R Kd.string 9 w' w.heap.size (fun _ => True) v0_ r ∧ Below w.heap.size w w' := by
 unfold slices_Concat_string_string.f at h
 by_cases h1 : l0.flatten.length ≤ 1000000 ∧ l0.length ≤ 1000000
 ·rw [if_pos h1] at h
  obtain rfl := Option.some.inj h
  have HR := Lib.hid hr0; have HC := Lib.hid hc0; have HT := Lib.hid h1.1; have HL := Lib.hid h1.2
  clear h hr0 hc0 h1
  have HB := Lib.hid (Below.refl w.heap.size w)
  go_enter Try.func45, Try.ntmps45
  go_wp2_with (fail)
  go_loopg [3, 11] l0.length (fun kq v3 v11 wr => ∃ (j : Nat), v3 = .int .i64 ((l0.take j).flatten.length : Nat) ∧ v11 = .int .i64 j ∧ Hid (j + kq = l0.length) ∧ Hid (Below w.heap.size w wr))
  case atStart => exact ⟨0, (by simp), rfl, Lib.hid (by omega), HB⟩
  case round =>
   clear HB
   obtain ⟨j, rfl, rfl, HJ, HB⟩ := hrel
   cases gk with
   | succ k1 =>
    have c1 : j < l0.length := by have := HJ.out; omega
    have b1 : decide ((j : Int) < (l0.length : Int)) = true := decide_eq_true (by omega)
    have b1' : decide (j < l0.length) = true := decide_eq_true c1
    have hp := slices_Concat_string_string.part l0 j c1
    have hple := slices_Concat_string_string.part_le l0 (j + 1)
    have hsum : ((l0.take (j + 1)).flatten.length : Int) = ((l0.take j).flatten.length : Int) + ((l0.getD j []).length : Int) := by rw [hp, List.length_append]; omega
    have HS := Lib.hid hsum; have HPL := Lib.hid hple
    obtain ⟨ad, ce, rfl, hcl, hK, hcc⟩ := Kd.C_get (Kd.C_below HR.out HB.out) ([] : List ByteArray) (j : Int) (by omega) (by omega)
    obtain ⟨Aj, cj, rfl, hlj, hCj⟩ := hK
    have hx0 := hcc 0 _ rfl
    rw [show (Kd.slice 9 Kd.string).sz = 1 from rfl, Nat.mul_one, Nat.add_zero, Int.toNat_natCast] at hx0
    rw [Int.toNat_natCast] at hCj
    have q0 : (0 ≤ (j : Int)) = True := eq_true (by omega)
    have q1 : ((j : Int) < (l0.length : Int)) = True := eq_true (by omega)
    have q2 : (j < l0.length) = True := eq_true c1
    clear hp hple hsum hcc hcl hlj hCj
    generalize hg : l0.getD j [] = lj at hx0 HS
    generalize hT : ((l0.take j).flatten.length : Nat) = T at HS ⊢
    have hw : wrap64 ((T : Int) + (lj.length : Int)) = (((l0.take (j + 1)).flatten.length : Nat) : Int) := by have := HS.out; have := HPL.out; have := HT.out; unfold wrap64; omega
    have hw2 : IntKind.i64.wrap ((T : Int) + (lj.length : Int)) = (((l0.take (j + 1)).flatten.length : Nat) : Int) := (i64_w _).trans hw
    have hn : decide ((((l0.take (j + 1)).flatten.length : Nat) : Int) < 0) = false := decide_eq_false (by omega)
    have hj1 : wrap64 ((j : Int) + 1) = (j : Int) + 1 := by have := HL.out; unfold wrap64; omega
    have hj2 : IntKind.i64.wrap ((j : Int) + 1) = (j : Int) + 1 := (i64_w _).trans hj1
    clear hw hj1 hg hT
    obtain ⟨T1, hT1⟩ : ∃ T1 : Nat, (l0.take (j + 1)).flatten.length = T1 := ⟨_, rfl⟩
    rw [hT1] at hw2 hn
    have HT1 := Lib.hid hT1
    clear hT1
    go_wp2_with (fail)
    go_roundg k1
    case measure => omega
    case rel => exact ⟨j + 1, by rw [HT1.out], rfl, Lib.hid (by have := HJ.out; omega), HB⟩
   | zero =>
    obtain rfl : j = l0.length := by have := HJ.out; omega
    have b1 : decide ((l0.length : Int) < (l0.length : Int)) = false := decide_eq_false (by omega)
    have b1' : decide (l0.length < l0.length) = false := decide_eq_false (by omega)
    rw [List.take_length]
    clear HJ
    obtain ⟨T, hT0⟩ : ∃ T : Nat, l0.flatten.length = T := ⟨_, rfl⟩
    have HT0 := Lib.hid hT0
    rw [hT0]
    have HT2 := Lib.hid (show T ≤ 1000000 from hT0 ▸ HT.out)
    clear hT0
    go_wp2_with (fail)
    refine (slices_Concat_string_string.grow T HT2.out w _ HB.out).mono ?_
    rintro e w2 ⟨v, rfl, hv, hb⟩
    have HV := Lib.hid hv; have B2 := Lib.hid hb
    clear hv hb HB
    go_wp2_with (fail)
    go_loopg [6, 27] l0.length (fun kq v6 v27 wr => ∃ (j : Nat), v27 = .int .i64 j ∧ Hid (j + kq = l0.length) ∧ Hid (Kd.R Kd.string 9 wr w.heap.size (fun _ => True) v6 (l0.take j).flatten) ∧ Hid (Below w.heap.size w wr))
    case atStart => exact ⟨0, rfl, Lib.hid (by omega), HV, B2⟩
    case round =>
     clear B2 HV b1 b1'
     obtain ⟨j, rfl, HJ, HV, HB⟩ := hrel
     cases gk with
     | succ k1 =>
      have c1 : j < l0.length := by have := HJ.out; omega
      have b1 : decide ((j : Int) < (l0.length : Int)) = true := decide_eq_true (by omega)
      have b1' : decide (j < l0.length) = true := decide_eq_true c1
      have hp := slices_Concat_string_string.part l0 j c1
      have HPL := Lib.hid (slices_Concat_string_string.part_le l0 (j + 1))
      obtain ⟨ad, ce, rfl, hcl, hK, hcc⟩ := Kd.C_get (Kd.C_below HR.out HB.out) ([] : List ByteArray) (j : Int) (by omega) (by omega)
      obtain ⟨Aj, cj, rfl, hlj, hCj⟩ := hK
      have hx0 := hcc 0 _ rfl
      rw [show (Kd.slice 9 Kd.string).sz = 1 from rfl, Nat.mul_one, Nat.add_zero, Int.toNat_natCast] at hx0
      rw [Int.toNat_natCast] at hCj
      have q0 : (0 ≤ (j : Int)) = True := eq_true (by omega)
      have q1 : ((j : Int) < (l0.length : Int)) = True := eq_true (by omega)
      have q2 : (j < l0.length) = True := eq_true c1
      have hj1 : wrap64 ((j : Int) + 1) = (j : Int) + 1 := by have := HL.out; unfold wrap64; omega
      have hj2 : IntKind.i64.wrap ((j : Int) + 1) = (j : Int) + 1 := (i64_w _).trans hj1
      have HC2 := Lib.hid hCj; have HP := Lib.hid hp
      clear hcc hcl hlj hj1 hCj hp
      generalize l0.getD j [] = lj at hx0 HC2 HP
      generalize (l0.take j).flatten = fl at HV HP
      obtain ⟨A6, c6, rfl⟩ := Kd.R_slice HV.out
      go_wp2_with (first | ((with_reducible refine gate_builtin (b := .append) (xs := #[.tmp 31, .tmp 32]) rfl ?_); at_builtin; refine Kd.R_append_rows Kd.string (w0 := w) w.heap.size rfl (.tmp 31) (.tmp 32) 34 9 (.string ⟨#[]⟩) 16 rfl Try.underlying34 info9 rfl (by decide) (by omega) _ fl lj Aj _ cj (fun _ => True) (fun _ => False) rfl rfl HV.out HC2.out (fun _ _ h => h) (fun _ h => h.elim) (fun _ _ => trivial) HB.out HB.out.size (by have h1 := HPL.out; have h2 := HT.out; rw [HP.out, List.length_append] at h1; omega) ?_; intro v1 w1 hr hb hg hat; have R1 := Lib.hid hr; have B1 := Lib.hid hb; clear hr hb hg hat))
      go_roundg k1
      case measure => omega
      case rel => exact ⟨j + 1, rfl, Lib.hid (by have := HJ.out; omega), Lib.hid (by rw [HP.out]; exact R1.out), B1⟩
     | zero =>
      obtain rfl : j = l0.length := by have := HJ.out; omega
      have b1 : decide ((l0.length : Int) < (l0.length : Int)) = false := decide_eq_false (by omega)
      have b1' : decide (l0.length < l0.length) = false := decide_eq_false (by omega)
      have hv := HV.out
      rw [List.take_length] at hv
      have HV2 := Lib.hid hv
      clear hv
      go_wp2_with (fail)
      go_ret
      exact ⟨_, rfl, HV2.out, HB.out⟩
 ·rw [if_neg h1] at h; cases h

-- NOT PRINTED: function 47 (apparatus_put)

end Go.Proofs.Ytmjigfoldeekmaa.X
