-- printed by this session's xprint.py: out of the translation, by the kit's print with additions; Lean checks it
import Derived.Test.YtdaooagikacboaaDoorWN
import Derived.Test.YtdaooagikacboaaDoorWShare
import Derived.Test.YtdaooagikacboaaDoorWRepsOne
import Derived.Test.YtdaooagikacboaaDoorWGuard
import Derived.Test.YtdaooagikacboaaDoorX0
import Derived.Test.YtdaooagikacboaaDoorX1
import Derived.Test.YtdaooagikacboaaDoorX2
import Derived.Test.YtdaooagikacboaaDoorX4
import Derived.Test.YtdaooagikacboaaDoorX5
namespace Go.Proofs.YtdaooagikacboaaDoor.X
open Go.RowKit Go.Proofs.YtdaooagikacboaaDoorW.PrintWords Go.Proofs.YtdaooagikacboaaDoorW.PrintLast Go.Proofs.YtdaooagikacboaaDoorW.PrintMore
attribute [local go_sem] max2_int min2_int max_two min_two max_three min_three max_four min_four isSome_setCell binOp_gtr_str binOp_leq_str binOp_geq_str   -- for this text's walks alone
set_option linter.unusedVariables false
set_option linter.unusedSimpArgs false

/-! ### slices_Equal_int_int: function 16 -/
def slices_Equal_int_int.l0 : Nat → List Int → List Int → Int → Int → Option (Bool)
  | 0, _, _, _, _ => none
  | k + 1, x0, x1, x12, x13 => if x13 < x12 then (if 0 ≤ x13 then (if x13 < (x0.length : Int) then (if x13 < (x1.length : Int) then (if (rd x0 x13) = (rd x1 x13) then (slices_Equal_int_int.l0 k x0 x1 x12 (wrap64 (x13 + 1))) else (some false)) else (none)) else (none)) else (none)) else (some true)
def slices_Equal_int_int.f (k : Nat) (l0 : List Int) (l1 : List Int) : Option (Bool) := if (l0.length : Int) = (l1.length : Int) then (slices_Equal_int_int.l0 k l0 l1 (l0.length : Int) 0) else (some false)
theorem slices_Equal_int_int.mono_l : ∀ k, (∀ y0 y1 y2 y3, LeO (slices_Equal_int_int.l0 k y0 y1 y2 y3) (slices_Equal_int_int.l0 (k + 1) y0 y1 y2 y3))
  | 0 => fun _ _ _ _ r h => by simp [slices_Equal_int_int.l0] at h
  | k + 1 => by
    have ih0 := slices_Equal_int_int.mono_l k
    · intro y0 y1 y2 y3
      unfold slices_Equal_int_int.l0
      repeat' first
      | (with_reducible exact ih0 _ _ _ _)
      | (with_reducible exact LeO.refl _)
      | (with_reducible exact LeO.none _)
      | (with_reducible refine LeO.ite ?_ ?_)
      | (with_reducible refine LeO.bind ?_ (fun _ => ?_))
      | exact ih0 _ _ _ _
      | exact LeO.none _
      | refine LeO.ite ?_ ?_
      | refine LeO.bind ?_ (fun _ => ?_)
theorem slices_Equal_int_int.mono : ∀ a0 a1 k, LeO (slices_Equal_int_int.f k a0 a1) (slices_Equal_int_int.f (k + 1) a0 a1) := by
  intro a0 a1 k
  have ih0 := slices_Equal_int_int.mono_l k
  unfold slices_Equal_int_int.f
  repeat' first
      | (with_reducible exact ih0 _ _ _ _)
      | (with_reducible exact LeO.refl _)
      | (with_reducible exact LeO.none _)
      | (with_reducible refine LeO.ite ?_ ?_)
      | (with_reducible refine LeO.bind ?_ (fun _ => ?_))
      | exact ih0 _ _ _ _
      | exact LeO.none _
      | refine LeO.ite ?_ ?_
      | refine LeO.bind ?_ (fun _ => ?_)
set_option maxHeartbeats 8000000 in
set_option maxRecDepth 100000 in
theorem slices_Equal_int_int.calls (k : Nat) (A0 : Option Addr) (c0 : Nat) (l0 : List Int) (A1 : Option Addr) (c1 : Nat) (l1 : List Int) (r : Bool) (w : World) (hr0 : Kd.C (Kd.int .i64) w A0 l0.length l0) (hc0 : l0.length ≤ c0) (hr1 : Kd.C (Kd.int .i64) w A1 l1.length l1) (hc1 : l1.length ≤ c1) (h : slices_Equal_int_int.f k l0 l1 = some r) :
    Calls Tryd.prog 16 #[.slice A0 l0.length c0, .slice A1 l1.length c1] w fun e w' => e = .returned (.bool r) ∧ Drawn0 w w' := by
  have HR0 := Aside0.mk hr0
  have HC0 := Aside0.mk hc0
  clear hr0 hc0
  have HR1 := Aside0.mk hr1
  have HC1 := Aside0.mk hc1
  clear hr1 hc1
  have H : (if (l0.length : Int) = (l1.length : Int) then (slices_Equal_int_int.l0 k l0 l1 (l0.length : Int) 0) else (some false)) = some r := h
  clear h
  by_cases c3 : (l0.length : Int) = (l1.length : Int)
  · rw [if_pos c3] at H
    have c3b0 : ((l0.length : Int) == (l1.length : Int)) = true := beq_iff_eq.mpr c3
    have c3b1 : ((l0.length : Int) != (l1.length : Int)) = false := bne_eq_false_iff_eq.mpr c3
    have c3b2 : (l0.length == l1.length) = true := by first | simpa using c3 | (simp at c3 ⊢; omega)
    clear c3
    have H' := Aside0.mk H
    clear H
    go_enter Tryd.func16, Tryd.ntmps16
    go_wp2
    repeat (go_quiet (fail); try go_wp2)
    go_loopg [13] k (fun kq v13 w' => ∃ (x13_1 : Int), v13 = .int .i64 x13_1 ∧ Aside0 (slices_Equal_int_int.l0 kq l0 l1 (l0.length : Int) x13_1 = some r) ∧ Aside0 (kq ≤ k) ∧ Drawn0 w w')
    case atStart => exact ⟨(0), (by first | rfl | (simp; done) | (simp [*]; done)), H', ⟨Nat.le_refl _⟩, by repeat (first | exact Drawn0.refl _ | apply Drawn0.step)⟩
    case round =>
      clear H'
      try clear c1
      try clear p2
      try clear c3
      try clear c3b0
      try clear c3b1
      try clear c3b2
      obtain ⟨x13_1, rfl, HA, HK1, ⟨m1, rfl⟩⟩ := hrel
      cases gk with
      | zero => exact absurd HA.out (by simp [slices_Equal_int_int.l0])
      | succ k1 =>
        have H := HA.out
        clear HA
        simp only [slices_Equal_int_int.l0] at H
        by_cases c4 : x13_1 < (l0.length : Int)
        · rw [if_pos c4] at H
          have c4b0 : decide (x13_1 < (l0.length : Int)) = true := decide_eq_true c4
          clear c4
          by_cases c5 : 0 ≤ x13_1
          · rw [if_pos c5] at H
            have c5b0 : decide (0 ≤ x13_1) = true := decide_eq_true c5
            clear c5
            by_cases c6 : x13_1 < (l0.length : Int)
            · rw [if_pos c6] at H
              have c6b0 : decide (x13_1 < (l0.length : Int)) = true := decide_eq_true c6
              clear c6
              by_cases c7 : x13_1 < (l1.length : Int)
              · rw [if_pos c7] at H
                have c7b0 : decide (x13_1 < (l1.length : Int)) = true := decide_eq_true c7
                clear c7
                by_cases c8 : (rd l0 x13_1) = (rd l1 x13_1)
                · rw [if_pos c8] at H
                  have c8b0 : ((rd l0 x13_1) == (rd l1 x13_1)) = true := beq_iff_eq.mpr c8
                  have c8b1 : ((rd l0 x13_1) != (rd l1 x13_1)) = false := bne_eq_false_iff_eq.mpr c8
                  clear c8
                  have H' := Aside0.mk H
                  clear H
                  have p183 : 0 ≤ (x13_1 : Int) := of_decide_eq_true (by first | (with_reducible assumption) | assumption)
                  have q183 : x13_1 < (l0.length : Int) := of_decide_eq_true (by first | (with_reducible assumption) | assumption)
                  obtain ⟨ad183, e183, hx183_0⟩ := Kd.at_int HR0.out x13_1 p183 q183
                  cases e183
                  replace p183 := eq_true p183
                  replace q183 := eq_true q183
                  have p184 : 0 ≤ (x13_1 : Int) := of_decide_eq_true (by first | (with_reducible assumption) | assumption)
                  have q184 : x13_1 < (l1.length : Int) := of_decide_eq_true (by first | (with_reducible assumption) | assumption)
                  obtain ⟨ad184, e184, hx184_0⟩ := Kd.at_int HR1.out x13_1 p184 q184
                  cases e184
                  replace p184 := eq_true p184
                  replace q184 := eq_true q184
                  go_wp2
                  repeat (go_quiet (fail); try go_wp2)
                  go_roundg k1
                  case measure => have := HK1.out; omega
                  case rel => exact ⟨(wrap64 (x13_1 + 1)), (by first | rfl | (simp; done) | (simp [*]; done)), H', ⟨by have := HK1.out; omega⟩, by repeat (first | exact Drawn0.refl _ | apply Drawn0.step)⟩
                · rw [if_neg c8] at H
                  have c8b0 : ((rd l0 x13_1) == (rd l1 x13_1)) = false := beq_eq_false_iff_ne.mpr c8
                  have c8b1 : ((rd l0 x13_1) != (rd l1 x13_1)) = true := bne_iff_ne.mpr c8
                  obtain rfl := Option.some.inj H
                  have p183 : 0 ≤ (x13_1 : Int) := of_decide_eq_true (by first | (with_reducible assumption) | assumption)
                  have q183 : x13_1 < (l0.length : Int) := of_decide_eq_true (by first | (with_reducible assumption) | assumption)
                  obtain ⟨ad183, e183, hx183_0⟩ := Kd.at_int HR0.out x13_1 p183 q183
                  cases e183
                  replace p183 := eq_true p183
                  replace q183 := eq_true q183
                  have p184 : 0 ≤ (x13_1 : Int) := of_decide_eq_true (by first | (with_reducible assumption) | assumption)
                  have q184 : x13_1 < (l1.length : Int) := of_decide_eq_true (by first | (with_reducible assumption) | assumption)
                  obtain ⟨ad184, e184, hx184_0⟩ := Kd.at_int HR1.out x13_1 p184 q184
                  cases e184
                  replace p184 := eq_true p184
                  replace q184 := eq_true q184
                  go_wp2
                  repeat (go_quiet (fail); try go_wp2)
                  go_ret
                  exact ⟨by first | rfl | (simp; done) | (simp [*]; done), by repeat (first | exact Drawn0.refl _ | apply Drawn0.step)⟩
              · rw [if_neg c7] at H
                exact absurd H (by simp)
            · rw [if_neg c6] at H
              exact absurd H (by simp)
          · rw [if_neg c5] at H
            exact absurd H (by simp)
        · rw [if_neg c4] at H
          have c4b0 : decide (x13_1 < (l0.length : Int)) = false := decide_eq_false c4
          clear c4
          obtain rfl := Option.some.inj H
          go_wp2
          repeat (go_quiet (fail); try go_wp2)
          go_ret
          exact ⟨by first | rfl | (simp; done) | (simp [*]; done), by repeat (first | exact Drawn0.refl _ | apply Drawn0.step)⟩
  · rw [if_neg c3] at H
    have c3b0 : ((l0.length : Int) == (l1.length : Int)) = false := beq_eq_false_iff_ne.mpr c3
    have c3b1 : ((l0.length : Int) != (l1.length : Int)) = true := bne_iff_ne.mpr c3
    have c3b2 : (l0.length == l1.length) = false := by first | simpa using c3 | (simp at c3 ⊢; omega)
    obtain rfl := Option.some.inj H
    go_enter Tryd.func16, Tryd.ntmps16
    go_wp2
    repeat (go_quiet (fail); try go_wp2)
    go_ret
    exact ⟨by first | rfl | (simp; done) | (simp [*]; done), by repeat (first | exact Drawn0.refl _ | apply Drawn0.step)⟩

/-! ### ancepslaw54_awake: function 5 -/
def ancepslaw54_awake.g (k : Nat)  : Option (Bool) := (some (([(⟨#[97, 114, 109, 97]⟩ : ByteArray), (⟨#[97, 114, 118, 97]⟩ : ByteArray), (⟨#[99, 97, 110, 111]⟩ : ByteArray)] : List ByteArray) : List ByteArray)).bind fun y185 => ((wordlist_Next.f k y185 (⟨#[98]⟩ : ByteArray) (⟨#[42]⟩ : ByteArray)).bind fun bt189 => ((wordlist_Find.f k y185 (⟨#[97, 114, 63, 97]⟩ : ByteArray) 0 4).bind fun bt191 => ((wordlist_Find.f k y185 (⟨#[63, 97, 42]⟩ : ByteArray) 0 4).bind fun bt195 => ((wordlist_Tree.f k y185).bind fun bt199 => (if bt189.2 = 0 then (if bt189.1.toList = ([99, 97, 110, 111] : List UInt8) then (if bt191.2 = 0 then ((slices_Equal_string_string.f k bt191.1 (([(⟨#[97, 114, 109, 97]⟩ : ByteArray), (⟨#[97, 114, 118, 97]⟩ : ByteArray)] : List ByteArray))).bind fun t206 => (if t206 = true then (if bt195.2 = 0 then ((slices_Equal_string_string.f k bt195.1 (([(⟨#[99, 97, 110, 111]⟩ : ByteArray)] : List ByteArray))).bind fun t210 => (if t210 = true then (if bt199.2 = 0 then (if (bt199.1.length : Int) = 11 then (if 0 < (bt199.1.length : Int) then ((slices_Equal_int_int.f k ((rd_T44 bt199.1 0).f2) (([1, 7] : List Int))).bind fun t215 => (some t215)) else (none)) else (some false)) else (some false)) else (some false))) else (some false)) else (some false))) else (some false)) else (some false)) else (some false))))))
theorem ancepslaw54_awake.monoG : ∀ k, LeO (ancepslaw54_awake.g k ) (ancepslaw54_awake.g (k + 1) ) := by
  intro  k
  unfold ancepslaw54_awake.g
  repeat' first
      | (with_reducible exact slices_Equal_int_int.mono _ _ _)
      | (with_reducible exact slices_Equal_string_string.mono _ _ _)
      | (with_reducible exact wordlist_Find.mono _ _ _ _ _)
      | (with_reducible exact wordlist_Next.mono _ _ _ _)
      | (with_reducible exact wordlist_Tree.mono _ _)
      | (with_reducible exact LeO.refl _)
      | (with_reducible exact LeO.none _)
      | (with_reducible refine LeO.ite ?_ ?_)
      | (with_reducible refine LeO.bind ?_ (fun _ => ?_))
      | exact slices_Equal_int_int.mono _ _ _
      | exact slices_Equal_string_string.mono _ _ _
      | exact wordlist_Find.mono _ _ _ _ _
      | exact wordlist_Next.mono _ _ _ _
      | exact wordlist_Tree.mono _ _
      | exact LeO.none _
      | refine LeO.ite ?_ ?_
      | refine LeO.bind ?_ (fun _ => ?_)
set_option maxHeartbeats 8000000 in
set_option maxRecDepth 100000 in
theorem ancepslaw54_awake.callsT (k : Nat)  (w : World) (h : ancepslaw54_awake.g k  = some true) :
    Calls Tryd.prog 5 #[] w fun e w' => e = .returned (.bool true) ∧ Below w.heap.size w w' := by
  have hu25 := Tryd.underlying25
  have HB := Aside0.mk (Below.refl w.heap.size w)
  have H : ((some (([(⟨#[97, 114, 109, 97]⟩ : ByteArray), (⟨#[97, 114, 118, 97]⟩ : ByteArray), (⟨#[99, 97, 110, 111]⟩ : ByteArray)] : List ByteArray) : List ByteArray)).bind fun y185 => ((wordlist_Next.f k y185 (⟨#[98]⟩ : ByteArray) (⟨#[42]⟩ : ByteArray)).bind fun bt189 => ((wordlist_Find.f k y185 (⟨#[97, 114, 63, 97]⟩ : ByteArray) 0 4).bind fun bt191 => ((wordlist_Find.f k y185 (⟨#[63, 97, 42]⟩ : ByteArray) 0 4).bind fun bt195 => ((wordlist_Tree.f k y185).bind fun bt199 => (if bt189.2 = 0 then (if bt189.1.toList = ([99, 97, 110, 111] : List UInt8) then (if bt191.2 = 0 then ((slices_Equal_string_string.f k bt191.1 (([(⟨#[97, 114, 109, 97]⟩ : ByteArray), (⟨#[97, 114, 118, 97]⟩ : ByteArray)] : List ByteArray))).bind fun t206 => (if t206 = true then (if bt195.2 = 0 then ((slices_Equal_string_string.f k bt195.1 (([(⟨#[99, 97, 110, 111]⟩ : ByteArray)] : List ByteArray))).bind fun t210 => (if t210 = true then (if bt199.2 = 0 then (if (bt199.1.length : Int) = 11 then (if 0 < (bt199.1.length : Int) then ((slices_Equal_int_int.f k ((rd_T44 bt199.1 0).f2) (([1, 7] : List Int))).bind fun t215 => (some t215)) else (none)) else (some false)) else (some false)) else (some false))) else (some false)) else (some false))) else (some false)) else (some false)) else (some false))))))) = some true := h
  clear h
  obtain ⟨y185, hy185⟩ : ∃ y_ : List ByteArray, y_ = (([(⟨#[97, 114, 109, 97]⟩ : ByteArray), (⟨#[97, 114, 118, 97]⟩ : ByteArray), (⟨#[99, 97, 110, 111]⟩ : ByteArray)] : List ByteArray)) := ⟨_, rfl⟩
  replace H : ((wordlist_Next.f k y185 (⟨#[98]⟩ : ByteArray) (⟨#[42]⟩ : ByteArray)).bind fun bt189 => ((wordlist_Find.f k y185 (⟨#[97, 114, 63, 97]⟩ : ByteArray) 0 4).bind fun bt191 => ((wordlist_Find.f k y185 (⟨#[63, 97, 42]⟩ : ByteArray) 0 4).bind fun bt195 => ((wordlist_Tree.f k y185).bind fun bt199 => (if bt189.2 = 0 then (if bt189.1.toList = ([99, 97, 110, 111] : List UInt8) then (if bt191.2 = 0 then ((slices_Equal_string_string.f k bt191.1 (([(⟨#[97, 114, 109, 97]⟩ : ByteArray), (⟨#[97, 114, 118, 97]⟩ : ByteArray)] : List ByteArray))).bind fun t206 => (if t206 = true then (if bt195.2 = 0 then ((slices_Equal_string_string.f k bt195.1 (([(⟨#[99, 97, 110, 111]⟩ : ByteArray)] : List ByteArray))).bind fun t210 => (if t210 = true then (if bt199.2 = 0 then (if (bt199.1.length : Int) = 11 then (if 0 < (bt199.1.length : Int) then ((slices_Equal_int_int.f k ((rd_T44 bt199.1 0).f2) (([1, 7] : List Int))).bind fun t215 => (some t215)) else (none)) else (some false)) else (some false)) else (some false))) else (some false)) else (some false))) else (some false)) else (some false)) else (some false)))))) = some true := by first | (rw [hy185]; with_reducible exact H) | (have H2_ := (Option.bind_some _ _).symm.trans H; rw [hy185]; with_reducible exact H2_) | (have H2_ := (Option.bind_some _ _).symm.trans H; with_reducible exact H2_) | with_reducible exact H | (rw [hy185]; exact H) | exact H
  have Ny185 := Aside0.mk hy185
  clear hy185
  replace H := Option.bind_eq_some_iff.mp H
  obtain ⟨⟨t189, t190⟩, A10, H⟩ := H
  replace H : ((wordlist_Find.f k y185 (⟨#[97, 114, 63, 97]⟩ : ByteArray) 0 4).bind fun bt191 => ((wordlist_Find.f k y185 (⟨#[63, 97, 42]⟩ : ByteArray) 0 4).bind fun bt195 => ((wordlist_Tree.f k y185).bind fun bt199 => (if t190 = 0 then (if t189.toList = ([99, 97, 110, 111] : List UInt8) then (if bt191.2 = 0 then ((slices_Equal_string_string.f k bt191.1 (([(⟨#[97, 114, 109, 97]⟩ : ByteArray), (⟨#[97, 114, 118, 97]⟩ : ByteArray)] : List ByteArray))).bind fun t206 => (if t206 = true then (if bt195.2 = 0 then ((slices_Equal_string_string.f k bt195.1 (([(⟨#[99, 97, 110, 111]⟩ : ByteArray)] : List ByteArray))).bind fun t210 => (if t210 = true then (if bt199.2 = 0 then (if (bt199.1.length : Int) = 11 then (if 0 < (bt199.1.length : Int) then ((slices_Equal_int_int.f k ((rd_T44 bt199.1 0).f2) (([1, 7] : List Int))).bind fun t215 => (some t215)) else (none)) else (some false)) else (some false)) else (some false))) else (some false)) else (some false))) else (some false)) else (some false)) else (some false))))) = some true := H
  have A1 := Aside0.mk A10
  clear A10
  replace H := Option.bind_eq_some_iff.mp H
  obtain ⟨⟨t191, t194⟩, A20, H⟩ := H
  replace H : ((wordlist_Find.f k y185 (⟨#[63, 97, 42]⟩ : ByteArray) 0 4).bind fun bt195 => ((wordlist_Tree.f k y185).bind fun bt199 => (if t190 = 0 then (if t189.toList = ([99, 97, 110, 111] : List UInt8) then (if t194 = 0 then ((slices_Equal_string_string.f k t191 (([(⟨#[97, 114, 109, 97]⟩ : ByteArray), (⟨#[97, 114, 118, 97]⟩ : ByteArray)] : List ByteArray))).bind fun t206 => (if t206 = true then (if bt195.2 = 0 then ((slices_Equal_string_string.f k bt195.1 (([(⟨#[99, 97, 110, 111]⟩ : ByteArray)] : List ByteArray))).bind fun t210 => (if t210 = true then (if bt199.2 = 0 then (if (bt199.1.length : Int) = 11 then (if 0 < (bt199.1.length : Int) then ((slices_Equal_int_int.f k ((rd_T44 bt199.1 0).f2) (([1, 7] : List Int))).bind fun t215 => (some t215)) else (none)) else (some false)) else (some false)) else (some false))) else (some false)) else (some false))) else (some false)) else (some false)) else (some false)))) = some true := H
  have A2 := Aside0.mk A20
  clear A20
  replace H := Option.bind_eq_some_iff.mp H
  obtain ⟨⟨t195, t198⟩, A30, H⟩ := H
  replace H : ((wordlist_Tree.f k y185).bind fun bt199 => (if t190 = 0 then (if t189.toList = ([99, 97, 110, 111] : List UInt8) then (if t194 = 0 then ((slices_Equal_string_string.f k t191 (([(⟨#[97, 114, 109, 97]⟩ : ByteArray), (⟨#[97, 114, 118, 97]⟩ : ByteArray)] : List ByteArray))).bind fun t206 => (if t206 = true then (if t198 = 0 then ((slices_Equal_string_string.f k t195 (([(⟨#[99, 97, 110, 111]⟩ : ByteArray)] : List ByteArray))).bind fun t210 => (if t210 = true then (if bt199.2 = 0 then (if (bt199.1.length : Int) = 11 then (if 0 < (bt199.1.length : Int) then ((slices_Equal_int_int.f k ((rd_T44 bt199.1 0).f2) (([1, 7] : List Int))).bind fun t215 => (some t215)) else (none)) else (some false)) else (some false)) else (some false))) else (some false)) else (some false))) else (some false)) else (some false)) else (some false))) = some true := H
  have A3 := Aside0.mk A30
  clear A30
  replace H := Option.bind_eq_some_iff.mp H
  obtain ⟨⟨t199, t202⟩, A40, H⟩ := H
  replace H : (if t190 = 0 then (if t189.toList = ([99, 97, 110, 111] : List UInt8) then (if t194 = 0 then ((slices_Equal_string_string.f k t191 (([(⟨#[97, 114, 109, 97]⟩ : ByteArray), (⟨#[97, 114, 118, 97]⟩ : ByteArray)] : List ByteArray))).bind fun t206 => (if t206 = true then (if t198 = 0 then ((slices_Equal_string_string.f k t195 (([(⟨#[99, 97, 110, 111]⟩ : ByteArray)] : List ByteArray))).bind fun t210 => (if t210 = true then (if t202 = 0 then (if (t199.length : Int) = 11 then (if 0 < (t199.length : Int) then ((slices_Equal_int_int.f k ((rd_T44 t199 0).f2) (([1, 7] : List Int))).bind fun t215 => (some t215)) else (none)) else (some false)) else (some false)) else (some false))) else (some false)) else (some false))) else (some false)) else (some false)) else (some false)) = some true := H
  have A4 := Aside0.mk A40
  clear A40
  by_cases c5 : t190 = 0
  · rw [if_pos c5] at H
    have c5b0 : (t190 == 0) = true := beq_iff_eq.mpr c5
    have c5b1 : (t190 != 0) = false := bne_eq_false_iff_eq.mpr c5
    clear c5
    by_cases c6 : t189.toList = ([99, 97, 110, 111] : List UInt8)
    · rw [if_pos c6] at H
      have c6b0 : (t189.toList == ([99, 97, 110, 111] : List UInt8)) = true := beq_iff_eq.mpr c6
      have c6b1 : (t189.toList != ([99, 97, 110, 111] : List UInt8)) = false := bne_eq_false_iff_eq.mpr c6
      clear c6
      by_cases c7 : t194 = 0
      · rw [if_pos c7] at H
        have c7b0 : (t194 == 0) = true := beq_iff_eq.mpr c7
        have c7b1 : (t194 != 0) = false := bne_eq_false_iff_eq.mpr c7
        clear c7
        obtain ⟨y203, hy203⟩ : ∃ y_ : List ByteArray, y_ = (([(⟨#[97, 114, 109, 97]⟩ : ByteArray), (⟨#[97, 114, 118, 97]⟩ : ByteArray)] : List ByteArray)) := ⟨_, rfl⟩
        replace H : ((slices_Equal_string_string.f k t191 y203).bind fun t206 => (if t206 = true then (if t198 = 0 then ((slices_Equal_string_string.f k t195 (([(⟨#[99, 97, 110, 111]⟩ : ByteArray)] : List ByteArray))).bind fun t210 => (if t210 = true then (if t202 = 0 then (if (t199.length : Int) = 11 then (if 0 < (t199.length : Int) then ((slices_Equal_int_int.f k ((rd_T44 t199 0).f2) (([1, 7] : List Int))).bind fun t215 => (some t215)) else (none)) else (some false)) else (some false)) else (some false))) else (some false)) else (some false))) = some true := by first | (rw [hy203]; with_reducible exact H) | (have H2_ := (Option.bind_some _ _).symm.trans H; rw [hy203]; with_reducible exact H2_) | (have H2_ := (Option.bind_some _ _).symm.trans H; with_reducible exact H2_) | with_reducible exact H | (rw [hy203]; exact H) | exact H
        have Ny203 := Aside0.mk hy203
        clear hy203
        replace H := Option.bind_eq_some_iff.mp H
        obtain ⟨t206, A80, H⟩ := H
        replace H : (if t206 = true then (if t198 = 0 then ((slices_Equal_string_string.f k t195 (([(⟨#[99, 97, 110, 111]⟩ : ByteArray)] : List ByteArray))).bind fun t210 => (if t210 = true then (if t202 = 0 then (if (t199.length : Int) = 11 then (if 0 < (t199.length : Int) then ((slices_Equal_int_int.f k ((rd_T44 t199 0).f2) (([1, 7] : List Int))).bind fun t215 => (some t215)) else (none)) else (some false)) else (some false)) else (some false))) else (some false)) else (some false)) = some true := H
        have A8 := Aside0.mk A80
        clear A80
        by_cases c9 : t206 = true
        · subst c9
          have H1 : (if t198 = 0 then ((slices_Equal_string_string.f k t195 (([(⟨#[99, 97, 110, 111]⟩ : ByteArray)] : List ByteArray))).bind fun t210 => (if t210 = true then (if t202 = 0 then (if (t199.length : Int) = 11 then (if 0 < (t199.length : Int) then ((slices_Equal_int_int.f k ((rd_T44 t199 0).f2) (([1, 7] : List Int))).bind fun t215 => (some t215)) else (none)) else (some false)) else (some false)) else (some false))) else (some false)) = some true := by rw [if_pos rfl] at H; exact H
          clear H
          have H := H1
          clear H1
          by_cases c10 : t198 = 0
          · rw [if_pos c10] at H
            have c10b0 : (t198 == 0) = true := beq_iff_eq.mpr c10
            have c10b1 : (t198 != 0) = false := bne_eq_false_iff_eq.mpr c10
            clear c10
            obtain ⟨y207, hy207⟩ : ∃ y_ : List ByteArray, y_ = (([(⟨#[99, 97, 110, 111]⟩ : ByteArray)] : List ByteArray)) := ⟨_, rfl⟩
            replace H : ((slices_Equal_string_string.f k t195 y207).bind fun t210 => (if t210 = true then (if t202 = 0 then (if (t199.length : Int) = 11 then (if 0 < (t199.length : Int) then ((slices_Equal_int_int.f k ((rd_T44 t199 0).f2) (([1, 7] : List Int))).bind fun t215 => (some t215)) else (none)) else (some false)) else (some false)) else (some false))) = some true := by first | (rw [hy207]; with_reducible exact H) | (have H2_ := (Option.bind_some _ _).symm.trans H; rw [hy207]; with_reducible exact H2_) | (have H2_ := (Option.bind_some _ _).symm.trans H; with_reducible exact H2_) | with_reducible exact H | (rw [hy207]; exact H) | exact H
            have Ny207 := Aside0.mk hy207
            clear hy207
            replace H := Option.bind_eq_some_iff.mp H
            obtain ⟨t210, A110, H⟩ := H
            replace H : (if t210 = true then (if t202 = 0 then (if (t199.length : Int) = 11 then (if 0 < (t199.length : Int) then ((slices_Equal_int_int.f k ((rd_T44 t199 0).f2) (([1, 7] : List Int))).bind fun t215 => (some t215)) else (none)) else (some false)) else (some false)) else (some false)) = some true := H
            have A11 := Aside0.mk A110
            clear A110
            by_cases c12 : t210 = true
            · subst c12
              have H1 : (if t202 = 0 then (if (t199.length : Int) = 11 then (if 0 < (t199.length : Int) then ((slices_Equal_int_int.f k ((rd_T44 t199 0).f2) (([1, 7] : List Int))).bind fun t215 => (some t215)) else (none)) else (some false)) else (some false)) = some true := by rw [if_pos rfl] at H; exact H
              clear H
              have H := H1
              clear H1
              by_cases c13 : t202 = 0
              · rw [if_pos c13] at H
                have c13b0 : (t202 == 0) = true := beq_iff_eq.mpr c13
                have c13b1 : (t202 != 0) = false := bne_eq_false_iff_eq.mpr c13
                clear c13
                by_cases c14 : (t199.length : Int) = 11
                · rw [if_pos c14] at H
                  have c14b0 : ((t199.length : Int) == 11) = true := beq_iff_eq.mpr c14
                  have c14b1 : ((t199.length : Int) != 11) = false := bne_eq_false_iff_eq.mpr c14
                  clear c14
                  by_cases c15 : 0 < (t199.length : Int)
                  · rw [if_pos c15] at H
                    have c15b0 : decide (0 < (t199.length : Int)) = true := decide_eq_true c15
                    have c15b1 : decide (0 < t199.length) = true := decide_eq_true (by omega)
                    clear c15
                    obtain ⟨y212, hy212⟩ : ∃ y_ : List Int, y_ = (([1, 7] : List Int)) := ⟨_, rfl⟩
                    replace H : ((slices_Equal_int_int.f k ((rd_T44 t199 0).f2) y212).bind fun t215 => (some t215)) = some true := by first | (rw [hy212]; with_reducible exact H) | (have H2_ := (Option.bind_some _ _).symm.trans H; rw [hy212]; with_reducible exact H2_) | (have H2_ := (Option.bind_some _ _).symm.trans H; with_reducible exact H2_) | with_reducible exact H | (rw [hy212]; exact H) | exact H
                    have Ny212 := Aside0.mk hy212
                    clear hy212
                    replace H := Option.bind_eq_some_iff.mp H
                    obtain ⟨t215, A160, H⟩ := H
                    replace H : (some t215) = some true := H
                    have A16 := Aside0.mk A160
                    clear A160
                    have hR_ := Option.some.inj H
                    go_enter Tryd.func5, Tryd.ntmps5
                    go_wp2_with (first | ((with_reducible refine gate_dst (N := 10) rfl ?_); (try (refine gate_guard (by rfl) ?_; dsimp only)); refine Kd.R_lit Kd.string _ 9 ?hg (N := 10) ?hd (xs := ([(⟨#[97, 114, 109, 97]⟩ : ByteArray), (⟨#[97, 114, 118, 97]⟩ : ByteArray), (⟨#[99, 97, 110, 111]⟩ : ByteArray)] : List ByteArray)) (inner := [.string (⟨#[97, 114, 109, 97]⟩ : ByteArray), .string (⟨#[97, 114, 118, 97]⟩ : ByteArray), .string (⟨#[99, 97, 110, 111]⟩ : ByteArray)]) (ok := fun _ => True) (okp := fun _ => True) ?hr ?hp (fun _ hk => hk) trivial (Below.refl _ _) (Nat.le_refl _) (by simp) ?_; (case hd => rfl); (case hg => rfl); (case hr => first | (go_simp; done) | (go_simp; rfl)); (case hp => exact (Reps.one (show Kd.M Kd.string _ _ _ (⟨#[97, 114, 109, 97]⟩ : ByteArray) [.string (⟨#[97, 114, 109, 97]⟩ : ByteArray)] from rfl) (Reps.one (show Kd.M Kd.string _ _ _ (⟨#[97, 114, 118, 97]⟩ : ByteArray) [.string (⟨#[97, 114, 118, 97]⟩ : ByteArray)] from rfl) (Reps.one (show Kd.M Kd.string _ _ _ (⟨#[99, 97, 110, 111]⟩ : ByteArray) [.string (⟨#[99, 97, 110, 111]⟩ : ByteArray)] from rfl) (Reps.none _ _))))); intro v186 w17 ho18 hb hg_ hnew_; clear hg_ hnew_; (first | rw [← Ny185.out] at ho18 | (simp only [Int.reduceToNat] at ho18; rw [← Ny185.out] at ho18)); have n0_ := Aside0.mk (Kd.R_lower ho18 (below_size (by repeat (first | (with_reducible first | exact HB.out | apply below_alloc | apply pw_below_drewN | apply below_drew1) | exact HB.out)))); have n1_ := Aside0.mk (below_step (by repeat (first | (with_reducible first | exact HB.out | apply below_alloc | apply pw_below_drewN | apply below_drew1) | exact HB.out)) hb); clear HB; have HO187 := n0_; have HB := n1_; clear n0_ n1_; clear hb ho18; obtain ⟨Ao19, co19, eo19⟩ := Kd.R_slice HO187.out; subst eo19) | ((with_reducible refine gate_dst (N := 1) rfl ?_); (try (refine gate_guard (by rfl) ?_; dsimp only)); refine box_event ?hg (N := 1) ?hd (cs := #[.slice none 0 0]) (t := 25) ?hr ?_; (case hd => rfl); (case hg => rfl); (case hr => first | (go_simp; done) | (go_simp; rfl)); intro gb188 hg w20 hbox hb; have n0_ := Aside0.mk (Kd.R_below (by (with_reducible repeat (first | apply Kd.R_alloc | apply Kd.R_drewN | apply Kd.R_drew)); exact HO187.out) hb); have n1_ := Aside0.mk (below_step (by repeat (first | (with_reducible first | exact HB.out | apply below_alloc | apply pw_below_drewN | apply below_drew1) | exact HB.out)) hb); have n2_ := Aside0.mk (hbox); have n3_ := Aside0.mk ((by rw [hg]; exact (below_size (by repeat (first | (with_reducible first | exact HB.out | apply below_alloc | apply pw_below_drewN | apply below_drew1) | exact HB.out))) : w.heap.size ≤ gb188)); have n4_ := Aside0.mk ((by rw [hg]; exact (below_size (by repeat (first | (with_reducible first | exact HB.out | apply below_alloc | apply pw_below_drewN | apply below_drew1) | exact HB.out))) : w.heap.size ≤ gb188)); clear HO187; clear HB; have HO187 := n0_; have HB := n1_; have BK188 := n2_; have GW188 := n3_; have GE188 := n4_; clear n0_ n1_ n2_ n3_ n4_; clear hb hbox hg; have hcz21_0 : w20.cell? ⟨gb188, 0, none⟩ = some (.slice none 0 0) := (blk_cell BK188.out 0).trans rfl; have hfz21_0 := blk_frozen BK188.out 0) | ((with_reducible refine gate_callee (f := 13) rfl ?_); refine goesL_ (some 14) rfl rfl Tryd.func13 (by kernel_rfl) rfl #[.agg #[.slice Ao19 y185.length co19], .string (⟨#[98]⟩ : ByteArray), .string (⟨#[42]⟩ : ByteArray)] rfl (by (try simp only [List.map_toArray, List.map_cons, List.map_nil]); first | done | rfl | (simp only [List.length_drop, List.length_take]; rfl)) ?_; (with_reducible refine (wordlist_Next.calls k _ _ y185 (⟨#[98]⟩ : ByteArray) (⟨#[42]⟩ : ByteArray) t189 t190 _ ?side1 ?side2 A1.out).mono ?_); (case side1 => refine (Kd.R_reads' (e := 9) (base := w.heap.size) (ok := fun k_ => True) (n := y185.length) (c := co19) ?_).2.2; exact (by (with_reducible repeat (first | apply Kd.R_alloc | apply Kd.R_drewN | apply Kd.R_drew)); exact (Kd.R_mono (Kd.R_far (p := ⟨gb188, 0, none⟩) (Kd.R_types HO187.out BK188.out (by decide)) (fun _ hk => hk.2) (.slice Ao19 y185.length co19)) (fun _ h_ => h_.1)))); (case side2 => exact (Kd.R_reads' HO187.out).2.1); rintro e w22 ⟨rfl, hb⟩; refine ⟨_, rfl, ?_⟩; have n0_ := Aside0.mk (Kd.R_below (by (with_reducible repeat (first | apply Kd.R_alloc | apply Kd.R_drewN | apply Kd.R_drew)); exact (Kd.R_mono (Kd.R_far (p := ⟨gb188, 0, none⟩) (Kd.R_types HO187.out BK188.out (by decide)) (fun _ hk => hk.2) (.slice Ao19 y185.length co19)) (fun _ h_ => h_.1))) hb); have n1_ := Aside0.mk (blk_below (g := gb188) (o := .cells #[.slice Ao19 y185.length co19] 25 (0, 0)) (by (with_reducible repeat (first | refine blk_drewN ?_ _ | refine blk_drew ?_ | refine blk_alloc ?_ _)); refine blk_put (cs := #[.slice none 0 0]) ?_ 0 _ rfl; (with_reducible repeat (first | refine blk_drewN ?_ _ | refine blk_drew ?_ | refine blk_alloc ?_ _)); exact BK188.out) hb); have n2_ := Aside0.mk (below_step (by repeat (first | (with_reducible first | exact HB.out | apply below_alloc | apply pw_below_drewN | apply below_drew1 | refine below_set ?_ GE188.out) | exact HB.out)) hb); clear HO187; clear BK188; clear HB; have HO187 := n0_; have BK188 := n1_; have HB := n2_; clear n0_ n1_ n2_; (try clear hb); (try clear hb2); (try clear hk); (try clear hi); have hcz23_0 : w22.cell? ⟨gb188, 0, none⟩ = some (.slice Ao19 y185.length co19) := (blk_cell BK188.out 0).trans rfl; have hfz23_0 := blk_frozen BK188.out 0) | ((with_reducible refine gate_callee (f := 14) rfl ?_); refine goesL_ (some 19) rfl rfl Tryd.func14 (by kernel_rfl) rfl #[.agg #[.slice Ao19 y185.length co19], .string (⟨#[97, 114, 63, 97]⟩ : ByteArray), .int .i64 0, .int .i64 4] rfl (by (try simp only [List.map_toArray, List.map_cons, List.map_nil]); first | done | rfl | (simp only [List.length_drop, List.length_take]; rfl)) ?_; (with_reducible refine (wordlist_Find.calls k _ _ y185 (⟨#[97, 114, 63, 97]⟩ : ByteArray) 0 4 t191 t194 _ ?side1 ?side2 A2.out).mono ?_); (case side1 => repeat (first | exact (Kd.R_reads' HO187.out).2.2 | (with_reducible refine Kd.C_alloc ?_ _) | (with_reducible refine Kd.C_drewN ?_ _) | (with_reducible refine Kd.C_drew ?_))); (case side2 => exact (Kd.R_reads' HO187.out).2.1); rintro e w24 ⟨v192, rfl, ho0, hb⟩; refine ⟨_, rfl, ?_⟩; have n0_ := Aside0.mk (Kd.R_elder' (by (with_reducible repeat (first | apply Kd.R_alloc | apply Kd.R_drewN | apply Kd.R_drew)); exact HO187.out) (Kd.R_base ho0) hb); have n1_ := Aside0.mk (Kd.R_lower (Kd.R_new' ho0 (Kd.R_lt (by (with_reducible repeat (first | apply Kd.R_alloc | apply Kd.R_drewN | apply Kd.R_drew)); exact HO187.out))) (below_size (by repeat (first | (with_reducible first | exact HB.out | apply below_alloc | apply pw_below_drewN | apply below_drew1 | refine below_set ?_ GE188.out) | exact HB.out)))); have n2_ := Aside0.mk (blk_below (g := gb188) (o := .cells #[.slice Ao19 y185.length co19] 25 (0, 0)) (by (with_reducible repeat (first | refine blk_drewN ?_ _ | refine blk_drew ?_ | refine blk_alloc ?_ _)); exact BK188.out) hb); have n3_ := Aside0.mk (below_step (by repeat (first | (with_reducible first | exact HB.out | apply below_alloc | apply pw_below_drewN | apply below_drew1 | refine below_set ?_ GE188.out) | exact HB.out)) hb); clear HO187; clear BK188; clear HB; have HO187 := n0_; have HO193 := n1_; have BK188 := n2_; have HB := n3_; clear n0_ n1_ n2_ n3_; (try clear hb); (try clear hb2); (try clear hk); (try clear hi); (try clear ho0); have hcz25_0 : w24.cell? ⟨gb188, 0, none⟩ = some (.slice Ao19 y185.length co19) := (blk_cell BK188.out 0).trans rfl; have hfz25_0 := blk_frozen BK188.out 0) | ((with_reducible refine gate_callee (f := 14) rfl ?_); refine goesL_ (some 24) rfl rfl Tryd.func14 (by kernel_rfl) rfl #[.agg #[.slice Ao19 y185.length co19], .string (⟨#[63, 97, 42]⟩ : ByteArray), .int .i64 0, .int .i64 4] rfl (by (try simp only [List.map_toArray, List.map_cons, List.map_nil]); first | done | rfl | (simp only [List.length_drop, List.length_take]; rfl)) ?_; (with_reducible refine (wordlist_Find.calls k _ _ y185 (⟨#[63, 97, 42]⟩ : ByteArray) 0 4 t195 t198 _ ?side1 ?side2 A3.out).mono ?_); (case side1 => repeat (first | exact (Kd.R_reads' HO187.out).2.2 | (with_reducible refine Kd.C_alloc ?_ _) | (with_reducible refine Kd.C_drewN ?_ _) | (with_reducible refine Kd.C_drew ?_))); (case side2 => exact (Kd.R_reads' HO187.out).2.1); rintro e w26 ⟨v196, rfl, ho0, hb⟩; refine ⟨_, rfl, ?_⟩; have n0_ := Aside0.mk (Kd.R_elder' (by (with_reducible repeat (first | apply Kd.R_alloc | apply Kd.R_drewN | apply Kd.R_drew)); exact HO187.out) (Kd.R_base ho0) hb); have n1_ := Aside0.mk (Kd.R_elder' (by (with_reducible repeat (first | apply Kd.R_alloc | apply Kd.R_drewN | apply Kd.R_drew)); exact HO193.out) (Kd.R_base ho0) hb); have n2_ := Aside0.mk (Kd.R_lower (Kd.R_new' (Kd.R_new' ho0 (Kd.R_lt (by (with_reducible repeat (first | apply Kd.R_alloc | apply Kd.R_drewN | apply Kd.R_drew)); exact HO187.out))) (Kd.R_lt (by (with_reducible repeat (first | apply Kd.R_alloc | apply Kd.R_drewN | apply Kd.R_drew)); exact HO193.out))) (below_size (by repeat (first | (with_reducible first | exact HB.out | apply below_alloc | apply pw_below_drewN | apply below_drew1 | refine below_set ?_ GE188.out) | exact HB.out)))); have n3_ := Aside0.mk (blk_below (g := gb188) (o := .cells #[.slice Ao19 y185.length co19] 25 (0, 0)) (by (with_reducible repeat (first | refine blk_drewN ?_ _ | refine blk_drew ?_ | refine blk_alloc ?_ _)); exact BK188.out) hb); have n4_ := Aside0.mk (below_step (by repeat (first | (with_reducible first | exact HB.out | apply below_alloc | apply pw_below_drewN | apply below_drew1 | refine below_set ?_ GE188.out) | exact HB.out)) hb); clear HO187; clear HO193; clear BK188; clear HB; have HO187 := n0_; have HO193 := n1_; have HO197 := n2_; have BK188 := n3_; have HB := n4_; clear n0_ n1_ n2_ n3_ n4_; (try clear hb); (try clear hb2); (try clear hk); (try clear hi); (try clear ho0); have hcz27_0 : w26.cell? ⟨gb188, 0, none⟩ = some (.slice Ao19 y185.length co19) := (blk_cell BK188.out 0).trans rfl; have hfz27_0 := blk_frozen BK188.out 0) | ((with_reducible refine gate_callee (f := 15) rfl ?_); refine goesL_ (some 29) rfl rfl Tryd.func15 (by kernel_rfl) rfl #[.agg #[.slice Ao19 y185.length co19]] rfl (by (try simp only [List.map_toArray, List.map_cons, List.map_nil]); first | done | rfl | (simp only [List.length_drop, List.length_take]; rfl)) ?_; (with_reducible refine (wordlist_Tree.calls k _ _ y185 t199 t202 _ ?side1 ?side2 A4.out).mono ?_); (case side1 => repeat (first | exact (Kd.R_reads' HO187.out).2.2 | (with_reducible refine Kd.C_alloc ?_ _) | (with_reducible refine Kd.C_drewN ?_ _) | (with_reducible refine Kd.C_drew ?_))); (case side2 => exact (Kd.R_reads' HO187.out).2.1); rintro e w28 ⟨v200, rfl, ho0, hb⟩; refine ⟨_, rfl, ?_⟩; have n0_ := Aside0.mk (Kd.R_below (by (with_reducible repeat (first | apply Kd.R_alloc | apply Kd.R_drewN | apply Kd.R_drew)); exact HO187.out) hb); have n1_ := Aside0.mk (Kd.R_below (by (with_reducible repeat (first | apply Kd.R_alloc | apply Kd.R_drewN | apply Kd.R_drew)); exact HO193.out) hb); have n2_ := Aside0.mk (Kd.R_below (by (with_reducible repeat (first | apply Kd.R_alloc | apply Kd.R_drewN | apply Kd.R_drew)); exact HO197.out) hb); have n3_ := Aside0.mk (Kd.S_lower ho0 (below_size (by repeat (first | (with_reducible first | exact HB.out | apply below_alloc | apply pw_below_drewN | apply below_drew1 | refine below_set ?_ GE188.out) | exact HB.out)))); have n4_ := Aside0.mk (blk_below (g := gb188) (o := .cells #[.slice Ao19 y185.length co19] 25 (0, 0)) (by (with_reducible repeat (first | refine blk_drewN ?_ _ | refine blk_drew ?_ | refine blk_alloc ?_ _)); exact BK188.out) hb); have n5_ := Aside0.mk (below_step (by repeat (first | (with_reducible first | exact HB.out | apply below_alloc | apply pw_below_drewN | apply below_drew1 | refine below_set ?_ GE188.out) | exact HB.out)) hb); clear HO187; clear HO193; clear HO197; clear BK188; clear HB; have HO187 := n0_; have HO193 := n1_; have HO197 := n2_; have HO201 := n3_; have BK188 := n4_; have HB := n5_; clear n0_ n1_ n2_ n3_ n4_ n5_; (try clear hb); (try clear hb2); (try clear hk); (try clear hi); (try clear ho0)) | ((with_reducible refine gate_dst (N := 44) rfl ?_); (try (refine gate_guard (by rfl) ?_; dsimp only)); refine Kd.R_lit Kd.string _ 9 ?hg (N := 44) ?hd (xs := ([(⟨#[97, 114, 109, 97]⟩ : ByteArray), (⟨#[97, 114, 118, 97]⟩ : ByteArray)] : List ByteArray)) (inner := [.string (⟨#[97, 114, 109, 97]⟩ : ByteArray), .string (⟨#[97, 114, 118, 97]⟩ : ByteArray)]) (ok := fun _ => True) (okp := fun _ => True) ?hr ?hp (fun _ hk => hk) trivial (Below.refl _ _) (Nat.le_refl _) (by simp) ?_; (case hd => rfl); (case hg => rfl); (case hr => first | (go_simp; done) | (go_simp; rfl)); (case hp => exact (Reps.one (show Kd.M Kd.string _ _ _ (⟨#[97, 114, 109, 97]⟩ : ByteArray) [.string (⟨#[97, 114, 109, 97]⟩ : ByteArray)] from rfl) (Reps.one (show Kd.M Kd.string _ _ _ (⟨#[97, 114, 118, 97]⟩ : ByteArray) [.string (⟨#[97, 114, 118, 97]⟩ : ByteArray)] from rfl) (Reps.none _ _)))); intro v204 w29 ho30 hb hg_ hnew_; clear hg_ hnew_; (first | rw [← Ny203.out] at ho30 | (simp only [Int.reduceToNat] at ho30; rw [← Ny203.out] at ho30)); have n0_ := Aside0.mk (Kd.R_elder' (by (with_reducible repeat (first | apply Kd.R_alloc | apply Kd.R_drewN | apply Kd.R_drew)); exact HO187.out) (Kd.R_base ho30) hb); have n1_ := Aside0.mk (Kd.R_elder' (by (with_reducible repeat (first | apply Kd.R_alloc | apply Kd.R_drewN | apply Kd.R_drew)); exact HO193.out) (Kd.R_base ho30) hb); have n2_ := Aside0.mk (Kd.R_elder' (by (with_reducible repeat (first | apply Kd.R_alloc | apply Kd.R_drewN | apply Kd.R_drew)); exact HO197.out) (Kd.R_base ho30) hb); have n3_ := Aside0.mk (Kd.S_below (by (with_reducible repeat (first | apply Kd.S_alloc | apply Kd.S_drewN | apply Kd.S_drew)); exact HO201.out) hb); have n4_ := Aside0.mk (Kd.R_lower (Kd.R_new' (Kd.R_new' (Kd.R_new' ho30 (Kd.R_lt (by (with_reducible repeat (first | apply Kd.R_alloc | apply Kd.R_drewN | apply Kd.R_drew)); exact HO187.out))) (Kd.R_lt (by (with_reducible repeat (first | apply Kd.R_alloc | apply Kd.R_drewN | apply Kd.R_drew)); exact HO193.out))) (Kd.R_lt (by (with_reducible repeat (first | apply Kd.R_alloc | apply Kd.R_drewN | apply Kd.R_drew)); exact HO197.out))) (below_size (by repeat (first | (with_reducible first | exact HB.out | apply below_alloc | apply pw_below_drewN | apply below_drew1 | refine below_set ?_ GE188.out) | exact HB.out)))); have n5_ := Aside0.mk (blk_below (g := gb188) (o := .cells #[.slice Ao19 y185.length co19] 25 (0, 0)) (by (with_reducible repeat (first | refine blk_drewN ?_ _ | refine blk_drew ?_ | refine blk_alloc ?_ _)); exact BK188.out) hb); have n6_ := Aside0.mk (below_step (by repeat (first | (with_reducible first | exact HB.out | apply below_alloc | apply pw_below_drewN | apply below_drew1 | refine below_set ?_ GE188.out) | exact HB.out)) hb); clear HO187; clear HO193; clear HO197; clear HO201; clear BK188; clear HB; have HO187 := n0_; have HO193 := n1_; have HO197 := n2_; have HO201 := n3_; have HO205 := n4_; have BK188 := n5_; have HB := n6_; clear n0_ n1_ n2_ n3_ n4_ n5_ n6_; clear hb ho30; obtain ⟨Ao31, co31, eo31⟩ := Kd.R_slice HO193.out; subst eo31; obtain ⟨Ao32, co32, eo32⟩ := Kd.R_slice HO205.out; subst eo32) | (go_at_call 8; (with_reducible refine (slices_Equal_string_string.calls k _ _ t191 _ _ y203 true _ ?side1 ?side2 ?side3 ?side4 A8.out).mono ?_); (case side1 => repeat (first | exact (Kd.R_reads' HO193.out).2.2 | (with_reducible refine Kd.C_alloc ?_ _) | (with_reducible refine Kd.C_drewN ?_ _) | (with_reducible refine Kd.C_drew ?_))); (case side2 => exact (Kd.R_reads' HO193.out).2.1); (case side3 => repeat (first | exact (Kd.R_reads' HO205.out).2.2 | (with_reducible refine Kd.C_alloc ?_ _) | (with_reducible refine Kd.C_drewN ?_ _) | (with_reducible refine Kd.C_drew ?_))); (case side4 => exact (Kd.R_reads' HO205.out).2.1); (try clear A8); rintro e w' ⟨rfl, ⟨nd, rfl⟩⟩) | ((with_reducible refine gate_dst (N := 53) rfl ?_); (try (refine gate_guard (by rfl) ?_; dsimp only)); refine Kd.R_lit Kd.string _ 9 ?hg (N := 53) ?hd (xs := ([(⟨#[99, 97, 110, 111]⟩ : ByteArray)] : List ByteArray)) (inner := [.string (⟨#[99, 97, 110, 111]⟩ : ByteArray)]) (ok := fun _ => True) (okp := fun _ => True) ?hr ?hp (fun _ hk => hk) trivial (Below.refl _ _) (Nat.le_refl _) (by simp) ?_; (case hd => rfl); (case hg => rfl); (case hr => first | (go_simp; done) | (go_simp; rfl)); (case hp => exact (Reps.one (show Kd.M Kd.string _ _ _ (⟨#[99, 97, 110, 111]⟩ : ByteArray) [.string (⟨#[99, 97, 110, 111]⟩ : ByteArray)] from rfl) (Reps.none _ _))); intro v208 w33 ho34 hb hg_ hnew_; clear hg_ hnew_; (first | rw [← Ny207.out] at ho34 | (simp only [Int.reduceToNat] at ho34; rw [← Ny207.out] at ho34)); have n0_ := Aside0.mk (Kd.R_elder' (by (with_reducible repeat (first | apply Kd.R_alloc | apply Kd.R_drewN | apply Kd.R_drew)); exact HO187.out) (Kd.R_base ho34) hb); have n1_ := Aside0.mk (Kd.R_elder' (by (with_reducible repeat (first | apply Kd.R_alloc | apply Kd.R_drewN | apply Kd.R_drew)); exact HO193.out) (Kd.R_base ho34) hb); have n2_ := Aside0.mk (Kd.R_elder' (by (with_reducible repeat (first | apply Kd.R_alloc | apply Kd.R_drewN | apply Kd.R_drew)); exact HO197.out) (Kd.R_base ho34) hb); have n3_ := Aside0.mk (Kd.S_below (by (with_reducible repeat (first | apply Kd.S_alloc | apply Kd.S_drewN | apply Kd.S_drew)); exact HO201.out) hb); have n4_ := Aside0.mk (Kd.R_elder' (by (with_reducible repeat (first | apply Kd.R_alloc | apply Kd.R_drewN | apply Kd.R_drew)); exact HO205.out) (Kd.R_base ho34) hb); have n5_ := Aside0.mk (Kd.R_lower (Kd.R_new' (Kd.R_new' (Kd.R_new' (Kd.R_new' ho34 (Kd.R_lt (by (with_reducible repeat (first | apply Kd.R_alloc | apply Kd.R_drewN | apply Kd.R_drew)); exact HO187.out))) (Kd.R_lt (by (with_reducible repeat (first | apply Kd.R_alloc | apply Kd.R_drewN | apply Kd.R_drew)); exact HO193.out))) (Kd.R_lt (by (with_reducible repeat (first | apply Kd.R_alloc | apply Kd.R_drewN | apply Kd.R_drew)); exact HO197.out))) (Kd.R_lt (by (with_reducible repeat (first | apply Kd.R_alloc | apply Kd.R_drewN | apply Kd.R_drew)); exact HO205.out))) (below_size (by repeat (first | (with_reducible first | exact HB.out | apply below_alloc | apply pw_below_drewN | apply below_drew1 | refine below_set ?_ GE188.out) | exact HB.out)))); have n6_ := Aside0.mk (blk_below (g := gb188) (o := .cells #[.slice Ao19 y185.length co19] 25 (0, 0)) (by (with_reducible repeat (first | refine blk_drewN ?_ _ | refine blk_drew ?_ | refine blk_alloc ?_ _)); exact BK188.out) hb); have n7_ := Aside0.mk (below_step (by repeat (first | (with_reducible first | exact HB.out | apply below_alloc | apply pw_below_drewN | apply below_drew1 | refine below_set ?_ GE188.out) | exact HB.out)) hb); clear HO187; clear HO193; clear HO197; clear HO201; clear HO205; clear BK188; clear HB; have HO187 := n0_; have HO193 := n1_; have HO197 := n2_; have HO201 := n3_; have HO205 := n4_; have HO209 := n5_; have BK188 := n6_; have HB := n7_; clear n0_ n1_ n2_ n3_ n4_ n5_ n6_ n7_; clear hb ho34; obtain ⟨Ao35, co35, eo35⟩ := Kd.R_slice HO197.out; subst eo35; obtain ⟨Ao36, co36, eo36⟩ := Kd.R_slice HO209.out; subst eo36) | (go_at_call 8; (with_reducible refine (slices_Equal_string_string.calls k _ _ t195 _ _ y207 true _ ?side1 ?side2 ?side3 ?side4 A11.out).mono ?_); (case side1 => repeat (first | exact (Kd.R_reads' HO197.out).2.2 | (with_reducible refine Kd.C_alloc ?_ _) | (with_reducible refine Kd.C_drewN ?_ _) | (with_reducible refine Kd.C_drew ?_))); (case side2 => exact (Kd.R_reads' HO197.out).2.1); (case side3 => repeat (first | exact (Kd.R_reads' HO209.out).2.2 | (with_reducible refine Kd.C_alloc ?_ _) | (with_reducible refine Kd.C_drewN ?_ _) | (with_reducible refine Kd.C_drew ?_))); (case side4 => exact (Kd.R_reads' HO209.out).2.1); (try clear A11); rintro e w' ⟨rfl, ⟨nd, rfl⟩⟩; obtain ⟨Ao37, co37, eo37⟩ := Kd.S_slice HO201.out; subst eo37; have p211 : 0 ≤ (0 : Int) := (by omega); have q211 : 0 < (t199.length : Int) := of_decide_eq_true (by first | (with_reducible assumption) | assumption); obtain ⟨ad211, A211_2, c211_2, e211, hx211_0, hx211_1, hx211_2, hl211_2, hi211_2⟩ := at_T44 (Kd.S_reads' HO201.out).2.2 0 p211 q211; cases e211; obtain ⟨ce211, hce211, hMe211, hcc211⟩ := Kd.S_get HO201.out z44 0 p211 (by first | exact q211 | exact of_decide_eq_true (by first | (with_reducible assumption) | assumption) | (have e_ := (Kd.S_reads' HO201.out).1; omega)); obtain ⟨ve211_2, rfl, ge211_2⟩ := k44_openM hMe211; have hv211_2 := hcc211 2 _ rfl; rw [add_field _ _ 2 (by omega)] at hv211_2; replace hv211_2 := Option.some.inj (hv211_2.symm.trans hx211_2); rw [hv211_2] at ge211_2; have HL211_2 := Aside0.mk (show Kd.R (Kd.int .i64) 3 _ _ _ _ ((rd_T44 t199 0).f2) from ge211_2); clear hv211_2 ge211_2; clear hcc211 hce211; have qi211 : (0 < t199.length) = True := eq_true (by omega); (try rw [show ((0 : Int)).toNat = 0 from rfl] at hx211_0); (try rw [show 0 * 3 = 0 from rfl] at hx211_0); (try rw [Addr.add_zero'] at hx211_0); (try rw [show ((0 : Int)).toNat = 0 from rfl] at hx211_1); (try rw [show 0 * 3 = 0 from rfl] at hx211_1); (try rw [Addr.add_zero'] at hx211_1); (try rw [show ((0 : Int)).toNat = 0 from rfl] at hx211_2); (try rw [show 0 * 3 = 0 from rfl] at hx211_2); (try rw [Addr.add_zero'] at hx211_2); have HR211_2 := Aside0.mk hi211_2; have HC211_2 := Aside0.mk hl211_2; clear hi211_2 hl211_2; replace p211 := eq_true p211; replace q211 := eq_true q211) | ((with_reducible refine gate_dst (N := 70) rfl ?_); (try (refine gate_guard (by rfl) ?_; dsimp only)); refine Kd.R_lit (Kd.int .i64) _ 3 ?hg (N := 70) ?hd (xs := ([1, 7] : List Int)) (inner := [.int .i64 1, .int .i64 7]) (ok := fun _ => True) (okp := fun _ => True) ?hr ?hp (fun _ hk => hk) trivial (Below.refl _ _) (Nat.le_refl _) (by simp) ?_; (case hd => rfl); (case hg => rfl); (case hr => first | (go_simp; done) | (go_simp; rfl)); (case hp => exact (Reps.one (show Kd.M (Kd.int .i64) _ _ _ 1 [.int .i64 1] from rfl) (Reps.one (show Kd.M (Kd.int .i64) _ _ _ 7 [.int .i64 7] from rfl) (Reps.none _ _)))); intro v213 w38 ho39 hb hg_ hnew_; clear hg_ hnew_; (first | rw [← Ny212.out] at ho39 | (simp only [Int.reduceToNat] at ho39; rw [← Ny212.out] at ho39)); have n0_ := Aside0.mk (Kd.R_below (by (with_reducible repeat (first | apply Kd.R_alloc | apply Kd.R_drewN | apply Kd.R_drew)); exact HO187.out) hb); have n1_ := Aside0.mk (Kd.R_below (by (with_reducible repeat (first | apply Kd.R_alloc | apply Kd.R_drewN | apply Kd.R_drew)); exact HO193.out) hb); have n2_ := Aside0.mk (Kd.R_below (by (with_reducible repeat (first | apply Kd.R_alloc | apply Kd.R_drewN | apply Kd.R_drew)); exact HO197.out) hb); have n3_ := Aside0.mk (Kd.S_elder' (by (with_reducible repeat (first | apply Kd.S_alloc | apply Kd.S_drewN | apply Kd.S_drew)); exact HO201.out) (Kd.R_base ho39) hb); have n4_ := Aside0.mk (Kd.R_below (by (with_reducible repeat (first | apply Kd.R_alloc | apply Kd.R_drewN | apply Kd.R_drew)); exact HO205.out) hb); have n5_ := Aside0.mk (Kd.R_below (by (with_reducible repeat (first | apply Kd.R_alloc | apply Kd.R_drewN | apply Kd.R_drew)); exact HO209.out) hb); have n6_ := Aside0.mk (Kd.R_elder' (by (with_reducible repeat (first | apply Kd.R_alloc | apply Kd.R_drewN | apply Kd.R_drew)); exact HL211_2.out) (Kd.R_base ho39) hb); have n7_ := Aside0.mk (Kd.R_lower (Kd.R_new' ho39 (Kd.R_lt (by (with_reducible repeat (first | apply Kd.R_alloc | apply Kd.R_drewN | apply Kd.R_drew)); exact HL211_2.out))) (below_size (by repeat (first | (with_reducible first | exact HB.out | apply below_alloc | apply pw_below_drewN | apply below_drew1 | refine below_set ?_ GE188.out) | exact HB.out)))); have n8_ := Aside0.mk (blk_below (g := gb188) (o := .cells #[.slice Ao19 y185.length co19] 25 (0, 0)) (by (with_reducible repeat (first | refine blk_drewN ?_ _ | refine blk_drew ?_ | refine blk_alloc ?_ _)); exact BK188.out) hb); have n9_ := Aside0.mk (Kd.C_below (by repeat (first | (with_reducible exact HR211_2.out) | (with_reducible refine Kd.C_alloc ?_ _) | (with_reducible refine Kd.C_drewN ?_ _) | (with_reducible refine Kd.C_drew ?_) | exact HR211_2.out)) hb); have n10_ := Aside0.mk (below_step (by repeat (first | (with_reducible first | exact HB.out | apply below_alloc | apply pw_below_drewN | apply below_drew1 | refine below_set ?_ GE188.out) | exact HB.out)) hb); clear HO187; clear HO193; clear HO197; clear HO201; clear HO205; clear HO209; clear HL211_2; clear BK188; clear HR211_2; clear HB; have HO187 := n0_; have HO193 := n1_; have HO197 := n2_; have HO201 := n3_; have HO205 := n4_; have HO209 := n5_; have HL211_2 := n6_; have HO214 := n7_; have BK188 := n8_; have HR211_2 := n9_; have HB := n10_; clear n0_ n1_ n2_ n3_ n4_ n5_ n6_ n7_ n8_ n9_ n10_; clear hb ho39; obtain ⟨Ao40, co40, eo40⟩ := Kd.R_slice HO214.out; subst eo40) | (go_at_call 16; (with_reducible refine (slices_Equal_int_int.calls k _ _ ((rd_T44 t199 0).f2) _ _ y212 t215 _ ?side1 ?side2 ?side3 ?side4 A16.out).mono ?_); (case side1 => repeat (first | exact (by repeat (first | (with_reducible exact HR211_2.out) | (with_reducible refine Kd.C_alloc ?_ _) | (with_reducible refine Kd.C_drewN ?_ _) | (with_reducible refine Kd.C_drew ?_) | exact HR211_2.out)) | (with_reducible refine Kd.C_alloc ?_ _) | (with_reducible refine Kd.C_drewN ?_ _) | (with_reducible refine Kd.C_drew ?_))); (case side2 => exact HC211_2.out); (case side3 => repeat (first | exact (Kd.R_reads' HO214.out).2.2 | (with_reducible refine Kd.C_alloc ?_ _) | (with_reducible refine Kd.C_drewN ?_ _) | (with_reducible refine Kd.C_drew ?_))); (case side4 => exact (Kd.R_reads' HO214.out).2.1); rintro e w' ⟨rfl, ⟨nd, rfl⟩⟩))
                    go_ret
                    exact ⟨by first | rfl | (simp [errW_none, errW_some] <;> rfl) | (simp [*, errW_none, errW_some] <;> rfl), by repeat (first | (with_reducible first | exact HB.out | apply below_alloc | apply pw_below_drewN | apply below_drew1 | refine below_set ?_ GE188.out) | exact HB.out)⟩
                  · rw [if_neg c15] at H
                    exact absurd H (by simp)
                · rw [if_neg c14] at H
                  have c14b0 : ((t199.length : Int) == 11) = false := beq_eq_false_iff_ne.mpr c14
                  have c14b1 : ((t199.length : Int) != 11) = true := bne_iff_ne.mpr c14
                  exact absurd (Option.some.inj H) (by decide)
              · rw [if_neg c13] at H
                have c13b0 : (t202 == 0) = false := beq_eq_false_iff_ne.mpr c13
                have c13b1 : (t202 != 0) = true := bne_iff_ne.mpr c13
                exact absurd (Option.some.inj H) (by decide)
            · replace c12 := Bool.eq_false_iff.mpr c12
              subst c12
              have H1 : (some false) = some true := by rw [if_neg (show ¬ (false = true) by decide)] at H; exact H
              clear H
              have H := H1
              clear H1
              exact absurd (Option.some.inj H) (by decide)
          · rw [if_neg c10] at H
            have c10b0 : (t198 == 0) = false := beq_eq_false_iff_ne.mpr c10
            have c10b1 : (t198 != 0) = true := bne_iff_ne.mpr c10
            exact absurd (Option.some.inj H) (by decide)
        · replace c9 := Bool.eq_false_iff.mpr c9
          subst c9
          have H1 : (some false) = some true := by rw [if_neg (show ¬ (false = true) by decide)] at H; exact H
          clear H
          have H := H1
          clear H1
          exact absurd (Option.some.inj H) (by decide)
      · rw [if_neg c7] at H
        have c7b0 : (t194 == 0) = false := beq_eq_false_iff_ne.mpr c7
        have c7b1 : (t194 != 0) = true := bne_iff_ne.mpr c7
        exact absurd (Option.some.inj H) (by decide)
    · rw [if_neg c6] at H
      have c6b0 : (t189.toList == ([99, 97, 110, 111] : List UInt8)) = false := beq_eq_false_iff_ne.mpr c6
      have c6b1 : (t189.toList != ([99, 97, 110, 111] : List UInt8)) = true := bne_iff_ne.mpr c6
      exact absurd (Option.some.inj H) (by decide)
  · rw [if_neg c5] at H
    have c5b0 : (t190 == 0) = false := beq_eq_false_iff_ne.mpr c5
    have c5b1 : (t190 != 0) = true := bne_iff_ne.mpr c5
    exact absurd (Option.some.inj H) (by decide)
def ancepslaw54_awake.f (k : Nat)  : Option (Bool) := (ancepslaw54_awake.g k).bind fun b => if b = true then some true else none
theorem ancepslaw54_awake.mono : ∀ k, LeO (ancepslaw54_awake.f k) (ancepslaw54_awake.f (k + 1)) := by
  intro k
  unfold ancepslaw54_awake.f
  exact LeO.bind (ancepslaw54_awake.monoG k) (fun _ => LeO.refl _)
theorem ancepslaw54_awake.calls (k : Nat)  (r : Bool) (w : World) (h : ancepslaw54_awake.f k  = some r) :
    Calls Tryd.prog 5 #[] w fun e w' => e = .returned (.bool r) ∧ Below w.heap.size w w' := by
  unfold ancepslaw54_awake.f at h
  obtain ⟨b, h1, h2⟩ := Option.bind_eq_some_iff.mp h
  cases b with
  | true =>
    rw [if_pos rfl] at h2
    obtain rfl := Option.some.inj h2
    exact ancepslaw54_awake.callsT k w h1
  | false => simp at h2

/-! ### strings_Split: function 17 (at a separator of one byte) -/
/-- the pieces between bytes c -/
def strings_Split.pieces (c : UInt8) : List UInt8 → List (List UInt8)
  | [] => [[]]
  | x :: r => if (x == c) = true then [] :: strings_Split.pieces c r else match strings_Split.pieces c r with
    | [] => [[x]]
    | h :: t => (x :: h) :: t
theorem strings_Split.pieces_ne (c : UInt8) (l : List UInt8) : strings_Split.pieces c l ≠ [] := by
  cases l with
  | nil => simp [strings_Split.pieces]
  | cons x r =>
    rw [strings_Split.pieces]
    split
    · simp
    · split <;> simp
theorem strings_Split.pieces_at (c : UInt8) : ∀ l : List UInt8, 0 < l.count c → ∃ j : Nat, Lib.indexByte l c = (j : Int) ∧ j < l.length ∧ strings_Split.pieces c l = l.take j :: strings_Split.pieces c (l.drop (j + 1)) ∧ (l.drop (j + 1)).count c + 1 = l.count c
  | [], h => by simp at h
  | x :: r, h => by
    by_cases hx : (x == c) = true
    · refine ⟨0, by rw [Lib.indexByte, if_pos hx]; rfl, by simp, by rw [strings_Split.pieces, if_pos hx]; rfl, by rw [List.count_cons, if_pos hx]; rfl⟩
    · rw [List.count_cons, if_neg hx] at h
      obtain ⟨j, h1, h2, h3, h4⟩ := strings_Split.pieces_at c r h
      refine ⟨j + 1, ?_, by simp; omega, ?_, ?_⟩
      · rw [Lib.indexByte, if_neg hx, h1, if_neg (by simp)]; omega
      · rw [strings_Split.pieces, if_neg hx, h3]; rfl
      · rw [List.count_cons, if_neg hx]; exact h4
theorem strings_Split.pieces_none (c : UInt8) : ∀ l : List UInt8, l.count c = 0 → strings_Split.pieces c l = [l]
  | [], _ => rfl
  | x :: r, h => by
    by_cases hx : (x == c) = true
    · rw [List.count_cons, if_pos hx] at h; omega
    · rw [List.count_cons, if_neg hx] at h
      rw [strings_Split.pieces, if_neg hx, strings_Split.pieces_none c r h]
theorem strings_Split.pieces_len (c : UInt8) : ∀ l : List UInt8, (strings_Split.pieces c l).length = l.count c + 1
  | [] => rfl
  | x :: r => by
    have ih := strings_Split.pieces_len c r
    rw [strings_Split.pieces, List.count_cons]
    by_cases hx : (x == c) = true
    · rw [if_pos hx, if_pos hx, List.length_cons, ih]
    · rw [if_neg hx, if_neg hx]
      cases hs : strings_Split.pieces c r with
      | nil => exact absurd hs (strings_Split.pieces_ne c r)
      | cons h t => rw [hs] at ih; exact ih
def strings_Split.f (a0 a1 : ByteArray) : Option (List ByteArray) := if a1.size = 1 ∧ a0.size ≤ 4294967296 then some ((strings_Split.pieces (a1.data.toList.getD 0 0) a0.data.toList).map fun l => ⟨l.toArray⟩) else none
theorem strings_Split.info : (Tryd.prog.info? 9).map (fun i => (i.zero, i.size, i.bytes)) = some (some (.string ⟨#[]⟩), 1, 16) := by kernel_rfl
/-- the loop's state: the pieces so far; the rest -/
def strings_Split.Inv (c : UInt8) (l : List UInt8) (w wr : World) (k : Nat) (x : ByteArray) : Prop :=
  ∃ done : List ByteArray, done.length = k ∧ (strings_Split.pieces c l).map (fun l => (⟨l.toArray⟩ : ByteArray)) = done ++ (strings_Split.pieces c x.data.toList).map (fun l => (⟨l.toArray⟩ : ByteArray)) ∧ x.data.toList.count c + k = l.count c ∧ x.size ≤ l.length ∧
    Kd.R Kd.string 9 wr w.heap.size (fun _ => True) (.slice (some ⟨w.heap.size, 0, none⟩) (l.count c + 1) (l.count c + 1)) (done ++ List.replicate (l.count c + 1 - k) (⟨#[]⟩ : ByteArray)) ∧ Below w.heap.size w wr ∧ w.heap.size < wr.heap.size
theorem strings_Split.start (c : UInt8) (s : ByteArray) (w : World) (hs : s.size ≤ 4294967296) : strings_Split.Inv c s.data.toList w (w.alloc (.cells (madeCells #[.string ⟨#[]⟩] (s.data.toList.count c + 1)) 9)) 0 s := by
  have hcl : s.data.toList.count c ≤ s.data.toList.length := List.count_le_length
  have hsl : s.data.toList.length = s.size := by simp
  refine ⟨[], rfl, rfl, rfl, by simp, ?_, (Below.refl _ _).alloc (Nat.le_refl _) _, by simp⟩
  have h := World.ownsRow_lit (base := w.heap.size) (e := 9) (size := 1) w (madeCells #[Value.string ⟨#[]⟩] (s.data.toList.count c + 1)) (s.data.toList.count c + 1) (Nat.le_refl _) (by unfold maxLen; omega) (by simp [size_madeCells])
  refine Kd.R_of_own (enc := Value.string) (h1 := fun _ => rfl) ?_ (fun _ _ => trivial)
  rw [List.nil_append, List.length_replicate, Nat.sub_zero]
  have hl : (madeCells #[Value.string ⟨#[]⟩] (s.data.toList.count c + 1)).toList = encs Value.string (List.replicate (s.data.toList.count c + 1) (⟨#[]⟩ : ByteArray)) := by
    apply List.ext_getElem
    · simp [encs, size_madeCells]
    · intro i h1 h2
      simp [encs, madeCells, Nat.mod_one]
  rwa [hl] at h
theorem strings_Split.cell {c : UInt8} {l : List UInt8} {w wr : World} {k : Nat} {x : ByteArray} (h : strings_Split.Inv c l w wr k x) (hk : k ≤ l.count c) :
    ∃ u, wr.cell? ⟨w.heap.size, k, none⟩ = some u ∧ wr.frozen? ⟨w.heap.size, k, none⟩ = false := by
  obtain ⟨done, hd, _, _, _, hR, _, _⟩ := h
  have := Kd.R_celln (⟨#[]⟩ : ByteArray) hR (k : Int) (by omega) (by omega)
  rw [Int.toNat_natCast] at this
  exact ⟨_, this⟩
theorem strings_Split.ba_eta (x : ByteArray) : (⟨x.data.toList.toArray⟩ : ByteArray) = x := rfl
theorem strings_Split.step {c : UInt8} {l : List UInt8} {w wr : World} {k j : Nat} {x : ByteArray} (h : strings_Split.Inv c l w wr k x) (hk : k < l.count c) (hj : j < x.data.toList.length)
    (hp : strings_Split.pieces c x.data.toList = x.data.toList.take j :: strings_Split.pieces c (x.data.toList.drop (j + 1))) (hc : (x.data.toList.drop (j + 1)).count c + 1 = x.data.toList.count c) :
    strings_Split.Inv c l w (wr.setCell ⟨w.heap.size, k, none⟩ (.string (x.extract 0 j))) (k + 1) (x.extract (j + 1) x.size) := by
  obtain ⟨done, hd, h1, h2, h3, hR, hB, hlt⟩ := h
  have e1 : (x.extract 0 j).data.toList = x.data.toList.take j := by rw [ByteArray.data_extract, Array.toList_extract]; simp
  have e2 : (x.extract (j + 1) x.size).data.toList = x.data.toList.drop (j + 1) := by
    rw [ByteArray.data_extract, Array.toList_extract]
    rw [List.extract_eq_take_drop, List.take_of_length_le]
    rw [List.length_drop]; simp
  have hR2 := Kd.R_putn hR (k : Int) (x.extract 0 j)
  rw [Int.toNat_natCast] at hR2
  refine ⟨done ++ [x.extract 0 j], by rw [List.length_append, hd]; rfl, ?_, by rw [e2]; omega, by rw [ByteArray.size_extract]; omega, ?_, hB.setCell (p := ⟨w.heap.size, k, none⟩) (Nat.le_refl _) _, by simp [World.setCell]; exact hlt⟩
  · rw [h1, hp, e2, List.map_cons, List.append_assoc, List.singleton_append, ← e1]
  · rw [show l.count c + 1 - k = (l.count c + 1 - (k + 1)) + 1 by omega, List.replicate_succ, List.set_append_right _ _ (by omega), hd, Nat.sub_self, List.set_cons_zero] at hR2
    rw [List.append_assoc, List.singleton_append]
    exact hR2
theorem strings_Split.last {c : UInt8} {l : List UInt8} {w wr : World} {x : ByteArray} (h : strings_Split.Inv c l w wr (l.count c) x) :
    Kd.R Kd.string 9 (wr.setCell ⟨w.heap.size, l.count c, none⟩ (.string x)) w.heap.size (fun _ => True) (.slice (some ⟨w.heap.size, 0, none⟩) (l.count c + 1) (l.count c + 1)) ((strings_Split.pieces c l).map fun l => ⟨l.toArray⟩) ∧ Below w.heap.size w (wr.setCell ⟨w.heap.size, l.count c, none⟩ (.string x)) := by
  obtain ⟨done, hd, h1, h2, h3, hR, hB, hlt⟩ := h
  have hR2 := Kd.R_putn hR ((l.count c : Nat) : Int) x
  rw [Int.toNat_natCast] at hR2
  refine ⟨?_, hB.setCell (p := ⟨w.heap.size, l.count c, none⟩) (Nat.le_refl _) _⟩
  rw [h1, strings_Split.pieces_none c x.data.toList (by omega), List.map_cons, List.map_nil]
  rw [show l.count c + 1 - l.count c = 0 + 1 by omega, List.replicate_succ, List.replicate_zero, List.set_append_right _ _ (by omega), hd, Nat.sub_self, List.set_cons_zero] at hR2
  exact hR2
set_option maxHeartbeats 4000000 in
set_option maxRecDepth 100000 in
theorem strings_Split.gen (s : ByteArray) (c : UInt8) (w : World) (hs : s.size ≤ 4294967296) :
    Calls Tryd.prog 29 #[.string s, .string ⟨#[c]⟩, .int .i64 0, .int .i64 (-1)] w fun e w' => ∃ v0_ : Value, e = .returned (v0_) ∧ Kd.R Kd.string 9 w' w.heap.size (fun _ => True) v0_ ((strings_Split.pieces c s.data.toList).map fun l => ⟨l.toArray⟩) ∧ Below w.heap.size w w' := by
  have hcl : s.data.toList.count c ≤ s.data.toList.length := List.count_le_length
  obtain ⟨n, hn⟩ : ∃ n, s.data.toList.count c = n := ⟨_, rfl⟩
  have hsl : s.data.toList.length = s.size := by simp
  rw [hn, hsl] at hcl
  have hcnt : ∀ W : World, Calls Tryd.prog 42 #[.string s, .string ⟨#[c]⟩] W fun e w' => e = .returned (.int .i64 (n : Int)) ∧ w' = W := fun W => by
    have := Tryd.strings_Count_one s c W
    rw [show Lib.countByte s.data.toList c = n from hn] at this
    exact this
  have HN := Lib.hid hn
  clear hn hsl
  have hmin : ¬ ((s.size : Int) + 1 < (n : Int) + 1) := by omega
  have hmk := fun W => run_make_row' (P := Tryd.prog) 23 9 (.string ⟨#[]⟩) 16 Tryd.underlying23 strings_Split.info rfl .i64 .i64 (n + 1) (by omega) (by omega) W
  have ec : ((n + 1 : Nat) : Int) = (n : Int) + 1 := by omega
  rw [ec] at hmk
  clear ec
  go_enter Tryd.func29, Tryd.ntmps29
  go_wp2_with (go_at_call 42; refine (hcnt _).mono ?_; rintro e w1 ⟨rfl, hw1⟩; obtain rfl : w = w1 := hw1.symm; clear hw1)
  have HS := Lib.hid (strings_Split.start c s w hs)
  rw [HN.out] at HS
  clear hmk hcnt
  go_loopw [0, 10] (fun x i wr => ∃ (k : Nat) (y : ByteArray), k ≤ n ∧ y.size ≤ 4294967296 ∧ i = .int .i64 k ∧ x = .string y ∧ Hid (strings_Split.Inv c s.data.toList w wr k y)) (fun _ i _ => n - (intOf i).toNat)
  case atStart => exact ⟨0, s, Nat.zero_le _, hs, rfl, rfl, HS⟩
  case round =>
    obtain ⟨k, y, hk, hy, rfl, rfl, hI⟩ := hrel
    have hI0 := hI.out
    obtain ⟨u, hcu, hfu⟩ := strings_Split.cell hI0 (by rw [HN.out]; exact hk)
    by_cases hkn : k < n
    · have hpos : 0 < y.data.toList.count c := by
        obtain ⟨done, _, _, h2, _⟩ := hI0
        have := HN.out
        omega
      obtain ⟨j, hj1, hj2, hj3, hj4⟩ := strings_Split.pieces_at c _ hpos
      have hidx : ∀ W : World, Calls Tryd.prog 43 #[.string y, .string ⟨#[c]⟩] W fun e w' => e = .returned (.int .i64 (j : Int)) ∧ w' = W := fun W => by
        have := Tryd.strings_Index_one y c W
        rw [hj1] at this
        exact this
      have hS := strings_Split.step hI0 (by rw [HN.out]; exact hkn) hj2 hj3 hj4
      have hjs : j < y.size := by rw [show y.size = y.data.toList.length by simp]; exact hj2
      have HS := Lib.hid hS
      have hys : (y.extract (j + 1) y.size).size ≤ 4294967296 := by rw [ByteArray.size_extract]; omega
      have HYS := Lib.hid hys
      clear hpos hj1 hj2 hj3 hj4 hS hI0 hys
      go_wp2_with (go_at_call 43; refine (hidx _).mono ?_; rintro e w1 ⟨rfl, hw1⟩; obtain rfl : wr = w1 := hw1.symm; clear hw1)
      go_roundw
      case rel => exact ⟨k + 1, _, by omega, HYS.out, by go_num, rfl, HS⟩
      case measure => simp [intOf]; omega
    · obtain rfl : k = n := by omega
      have hL : strings_Split.Inv c s.data.toList w wr (s.data.toList.count c) y := by rw [HN.out]; exact hI0
      have hE := strings_Split.last hL
      rw [HN.out] at hE
      have HE := Lib.hid hE
      clear hI0 hL hE
      go_wp2
      go_ret
      exact ⟨_, rfl, HE.out.1, HE.out.2⟩
theorem strings_Split.calls (a0 a1 : ByteArray) (r : List ByteArray) (w : World) (h : strings_Split.f a0 a1 = some r) :
    Calls Tryd.prog 17 #[.string a0, .string a1] w fun e w' => ∃ v0_ : Value, e = .returned (v0_) ∧ Kd.R Kd.string 9 w' w.heap.size (fun _ => True) v0_ r ∧ Below w.heap.size w w' := by
  unfold strings_Split.f at h
  split at h
  · rename_i hg
    obtain rfl := Option.some.inj h
    clear h
    obtain ⟨c, rfl⟩ : ∃ c : UInt8, a1 = ⟨#[c]⟩ := by
      obtain ⟨⟨l⟩⟩ := a1
      match l, hg.1 with
      | [c], _ => exact ⟨c, rfl⟩
    go_enter Tryd.func17, Tryd.ntmps17
    go_wp2_with (go_at_call 29; refine (strings_Split.gen a0 c _ hg.2).mono ?_; rintro e w1 ⟨v, rfl, hR, hB⟩; obtain ⟨A_, c_, hv⟩ := Kd.R_slice hR; rw [List.length_map] at hv; subst hv)
    go_ret
    exact ⟨_, rfl, hR, hB⟩
  · cases h

/-! ### wordlist_Parse: function 6 -/
def wordlist_Parse.l0 : Nat → List ByteArray → Int → Int → Option (List ByteArray × Int × Int)
  | 0, _, _, _ => none
  | k + 1, x5, x37, x38 => if x38 < x37 then ((wordlist_entry.f k x5 x38).bind fun t224 => (if t224 = 0 then (wordlist_Parse.l0 k x5 x37 (wrap64 (x38 + 1))) else (some (([] : List ByteArray), wrap64 (x38 + 1), t224)))) else (some (x5, 0, 0))
def wordlist_Parse.f (k : Nat) (a0 : ByteArray) : Option (List ByteArray × Int × Int) := if (a0.size : Int) > 20000 then (some (([] : List ByteArray), 0, 3)) else (if a0.toList = ([] : List UInt8) then (some (([] : List ByteArray), 0, 0)) else ((strings_Split.f a0 (⟨#[10]⟩ : ByteArray)).bind fun t217 => (if 0 ≤ (wrap64 ((t217.length : Int) - 1)) then (if (wrap64 ((t217.length : Int) - 1)) < (t217.length : Int) then (if (rdOf ByteArray.empty t217 (wrap64 ((t217.length : Int) - 1))).toList = ([] : List UInt8) then (if (wrap64 ((t217.length : Int) - 1)) ≤ (t217.length : Int) then ((some (t217.take ((wrap64 ((t217.length : Int) - 1)) : Int).toNat : List ByteArray)).bind fun y221 => (if (y221.length : Int) > 400 then (some (([] : List ByteArray), 0, 3)) else (wordlist_Parse.l0 k y221 (y221.length : Int) 0))) else (none)) else (some (([] : List ByteArray), wrap64 ((wrap64 ((t217.length : Int) - 1)) + 1), 2))) else (none)) else (none))))
theorem wordlist_Parse.mono_l : ∀ k, (∀ y0 y1 y2, LeO (wordlist_Parse.l0 k y0 y1 y2) (wordlist_Parse.l0 (k + 1) y0 y1 y2))
  | 0 => fun _ _ _ r h => by simp [wordlist_Parse.l0] at h
  | k + 1 => by
    have ih0 := wordlist_Parse.mono_l k
    · intro y0 y1 y2
      unfold wordlist_Parse.l0
      repeat' first
      | (with_reducible exact ih0 _ _ _)
      | (with_reducible exact wordlist_entry.mono _ _ _)
      | (with_reducible exact LeO.refl _)
      | (with_reducible exact LeO.none _)
      | (with_reducible refine LeO.ite ?_ ?_)
      | (with_reducible refine LeO.bind ?_ (fun _ => ?_))
      | exact ih0 _ _ _
      | exact wordlist_entry.mono _ _ _
      | exact LeO.none _
      | refine LeO.ite ?_ ?_
      | refine LeO.bind ?_ (fun _ => ?_)
theorem wordlist_Parse.mono : ∀ a0 k, LeO (wordlist_Parse.f k a0) (wordlist_Parse.f (k + 1) a0) := by
  intro a0 k
  have ih0 := wordlist_Parse.mono_l k
  unfold wordlist_Parse.f
  repeat' first
      | (with_reducible exact ih0 _ _ _)
      | (with_reducible exact wordlist_entry.mono _ _ _)
      | (with_reducible exact LeO.refl _)
      | (with_reducible exact LeO.none _)
      | (with_reducible refine LeO.ite ?_ ?_)
      | (with_reducible refine LeO.bind ?_ (fun _ => ?_))
      | exact ih0 _ _ _
      | exact wordlist_entry.mono _ _ _
      | exact LeO.none _
      | refine LeO.ite ?_ ?_
      | refine LeO.bind ?_ (fun _ => ?_)
set_option maxHeartbeats 8000000 in
set_option maxRecDepth 100000 in
theorem wordlist_Parse.calls (k : Nat) (a0 : ByteArray) (r1 : List ByteArray) (r2 : Int) (r3 : Int) (w : World) (h : wordlist_Parse.f k a0 = some (r1, r2, r3)) :
    Calls Tryd.prog 6 #[.string a0] w fun e w' => ∃ v0_ : Value, e = .returned (.tuple #[.agg #[v0_], .int .i64 r2, .int .i64 r3]) ∧ Kd.R Kd.string 9 w' w.heap.size (fun _ => True) v0_ r1 ∧ Below w.heap.size w w' := by
  have hu25 := Tryd.underlying25
  have HB := Aside0.mk (Below.refl w.heap.size w)
  have H : (if (a0.size : Int) > 20000 then (some (([] : List ByteArray), 0, 3)) else (if a0.toList = ([] : List UInt8) then (some (([] : List ByteArray), 0, 0)) else ((strings_Split.f a0 (⟨#[10]⟩ : ByteArray)).bind fun t217 => (if 0 ≤ (wrap64 ((t217.length : Int) - 1)) then (if (wrap64 ((t217.length : Int) - 1)) < (t217.length : Int) then (if (rdOf ByteArray.empty t217 (wrap64 ((t217.length : Int) - 1))).toList = ([] : List UInt8) then (if (wrap64 ((t217.length : Int) - 1)) ≤ (t217.length : Int) then ((some (t217.take ((wrap64 ((t217.length : Int) - 1)) : Int).toNat : List ByteArray)).bind fun y221 => (if (y221.length : Int) > 400 then (some (([] : List ByteArray), 0, 3)) else (wordlist_Parse.l0 k y221 (y221.length : Int) 0))) else (none)) else (some (([] : List ByteArray), wrap64 ((wrap64 ((t217.length : Int) - 1)) + 1), 2))) else (none)) else (none))))) = some (r1, r2, r3) := h
  clear h
  by_cases c2 : (a0.size : Int) > 20000
  · rw [if_pos c2] at H
    have c2b0 : decide (20000 < (a0.size : Int)) = true := decide_eq_true c2
    have c2b1 : decide (20000 < a0.size) = true := decide_eq_true (by omega)
    clear c2
    simp only [Option.some.injEq, Prod.mk.injEq] at H
    obtain ⟨rfl, rfl, rfl⟩ := H
    go_enter Tryd.func6, Tryd.ntmps6
    go_wp2_with (first | ((with_reducible refine gate_dst (N := 2) rfl ?_); refine box_event ?hg (N := 2) ?hd (cs := #[.slice none 0 0]) (t := 25) ?hr ?_; (case hd => rfl); (case hg => rfl); (case hr => first | (go_simp; done) | (go_simp; rfl)); intro gb216 hg w3 hbox hb; have n0_ := Aside0.mk (below_step (by repeat (first | (with_reducible first | exact HB.out | apply below_alloc | apply pw_below_drewN | apply below_drew1) | exact HB.out)) hb); have n1_ := Aside0.mk (hbox); have n2_ := Aside0.mk ((by rw [hg]; exact (below_size (by repeat (first | (with_reducible first | exact HB.out | apply below_alloc | apply pw_below_drewN | apply below_drew1) | exact HB.out))) : w.heap.size ≤ gb216)); have n3_ := Aside0.mk ((by rw [hg]; exact (below_size (by repeat (first | (with_reducible first | exact HB.out | apply below_alloc | apply pw_below_drewN | apply below_drew1) | exact HB.out))) : w.heap.size ≤ gb216)); clear HB; have HB := n0_; have BK216 := n1_; have GW216 := n2_; have GE216 := n3_; clear n0_ n1_ n2_ n3_; clear hb hbox hg; have hcz4_0 : w3.cell? ⟨gb216, 0, none⟩ = some (.slice none 0 0) := (blk_cell BK216.out 0).trans rfl; have hfz4_0 := blk_frozen BK216.out 0))
    refine bodyPost_ret (results_ctt rfl _ _ gb216 25 #[.slice none 0 0] (0, 0) _ rfl (by (with_reducible repeat (first | refine blk_drewN ?_ _ | refine blk_drew ?_ | refine blk_alloc ?_ _)); refine blk_put (cs := #[.slice none 0 0]) ?_ 0 _ rfl; (with_reducible repeat (first | refine blk_drewN ?_ _ | refine blk_drew ?_ | refine blk_alloc ?_ _)); exact BK216.out) Tryd.underlying25 rfl (by kernel_rfl)) rfl ?_
    exact ⟨_, by first | rfl | (simp [errW_none, errW_some] <;> rfl) | (simp [*, errW_none, errW_some] <;> rfl), by first | exact Kd.R_nil _ _ _ _ _ | exact Kd.N_nil _ _ _ _ _ | exact Kd.V_nil _ _ _ _ _ | exact Kd.Q_nil _ _ _ _ _ | exact Kd.S_nil _ _ _ _ _, by repeat (first | (with_reducible first | exact HB.out | apply below_alloc | apply pw_below_drewN | apply below_drew1 | refine below_set ?_ GE216.out) | exact HB.out)⟩
  · rw [if_neg c2] at H
    have c2b0 : decide (20000 < (a0.size : Int)) = false := decide_eq_false c2
    have c2b1 : decide (20000 < a0.size) = false := decide_eq_false (by omega)
    clear c2
    by_cases c5 : a0.toList = ([] : List UInt8)
    · rw [if_pos c5] at H
      have c5b0 : (a0.toList == ([] : List UInt8)) = true := beq_iff_eq.mpr c5
      have c5b1 : (a0.toList != ([] : List UInt8)) = false := bne_eq_false_iff_eq.mpr c5
      clear c5
      simp only [Option.some.injEq, Prod.mk.injEq] at H
      obtain ⟨rfl, rfl, rfl⟩ := H
      go_enter Tryd.func6, Tryd.ntmps6
      go_wp2_with (first | ((with_reducible refine gate_dst (N := 2) rfl ?_); refine box_event ?hg (N := 2) ?hd (cs := #[.slice none 0 0]) (t := 25) ?hr ?_; (case hd => rfl); (case hg => rfl); (case hr => first | (go_simp; done) | (go_simp; rfl)); intro gb216 hg w6 hbox hb; have n0_ := Aside0.mk (below_step (by repeat (first | (with_reducible first | exact HB.out | apply below_alloc | apply pw_below_drewN | apply below_drew1) | exact HB.out)) hb); have n1_ := Aside0.mk (hbox); have n2_ := Aside0.mk ((by rw [hg]; exact (below_size (by repeat (first | (with_reducible first | exact HB.out | apply below_alloc | apply pw_below_drewN | apply below_drew1) | exact HB.out))) : w.heap.size ≤ gb216)); have n3_ := Aside0.mk ((by rw [hg]; exact (below_size (by repeat (first | (with_reducible first | exact HB.out | apply below_alloc | apply pw_below_drewN | apply below_drew1) | exact HB.out))) : w.heap.size ≤ gb216)); clear HB; have HB := n0_; have BK216 := n1_; have GW216 := n2_; have GE216 := n3_; clear n0_ n1_ n2_ n3_; clear hb hbox hg; have hcz7_0 : w6.cell? ⟨gb216, 0, none⟩ = some (.slice none 0 0) := (blk_cell BK216.out 0).trans rfl; have hfz7_0 := blk_frozen BK216.out 0))
      refine bodyPost_ret (results_ctt rfl _ _ gb216 25 #[.slice none 0 0] (0, 0) _ rfl (by (with_reducible repeat (first | refine blk_drewN ?_ _ | refine blk_drew ?_ | refine blk_alloc ?_ _)); refine blk_put (cs := #[.slice none 0 0]) ?_ 0 _ rfl; (with_reducible repeat (first | refine blk_drewN ?_ _ | refine blk_drew ?_ | refine blk_alloc ?_ _)); exact BK216.out) Tryd.underlying25 rfl (by kernel_rfl)) rfl ?_
      exact ⟨_, by first | rfl | (simp [errW_none, errW_some] <;> rfl) | (simp [*, errW_none, errW_some] <;> rfl), by first | exact Kd.R_nil _ _ _ _ _ | exact Kd.N_nil _ _ _ _ _ | exact Kd.V_nil _ _ _ _ _ | exact Kd.Q_nil _ _ _ _ _ | exact Kd.S_nil _ _ _ _ _, by repeat (first | (with_reducible first | exact HB.out | apply below_alloc | apply pw_below_drewN | apply below_drew1 | refine below_set ?_ GE216.out) | exact HB.out)⟩
    · rw [if_neg c5] at H
      have c5b0 : (a0.toList == ([] : List UInt8)) = false := beq_eq_false_iff_ne.mpr c5
      have c5b1 : (a0.toList != ([] : List UInt8)) = true := bne_iff_ne.mpr c5
      replace H := Option.bind_eq_some_iff.mp H
      obtain ⟨t217, A80, H⟩ := H
      replace H : (if 0 ≤ (wrap64 ((t217.length : Int) - 1)) then (if (wrap64 ((t217.length : Int) - 1)) < (t217.length : Int) then (if (rdOf ByteArray.empty t217 (wrap64 ((t217.length : Int) - 1))).toList = ([] : List UInt8) then (if (wrap64 ((t217.length : Int) - 1)) ≤ (t217.length : Int) then ((some (t217.take ((wrap64 ((t217.length : Int) - 1)) : Int).toNat : List ByteArray)).bind fun y221 => (if (y221.length : Int) > 400 then (some (([] : List ByteArray), 0, 3)) else (wordlist_Parse.l0 k y221 (y221.length : Int) 0))) else (none)) else (some (([] : List ByteArray), wrap64 ((wrap64 ((t217.length : Int) - 1)) + 1), 2))) else (none)) else (none)) = some (r1, r2, r3) := H
      have A8 := Aside0.mk A80
      clear A80
      obtain ⟨ji9, hji9⟩ : ∃ j_ : Int, (wrap64 ((t217.length : Int) - 1)) = j_ := ⟨_, rfl⟩
      replace H : (if 0 ≤ (ji9) then (if (ji9) < (t217.length : Int) then (if (rdOf ByteArray.empty t217 (ji9)).toList = ([] : List UInt8) then (if (ji9) ≤ (t217.length : Int) then ((some (t217.take ((ji9) : Int).toNat : List ByteArray)).bind fun y221 => (if (y221.length : Int) > 400 then (some (([] : List ByteArray), 0, 3)) else (wordlist_Parse.l0 k y221 (y221.length : Int) 0))) else (none)) else (some (([] : List ByteArray), wrap64 ((ji9) + 1), 2))) else (none)) else (none)) = some (r1, r2, r3) := by first | (rw [hji9] at H; exact H) | (simp only [hji9] at H ⊢; exact H)
      (try rw [hji9] at A8)
      have hji9w : (IntKind.i64.wrap ((t217.length : Int) - 1)) = ji9 := (i64_w _).trans hji9
      by_cases c10 : 0 ≤ (ji9)
      · rw [if_pos c10] at H
        have c10b0 : decide (0 ≤ (ji9)) = true := decide_eq_true c10
        clear c10
        by_cases c11 : (ji9) < (t217.length : Int)
        · rw [if_pos c11] at H
          have c11b0 : decide ((ji9) < (t217.length : Int)) = true := decide_eq_true c11
          clear c11
          by_cases c12 : (rdOf ByteArray.empty t217 (ji9)).toList = ([] : List UInt8)
          · rw [if_pos c12] at H
            have c12b0 : ((rdOf ByteArray.empty t217 (ji9)).toList == ([] : List UInt8)) = true := beq_iff_eq.mpr c12
            have c12b1 : ((rdOf ByteArray.empty t217 (ji9)).toList != ([] : List UInt8)) = false := bne_eq_false_iff_eq.mpr c12
            clear c12
            by_cases c13 : (ji9) ≤ (t217.length : Int)
            · rw [if_pos c13] at H
              have c13b0 := eq_true c13
              have c13b1 : decide ((ji9) ≤ (t217.length : Int)) = true := decide_eq_true c13
              clear c13
              obtain ⟨y221, hy221⟩ : ∃ y_ : List ByteArray, y_ = (t217.take ((ji9) : Int).toNat) := ⟨_, rfl⟩
              replace H : (if (y221.length : Int) > 400 then (some (([] : List ByteArray), 0, 3)) else (wordlist_Parse.l0 k y221 (y221.length : Int) 0)) = some (r1, r2, r3) := by first | (rw [hy221]; with_reducible exact H) | (have H2_ := (Option.bind_some _ _).symm.trans H; rw [hy221]; with_reducible exact H2_) | (have H2_ := (Option.bind_some _ _).symm.trans H; with_reducible exact H2_) | with_reducible exact H | (rw [hy221]; exact H) | exact H
              have Ny221 := Aside0.mk hy221
              clear hy221
              by_cases c14 : (y221.length : Int) > 400
              · rw [if_pos c14] at H
                have c14b0 : decide (400 < (y221.length : Int)) = true := decide_eq_true c14
                have c14b1 : decide (400 < y221.length) = true := decide_eq_true (by omega)
                clear c14
                simp only [Option.some.injEq, Prod.mk.injEq] at H
                obtain ⟨rfl, rfl, rfl⟩ := H
                go_enter Tryd.func6, Tryd.ntmps6
                go_wp2_with (first | ((with_reducible refine gate_dst (N := 2) rfl ?_); refine box_event ?hg (N := 2) ?hd (cs := #[.slice none 0 0]) (t := 25) ?hr ?_; (case hd => rfl); (case hg => rfl); (case hr => first | (go_simp; done) | (go_simp; rfl)); intro gb216 hg w15 hbox hb; have n0_ := Aside0.mk (below_step (by repeat (first | (with_reducible first | exact HB.out | apply below_alloc | apply pw_below_drewN | apply below_drew1) | exact HB.out)) hb); have n1_ := Aside0.mk (hbox); have n2_ := Aside0.mk ((by rw [hg]; exact (below_size (by repeat (first | (with_reducible first | exact HB.out | apply below_alloc | apply pw_below_drewN | apply below_drew1) | exact HB.out))) : w.heap.size ≤ gb216)); have n3_ := Aside0.mk ((by rw [hg]; exact (below_size (by repeat (first | (with_reducible first | exact HB.out | apply below_alloc | apply pw_below_drewN | apply below_drew1) | exact HB.out))) : w.heap.size ≤ gb216)); clear HB; have HB := n0_; have BK216 := n1_; have GW216 := n2_; have GE216 := n3_; clear n0_ n1_ n2_ n3_; clear hb hbox hg) | ((with_reducible refine gate_callee (f := 17) rfl ?_); refine goesL_ (some 17) rfl rfl Tryd.func17 (by kernel_rfl) rfl #[.string a0, .string (⟨#[10]⟩ : ByteArray)] rfl (by (try simp only [List.map_toArray, List.map_cons, List.map_nil]); first | done | rfl | (simp only [List.length_drop, List.length_take]; rfl)) ?_; (with_reducible refine (strings_Split.calls a0 (⟨#[10]⟩ : ByteArray) t217 _ A8.out).mono ?_); rintro e w16 ⟨v218, rfl, ho0, hb⟩; refine ⟨_, rfl, ?_⟩; have n0_ := Aside0.mk (Kd.R_lower ho0 (below_size (by repeat (first | (with_reducible first | exact HB.out | apply below_alloc | apply pw_below_drewN | apply below_drew1 | refine below_set ?_ GE216.out) | exact HB.out)))); have n1_ := Aside0.mk (blk_below (g := gb216) (o := .cells #[.slice none 0 0] 25 (0, 0)) (by (with_reducible repeat (first | refine blk_drewN ?_ _ | refine blk_drew ?_ | refine blk_alloc ?_ _)); exact BK216.out) hb); have n2_ := Aside0.mk (below_step (by repeat (first | (with_reducible first | exact HB.out | apply below_alloc | apply pw_below_drewN | apply below_drew1 | refine below_set ?_ GE216.out) | exact HB.out)) hb); clear BK216; clear HB; have HO219 := n0_; have BK216 := n1_; have HB := n2_; clear n0_ n1_ n2_; (try clear hb); (try clear hb2); (try clear hk); (try clear hi); (try clear ho0); obtain ⟨Ao17, co17, eo17⟩ := Kd.R_slice HO219.out; subst eo17; have p220 : 0 ≤ ((ji9) : Int) := of_decide_eq_true (by first | (with_reducible assumption) | assumption); have q220 : (ji9) < (t217.length : Int) := of_decide_eq_true (by first | (with_reducible assumption) | assumption); obtain ⟨ad220, e220, hx220_0⟩ := Kd.at_string (Kd.R_reads' HO219.out).2.2 (ji9) p220 q220; cases e220; replace p220 := eq_true p220; replace q220 := eq_true q220; have q18 : ((ji9) : Int) ≤ ((t217.length : Int) : Int) := of_decide_eq_true (by first | (with_reducible assumption) | assumption); obtain ⟨i018, hi018, _, hsz18, _⟩ := info_parts info9; have hcut18 := cut_to (P := Tryd.prog) 23 9 .i64 Tryd.underlying23 hi018 (some ad220) t217.length co17 (ji9) (of_decide_eq_true (by first | (with_reducible assumption) | assumption)) q18 (Kd.R_reads' HO219.out).2.1; have hr18 := Kd.R_take (m := ((ji9) : Int).toNat) HO219.out (by omega); have hy18 : y221.length = ((ji9) : Int).toNat := (by rw [Ny221.out, List.length_take]; omega); rw [← Ny221.out] at hr18; rw [← hy18] at hr18 hcut18; clear hy18 hi018 hsz18 HO219; have HO223 := Aside0.mk hr18; clear hr18; replace q18 := eq_true q18; have hcz19_0 : w16.cell? ⟨gb216, 0, none⟩ = some (.slice none 0 0) := (blk_cell BK216.out 0).trans rfl; have hfz19_0 := blk_frozen BK216.out 0))
                refine bodyPost_ret (results_ctt rfl _ _ gb216 25 #[.slice none 0 0] (0, 0) _ rfl (by (with_reducible repeat (first | refine blk_drewN ?_ _ | refine blk_drew ?_ | refine blk_alloc ?_ _)); refine blk_put (cs := #[.slice none 0 0]) ?_ 0 _ rfl; (with_reducible repeat (first | refine blk_drewN ?_ _ | refine blk_drew ?_ | refine blk_alloc ?_ _)); exact BK216.out) Tryd.underlying25 rfl (by kernel_rfl)) rfl ?_
                exact ⟨_, by first | rfl | (simp [errW_none, errW_some] <;> rfl) | (simp only [← hji9]; first | rfl | (simp [errW_none, errW_some] <;> rfl)) | (simp [*, errW_none, errW_some] <;> rfl), by first | exact Kd.R_nil _ _ _ _ _ | exact Kd.N_nil _ _ _ _ _ | exact Kd.V_nil _ _ _ _ _ | exact Kd.Q_nil _ _ _ _ _ | exact Kd.S_nil _ _ _ _ _, by repeat (first | (with_reducible first | exact HB.out | apply below_alloc | apply pw_below_drewN | apply below_drew1 | refine below_set ?_ GE216.out) | exact HB.out)⟩
              · rw [if_neg c14] at H
                have c14b0 : decide (400 < (y221.length : Int)) = false := decide_eq_false c14
                have c14b1 : decide (400 < y221.length) = false := decide_eq_false (by omega)
                clear c14
                have H' := Aside0.mk H
                clear H
                go_enter Tryd.func6, Tryd.ntmps6
                go_wp2_with (first | ((with_reducible refine gate_dst (N := 2) rfl ?_); refine box_event ?hg (N := 2) ?hd (cs := #[.slice none 0 0]) (t := 25) ?hr ?_; (case hd => rfl); (case hg => rfl); (case hr => first | (go_simp; done) | (go_simp; rfl)); intro gb216 hg w20 hbox hb; have n0_ := Aside0.mk (below_step (by repeat (first | (with_reducible first | exact HB.out | apply below_alloc | apply pw_below_drewN | apply below_drew1) | exact HB.out)) hb); have n1_ := Aside0.mk (hbox); have n2_ := Aside0.mk ((by rw [hg]; exact (below_size (by repeat (first | (with_reducible first | exact HB.out | apply below_alloc | apply pw_below_drewN | apply below_drew1) | exact HB.out))) : w.heap.size ≤ gb216)); have n3_ := Aside0.mk ((by rw [hg]; exact (below_size (by repeat (first | (with_reducible first | exact HB.out | apply below_alloc | apply pw_below_drewN | apply below_drew1) | exact HB.out))) : w.heap.size ≤ gb216)); clear HB; have HB := n0_; have BK216 := n1_; have GW216 := n2_; have GE216 := n3_; clear n0_ n1_ n2_ n3_; clear hb hbox hg) | ((with_reducible refine gate_callee (f := 17) rfl ?_); refine goesL_ (some 17) rfl rfl Tryd.func17 (by kernel_rfl) rfl #[.string a0, .string (⟨#[10]⟩ : ByteArray)] rfl (by (try simp only [List.map_toArray, List.map_cons, List.map_nil]); first | done | rfl | (simp only [List.length_drop, List.length_take]; rfl)) ?_; (with_reducible refine (strings_Split.calls a0 (⟨#[10]⟩ : ByteArray) t217 _ A8.out).mono ?_); rintro e w21 ⟨v218, rfl, ho0, hb⟩; refine ⟨_, rfl, ?_⟩; have n0_ := Aside0.mk (Kd.R_lower ho0 (below_size (by repeat (first | (with_reducible first | exact HB.out | apply below_alloc | apply pw_below_drewN | apply below_drew1 | refine below_set ?_ GE216.out) | exact HB.out)))); have n1_ := Aside0.mk (blk_below (g := gb216) (o := .cells #[.slice none 0 0] 25 (0, 0)) (by (with_reducible repeat (first | refine blk_drewN ?_ _ | refine blk_drew ?_ | refine blk_alloc ?_ _)); exact BK216.out) hb); have n2_ := Aside0.mk (below_step (by repeat (first | (with_reducible first | exact HB.out | apply below_alloc | apply pw_below_drewN | apply below_drew1 | refine below_set ?_ GE216.out) | exact HB.out)) hb); clear BK216; clear HB; have HO219 := n0_; have BK216 := n1_; have HB := n2_; clear n0_ n1_ n2_; (try clear hb); (try clear hb2); (try clear hk); (try clear hi); (try clear ho0); obtain ⟨Ao22, co22, eo22⟩ := Kd.R_slice HO219.out; subst eo22; have p220 : 0 ≤ ((ji9) : Int) := of_decide_eq_true (by first | (with_reducible assumption) | assumption); have q220 : (ji9) < (t217.length : Int) := of_decide_eq_true (by first | (with_reducible assumption) | assumption); obtain ⟨ad220, e220, hx220_0⟩ := Kd.at_string (Kd.R_reads' HO219.out).2.2 (ji9) p220 q220; cases e220; replace p220 := eq_true p220; replace q220 := eq_true q220; have q23 : ((ji9) : Int) ≤ ((t217.length : Int) : Int) := of_decide_eq_true (by first | (with_reducible assumption) | assumption); obtain ⟨i023, hi023, _, hsz23, _⟩ := info_parts info9; have hcut23 := cut_to (P := Tryd.prog) 23 9 .i64 Tryd.underlying23 hi023 (some ad220) t217.length co22 (ji9) (of_decide_eq_true (by first | (with_reducible assumption) | assumption)) q23 (Kd.R_reads' HO219.out).2.1; have hr23 := Kd.R_take (m := ((ji9) : Int).toNat) HO219.out (by omega); have hy23 : y221.length = ((ji9) : Int).toNat := (by rw [Ny221.out, List.length_take]; omega); rw [← Ny221.out] at hr23; rw [← hy23] at hr23 hcut23; clear hy23 hi023 hsz23 HO219; have HO223 := Aside0.mk hr23; clear hr23; replace q23 := eq_true q23))
                go_loopg [38] k (fun kq v38 w' => ∃ (x38_1 : Int), v38 = .int .i64 x38_1 ∧ Aside0 (wordlist_Parse.l0 kq y221 (y221.length : Int) x38_1 = some (r1, r2, r3)) ∧ Aside0 (kq ≤ k) ∧ Aside0 (Kd.R Kd.string 9 w' w.heap.size (fun _ => True) (.slice (some ad220) y221.length co22) y221) ∧ Aside0 (w'.heap[gb216]? = some (.cells #[(.slice none 0 0)] 25 (0, 0))) ∧ Aside0 (Below w.heap.size w w'))
                case atStart => exact ⟨(0), (by first | rfl | (simp; done) | (simp [*]; done)), H', ⟨Nat.le_refl _⟩, ⟨by (with_reducible repeat (first | apply Kd.R_alloc | apply Kd.R_drewN | apply Kd.R_drew)); exact HO223.out⟩, ⟨by (with_reducible repeat (first | refine blk_drewN ?_ _ | refine blk_drew ?_ | refine blk_alloc ?_ _)); exact BK216.out⟩, ⟨by repeat (first | (with_reducible first | exact HB.out | apply below_alloc | apply pw_below_drewN | apply below_drew1 | refine below_set ?_ GE216.out) | exact HB.out)⟩⟩
                case round =>
                  clear H'
                  try clear c1
                  try clear q1
                  try clear c2
                  try clear c2b0
                  try clear c2b1
                  try clear p2
                  try clear q2
                  try clear hx2
                  try clear c5
                  try clear c5b0
                  try clear c5b1
                  try clear c6
                  try clear p6
                  try clear c10
                  try clear c10b0
                  try clear c11
                  try clear c11b0
                  try clear c12
                  try clear c12b0
                  try clear c12b1
                  try clear c13
                  try clear c13b0
                  try clear c13b1
                  try clear c14
                  try clear c14b0
                  try clear c14b1
                  try clear c17
                  try clear q18
                  try clear p22
                  try clear q22
                  try clear hx22
                  try clear q23
                  try clear hcz19_0
                  try clear hcz4_0
                  try clear hcz7_0
                  try clear hfz19_0
                  try clear hfz4_0
                  try clear hfz7_0
                  try clear hx220_0
                  try clear p220
                  try clear q18
                  try clear q220
                  try clear q23
                  obtain ⟨x38_1, rfl, HA, HK1, HO_5, BK216, HB⟩ := hrel
                  cases gk with
                  | zero => exact absurd HA.out (by simp [wordlist_Parse.l0])
                  | succ k1 =>
                    have H := HA.out
                    clear HA
                    simp only [wordlist_Parse.l0] at H
                    by_cases c24 : x38_1 < (y221.length : Int)
                    · rw [if_pos c24] at H
                      have c24b0 : decide (x38_1 < (y221.length : Int)) = true := decide_eq_true c24
                      clear c24
                      replace H := Option.bind_eq_some_iff.mp H
                      obtain ⟨t224, A250, H⟩ := H
                      replace H : (if t224 = 0 then (wordlist_Parse.l0 k1 y221 (y221.length : Int) (wrap64 (x38_1 + 1))) else (some (([] : List ByteArray), wrap64 (x38_1 + 1), t224))) = some (r1, r2, r3) := H
                      have A25 := Aside0.mk A250
                      clear A250
                      by_cases c26 : t224 = 0
                      · rw [if_pos c26] at H
                        have c26b0 : (t224 == 0) = true := beq_iff_eq.mpr c26
                        have c26b1 : (t224 != 0) = false := bne_eq_false_iff_eq.mpr c26
                        clear c26
                        have H' := Aside0.mk H
                        clear H
                        go_wp2_with (first | ((with_reducible refine gate_callee (f := 18) rfl ?_); refine goesL_ (some 43) rfl rfl Tryd.func18 (by kernel_rfl) rfl #[.slice (some ad220) y221.length co22, .int .i64 x38_1] rfl (by (try simp only [List.map_toArray, List.map_cons, List.map_nil]); first | done | rfl | (simp only [List.length_drop, List.length_take]; rfl)) ?_; (with_reducible refine (wordlist_entry.calls k1 _ _ y221 x38_1 t224 _ ?side1 ?side2 A25.out).mono ?_); (case side1 => repeat (first | exact (Kd.R_reads' HO_5.out).2.2 | (with_reducible refine Kd.C_alloc ?_ _) | (with_reducible refine Kd.C_drewN ?_ _) | (with_reducible refine Kd.C_drew ?_))); (case side2 => exact (Kd.R_reads' HO_5.out).2.1); rintro e w27 ⟨rfl, hb⟩; refine ⟨_, rfl, ?_⟩; have n0_ := Aside0.mk (Kd.R_below (by (with_reducible repeat (first | apply Kd.R_alloc | apply Kd.R_drewN | apply Kd.R_drew)); exact HO_5.out) hb); have n1_ := Aside0.mk (blk_below (g := gb216) (o := .cells #[.slice none 0 0] 25 (0, 0)) (by (with_reducible repeat (first | refine blk_drewN ?_ _ | refine blk_drew ?_ | refine blk_alloc ?_ _)); exact BK216.out) hb); have n2_ := Aside0.mk (below_step (by repeat (first | (with_reducible first | exact HB.out | apply below_alloc | apply pw_below_drewN | apply below_drew1 | refine below_set ?_ GE216.out) | exact HB.out)) hb); clear HO_5; clear BK216; clear HB; have HO_5 := n0_; have BK216 := n1_; have HB := n2_; clear n0_ n1_ n2_; (try clear hb); (try clear hb2); (try clear hk); (try clear hi)))
                        go_roundg k1
                        case measure => have := HK1.out; omega
                        case rel => exact ⟨(wrap64 (x38_1 + 1)), (by first | rfl | (simp; done) | (simp [*]; done)), H', ⟨by have := HK1.out; omega⟩, ⟨by (with_reducible repeat (first | apply Kd.R_alloc | apply Kd.R_drewN | apply Kd.R_drew)); exact HO_5.out⟩, ⟨by (with_reducible repeat (first | refine blk_drewN ?_ _ | refine blk_drew ?_ | refine blk_alloc ?_ _)); exact BK216.out⟩, ⟨by repeat (first | (with_reducible first | exact HB.out | apply below_alloc | apply pw_below_drewN | apply below_drew1 | refine below_set ?_ GE216.out) | exact HB.out)⟩⟩
                      · rw [if_neg c26] at H
                        have c26b0 : (t224 == 0) = false := beq_eq_false_iff_ne.mpr c26
                        have c26b1 : (t224 != 0) = true := bne_iff_ne.mpr c26
                        simp only [Option.some.injEq, Prod.mk.injEq] at H
                        obtain ⟨rfl, rfl, rfl⟩ := H
                        go_wp2_with (first | ((with_reducible refine gate_callee (f := 18) rfl ?_); refine goesL_ (some 43) rfl rfl Tryd.func18 (by kernel_rfl) rfl #[.slice (some ad220) y221.length co22, .int .i64 x38_1] rfl (by (try simp only [List.map_toArray, List.map_cons, List.map_nil]); first | done | rfl | (simp only [List.length_drop, List.length_take]; rfl)) ?_; (with_reducible refine (wordlist_entry.calls k1 _ _ y221 x38_1 t224 _ ?side1 ?side2 A25.out).mono ?_); (case side1 => repeat (first | exact (Kd.R_reads' HO_5.out).2.2 | (with_reducible refine Kd.C_alloc ?_ _) | (with_reducible refine Kd.C_drewN ?_ _) | (with_reducible refine Kd.C_drew ?_))); (case side2 => exact (Kd.R_reads' HO_5.out).2.1); rintro e w28 ⟨rfl, hb⟩; refine ⟨_, rfl, ?_⟩; have n0_ := Aside0.mk (Kd.R_below (by (with_reducible repeat (first | apply Kd.R_alloc | apply Kd.R_drewN | apply Kd.R_drew)); exact HO_5.out) hb); have n1_ := Aside0.mk (blk_below (g := gb216) (o := .cells #[.slice none 0 0] 25 (0, 0)) (by (with_reducible repeat (first | refine blk_drewN ?_ _ | refine blk_drew ?_ | refine blk_alloc ?_ _)); exact BK216.out) hb); have n2_ := Aside0.mk (below_step (by repeat (first | (with_reducible first | exact HB.out | apply below_alloc | apply pw_below_drewN | apply below_drew1 | refine below_set ?_ GE216.out) | exact HB.out)) hb); clear HO_5; clear BK216; clear HB; have HO_5 := n0_; have BK216 := n1_; have HB := n2_; clear n0_ n1_ n2_; (try clear hb); (try clear hb2); (try clear hk); (try clear hi); have hcz29_0 : w28.cell? ⟨gb216, 0, none⟩ = some (.slice none 0 0) := (blk_cell BK216.out 0).trans rfl; have hfz29_0 := blk_frozen BK216.out 0))
                        refine bodyPost_ret (results_ctt rfl _ _ gb216 25 #[.slice none 0 0] (0, 0) _ rfl (by (with_reducible repeat (first | refine blk_drewN ?_ _ | refine blk_drew ?_ | refine blk_alloc ?_ _)); refine blk_put (cs := #[.slice none 0 0]) ?_ 0 _ rfl; (with_reducible repeat (first | refine blk_drewN ?_ _ | refine blk_drew ?_ | refine blk_alloc ?_ _)); exact BK216.out) Tryd.underlying25 rfl (by kernel_rfl)) rfl ?_
                        exact ⟨_, by first | rfl | (simp [errW_none, errW_some] <;> rfl) | (simp only [← hji9]; first | rfl | (simp [errW_none, errW_some] <;> rfl)) | (simp [*, errW_none, errW_some] <;> rfl), by first | exact Kd.R_nil _ _ _ _ _ | exact Kd.N_nil _ _ _ _ _ | exact Kd.V_nil _ _ _ _ _ | exact Kd.Q_nil _ _ _ _ _ | exact Kd.S_nil _ _ _ _ _, by repeat (first | (with_reducible first | exact HB.out | apply below_alloc | apply pw_below_drewN | apply below_drew1 | refine below_set ?_ GE216.out) | exact HB.out)⟩
                    · rw [if_neg c24] at H
                      have c24b0 : decide (x38_1 < (y221.length : Int)) = false := decide_eq_false c24
                      clear c24
                      simp only [Option.some.injEq, Prod.mk.injEq] at H
                      obtain ⟨rfl, rfl, rfl⟩ := H
                      have hcz30_0 : wr.cell? ⟨gb216, 0, none⟩ = some (.slice none 0 0) := (blk_cell BK216.out 0).trans rfl
                      have hfz30_0 := blk_frozen BK216.out 0
                      go_wp2
                      refine bodyPost_ret (results_ctt rfl _ _ gb216 25 #[.slice (some ad220) y221.length co22] (0, 0) _ rfl (by (with_reducible repeat (first | refine blk_drewN ?_ _ | refine blk_drew ?_ | refine blk_alloc ?_ _)); refine blk_put (cs := #[.slice none 0 0]) ?_ 0 _ rfl; (with_reducible repeat (first | refine blk_drewN ?_ _ | refine blk_drew ?_ | refine blk_alloc ?_ _)); exact BK216.out) Tryd.underlying25 rfl (by kernel_rfl)) rfl ?_
                      exact ⟨_, by first | rfl | (simp [errW_none, errW_some] <;> rfl) | (simp only [← hji9]; first | rfl | (simp [errW_none, errW_some] <;> rfl)) | (simp [*, errW_none, errW_some] <;> rfl), by (with_reducible repeat (first | apply Kd.R_alloc | apply Kd.R_drewN | apply Kd.R_drew)); exact Kd.R_mono (Kd.R_far (p := ⟨gb216, 0, none⟩) (Kd.R_types HO_5.out BK216.out (by decide)) (fun _ hk => hk.2) (.slice (some ad220) y221.length co22)) (fun _ hk => trivial), by repeat (first | (with_reducible first | exact HB.out | apply below_alloc | apply pw_below_drewN | apply below_drew1 | refine below_set ?_ GE216.out) | exact HB.out)⟩
            · rw [if_neg c13] at H
              exact absurd H (by simp)
          · rw [if_neg c12] at H
            have c12b0 : ((rdOf ByteArray.empty t217 (ji9)).toList == ([] : List UInt8)) = false := beq_eq_false_iff_ne.mpr c12
            have c12b1 : ((rdOf ByteArray.empty t217 (ji9)).toList != ([] : List UInt8)) = true := bne_iff_ne.mpr c12
            simp only [Option.some.injEq, Prod.mk.injEq] at H
            obtain ⟨rfl, rfl, rfl⟩ := H
            go_enter Tryd.func6, Tryd.ntmps6
            go_wp2_with (first | ((with_reducible refine gate_dst (N := 2) rfl ?_); refine box_event ?hg (N := 2) ?hd (cs := #[.slice none 0 0]) (t := 25) ?hr ?_; (case hd => rfl); (case hg => rfl); (case hr => first | (go_simp; done) | (go_simp; rfl)); intro gb216 hg w31 hbox hb; have n0_ := Aside0.mk (below_step (by repeat (first | (with_reducible first | exact HB.out | apply below_alloc | apply pw_below_drewN | apply below_drew1) | exact HB.out)) hb); have n1_ := Aside0.mk (hbox); have n2_ := Aside0.mk ((by rw [hg]; exact (below_size (by repeat (first | (with_reducible first | exact HB.out | apply below_alloc | apply pw_below_drewN | apply below_drew1) | exact HB.out))) : w.heap.size ≤ gb216)); have n3_ := Aside0.mk ((by rw [hg]; exact (below_size (by repeat (first | (with_reducible first | exact HB.out | apply below_alloc | apply pw_below_drewN | apply below_drew1) | exact HB.out))) : w.heap.size ≤ gb216)); clear HB; have HB := n0_; have BK216 := n1_; have GW216 := n2_; have GE216 := n3_; clear n0_ n1_ n2_ n3_; clear hb hbox hg) | ((with_reducible refine gate_callee (f := 17) rfl ?_); refine goesL_ (some 17) rfl rfl Tryd.func17 (by kernel_rfl) rfl #[.string a0, .string (⟨#[10]⟩ : ByteArray)] rfl (by (try simp only [List.map_toArray, List.map_cons, List.map_nil]); first | done | rfl | (simp only [List.length_drop, List.length_take]; rfl)) ?_; (with_reducible refine (strings_Split.calls a0 (⟨#[10]⟩ : ByteArray) t217 _ A8.out).mono ?_); rintro e w32 ⟨v218, rfl, ho0, hb⟩; refine ⟨_, rfl, ?_⟩; have n0_ := Aside0.mk (Kd.R_lower ho0 (below_size (by repeat (first | (with_reducible first | exact HB.out | apply below_alloc | apply pw_below_drewN | apply below_drew1 | refine below_set ?_ GE216.out) | exact HB.out)))); have n1_ := Aside0.mk (blk_below (g := gb216) (o := .cells #[.slice none 0 0] 25 (0, 0)) (by (with_reducible repeat (first | refine blk_drewN ?_ _ | refine blk_drew ?_ | refine blk_alloc ?_ _)); exact BK216.out) hb); have n2_ := Aside0.mk (below_step (by repeat (first | (with_reducible first | exact HB.out | apply below_alloc | apply pw_below_drewN | apply below_drew1 | refine below_set ?_ GE216.out) | exact HB.out)) hb); clear BK216; clear HB; have HO219 := n0_; have BK216 := n1_; have HB := n2_; clear n0_ n1_ n2_; (try clear hb); (try clear hb2); (try clear hk); (try clear hi); (try clear ho0); obtain ⟨Ao33, co33, eo33⟩ := Kd.R_slice HO219.out; subst eo33; have p220 : 0 ≤ ((ji9) : Int) := of_decide_eq_true (by first | (with_reducible assumption) | assumption); have q220 : (ji9) < (t217.length : Int) := of_decide_eq_true (by first | (with_reducible assumption) | assumption); obtain ⟨ad220, e220, hx220_0⟩ := Kd.at_string (Kd.R_reads' HO219.out).2.2 (ji9) p220 q220; cases e220; replace p220 := eq_true p220; replace q220 := eq_true q220; have hcz34_0 : w32.cell? ⟨gb216, 0, none⟩ = some (.slice none 0 0) := (blk_cell BK216.out 0).trans rfl; have hfz34_0 := blk_frozen BK216.out 0))
            refine bodyPost_ret (results_ctt rfl _ _ gb216 25 #[.slice none 0 0] (0, 0) _ rfl (by (with_reducible repeat (first | refine blk_drewN ?_ _ | refine blk_drew ?_ | refine blk_alloc ?_ _)); refine blk_put (cs := #[.slice none 0 0]) ?_ 0 _ rfl; (with_reducible repeat (first | refine blk_drewN ?_ _ | refine blk_drew ?_ | refine blk_alloc ?_ _)); exact BK216.out) Tryd.underlying25 rfl (by kernel_rfl)) rfl ?_
            exact ⟨_, by first | rfl | (simp [errW_none, errW_some] <;> rfl) | (simp only [← hji9]; first | rfl | (simp [errW_none, errW_some] <;> rfl)) | (simp [*, errW_none, errW_some] <;> rfl), by first | exact Kd.R_nil _ _ _ _ _ | exact Kd.N_nil _ _ _ _ _ | exact Kd.V_nil _ _ _ _ _ | exact Kd.Q_nil _ _ _ _ _ | exact Kd.S_nil _ _ _ _ _, by repeat (first | (with_reducible first | exact HB.out | apply below_alloc | apply pw_below_drewN | apply below_drew1 | refine below_set ?_ GE216.out) | exact HB.out)⟩
        · rw [if_neg c11] at H
          exact absurd H (by simp)
      · rw [if_neg c10] at H
        exact absurd H (by simp)

end Go.Proofs.YtdaooagikacboaaDoor.X
