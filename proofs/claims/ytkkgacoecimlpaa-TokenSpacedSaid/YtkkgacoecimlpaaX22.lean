-- printed by this session's xprint.py: out of the translation, by the kit's print with additions; Lean checks it
import Derived.Test.YtkkgacoecimlpaaWN
import Derived.Test.YtkkgacoecimlpaaWShare
import Derived.Test.YtkkgacoecimlpaaWRepsOne
import Derived.Test.YtkkgacoecimlpaaWGuard
import Derived.Test.YtkkgacoecimlpaaX0
import Derived.Test.YtkkgacoecimlpaaX4
import Derived.Test.YtkkgacoecimlpaaX10
import Derived.Test.YtkkgacoecimlpaaX17
import Derived.Test.YtkkgacoecimlpaaX23
namespace Go.Proofs.Ytkkgacoecimlpaa.X
open Go.RowKit Go.Proofs.YtkkgacoecimlpaaW.PrintWords Go.Proofs.YtkkgacoecimlpaaW.PrintLast Go.Proofs.YtkkgacoecimlpaaW.PrintMore
attribute [local go_sem] max2_int min2_int max_two min_two max_three min_three max_four min_four isSome_setCell   -- for this text's walks alone
set_option linter.unusedVariables false
set_option linter.unusedSimpArgs false

/-! ### strings_Count: function 24 -/
def strings_Count.f (a0 : ByteArray) (a1 : ByteArray) : Option (Int) := if a1.size = 1 then some ((Lib.countByte a0.data.toList (a1.data.toList.getD 0 0) : Int)) else none
theorem strings_Count.calls (a0 : ByteArray) (a1 : ByteArray) (r : Int) (w : World) (h : strings_Count.f a0 a1 = some r) :
    Calls Try.prog 24 #[.string a0, .string a1] w fun e w' => e = .returned (.int .i64 r) ∧ Drawn0 w w' := by
  unfold strings_Count.f at h
  split at h
  · rename_i hg
    obtain rfl := Option.some.inj h
    obtain ⟨c, rfl⟩ : ∃ c : UInt8, a1 = ⟨#[c]⟩ := by
      obtain ⟨⟨l⟩⟩ := a1
      match l, hg with
      | [c], _ => exact ⟨c, rfl⟩
    exact (Try.strings_Count_one a0 c w).mono fun e w' ⟨he, hw⟩ => ⟨he, hw ▸ Drawn0.refl _⟩
  · cases h

/-! ### ancepslaw05_TokenSpaced: function 7 -/
mutual
def ancepslaw05_TokenSpaced.j0 : Nat → ByteArray → List Int → Bool → Option (Bool)
  | 0, _, _, _ => none
  | k + 1, x0, x1, x37 => if x37 = true then ((ancepslaw05_awake.f k).bind fun t286 => (some t286)) else ((ancepsref05_Tokens.f k x0).bind fun bt287 => (if bt287.2.2 = 0 then (ancepslaw05_TokenSpaced.l0 k x1 bt287.1 (⟨#[]⟩ : ByteArray) 1 ([] : List Int) bt287.1 (bt287.1.length : Int) 0) else (some true)))
def ancepslaw05_TokenSpaced.l0 : Nat → List Int → List (S31) → ByteArray → Int → List Int → List (S31) → Int → Int → Option (Bool)
  | 0, _, _, _, _, _, _, _, _ => none
  | k + 1, x1, x5, x8, x9, x10, x47, x48, x49 => if x49 < x48 then (if 0 ≤ x49 then (if x49 < (x47.length : Int) then ((some (([(⟨#[32]⟩ : ByteArray), (⟨#[10]⟩ : ByteArray), (⟨#[9, 35, 32, 97, 32, 34, 99, 111, 109, 109, 101, 110, 116, 10]⟩ : ByteArray), (⟨#[32, 13, 10, 10, 32]⟩ : ByteArray)] : List ByteArray) : List ByteArray)).bind fun y294 => (if (x1.length : Int) = 0 then (none) else (if 0 ≤ (Int.tmod x49 (x1.length : Int)) then (if (Int.tmod x49 (x1.length : Int)) < (x1.length : Int) then (if 0 ≤ (Int.tmod (rd x1 (Int.tmod x49 (x1.length : Int))) 4) then (if (Int.tmod (rd x1 (Int.tmod x49 (x1.length : Int))) 4) < (y294.length : Int) then ((strings_Count.f (rdOf ByteArray.empty y294 (Int.tmod (rd x1 (Int.tmod x49 (x1.length : Int))) 4)) (⟨#[10]⟩ : ByteArray)).bind fun t299 => (if x10.length < 17592186044416 then ((ancepsref05_Write.f k (([(⟨(rd_T31 x47 x49).f0, (rd_T31 x47 x49).f1, (rd_T31 x47 x49).f2⟩ : S31)] : List (S31)))).bind fun bt306 => (if (rdOf ByteArray.empty y294 (Int.tmod (rd x1 (Int.tmod x49 (x1.length : Int))) 4)).size + bt306.1.size ≤ 9223372036854775807 then (if x8.size + ((rdOf ByteArray.empty y294 (Int.tmod (rd x1 (Int.tmod x49 (x1.length : Int))) 4)) ++ bt306.1).size ≤ 9223372036854775807 then (ancepslaw05_TokenSpaced.l0 k x1 x5 (x8 ++ ((rdOf ByteArray.empty y294 (Int.tmod (rd x1 (Int.tmod x49 (x1.length : Int))) 4)) ++ bt306.1)) (wrap64 (x9 + t299)) (x10 ++ [wrap64 (x9 + t299)]) x47 x48 (wrap64 (x49 + 1))) else (none)) else (none))) else (none))) else (none)) else (none)) else (none)) else (none)))) else (none)) else (none)) else ((token_Tokens.f k x8).bind fun bt308 => (if bt308.2.2 = 0 then ((ancepsref05_Same.f k x5 bt308.1).bind fun t313 => (ancepslaw05_TokenSpaced.j2 k x8 x10 bt308.1 bt308.2.2 (!t313))) else (ancepslaw05_TokenSpaced.j2 k x8 x10 bt308.1 bt308.2.2 true)))
def ancepslaw05_TokenSpaced.j2 : Nat → ByteArray → List Int → List (S31) → Int → Bool → Option (Bool)
  | 0, _, _, _, _, _ => none
  | k + 1, x8, x10, x16, x18, x98 => if x98 = true then (if (x8.size : Int) > 20000 then (some (x18 == 3)) else (some false)) else (ancepslaw05_TokenSpaced.l1 k x10 x16 (x16.length : Int) 0)
def ancepslaw05_TokenSpaced.l1 : Nat → List Int → List (S31) → Int → Int → Option (Bool)
  | 0, _, _, _, _ => none
  | k + 1, x10, x106, x107, x108 => if x108 < x107 then (if 0 ≤ x108 then (if x108 < (x106.length : Int) then (if x108 < (x10.length : Int) then (if ((rd_T31 x106 x108).f2) = (rd x10 x108) then (ancepslaw05_TokenSpaced.l1 k x10 x106 x107 (wrap64 (x108 + 1))) else (some false)) else (none)) else (none)) else (none)) else (some true)
end
def ancepslaw05_TokenSpaced.f (k : Nat) (a0 : ByteArray) (l1 : List Int) : Option (Bool) := (ancepslaw05_awake.f k).bind fun t285 => (if t285 = true then (if (a0.size : Int) > 2000 then (ancepslaw05_TokenSpaced.j0 k a0 l1 true) else (if (l1.length : Int) = 0 then (ancepslaw05_TokenSpaced.j0 k a0 l1 true) else (ancepslaw05_TokenSpaced.j0 k a0 l1 (decide ((l1.length : Int) > 200))))) else (ancepslaw05_TokenSpaced.j0 k a0 l1 true))
theorem ancepslaw05_TokenSpaced.mono_l : ∀ k, (∀ y0 y1 y2, LeO (ancepslaw05_TokenSpaced.j0 k y0 y1 y2) (ancepslaw05_TokenSpaced.j0 (k + 1) y0 y1 y2)) ∧ (∀ y0 y1 y2 y3 y4 y5 y6 y7, LeO (ancepslaw05_TokenSpaced.l0 k y0 y1 y2 y3 y4 y5 y6 y7) (ancepslaw05_TokenSpaced.l0 (k + 1) y0 y1 y2 y3 y4 y5 y6 y7)) ∧ (∀ y0 y1 y2 y3 y4, LeO (ancepslaw05_TokenSpaced.j2 k y0 y1 y2 y3 y4) (ancepslaw05_TokenSpaced.j2 (k + 1) y0 y1 y2 y3 y4)) ∧ (∀ y0 y1 y2 y3, LeO (ancepslaw05_TokenSpaced.l1 k y0 y1 y2 y3) (ancepslaw05_TokenSpaced.l1 (k + 1) y0 y1 y2 y3))
  | 0 => ⟨fun _ _ _ r h => by simp [ancepslaw05_TokenSpaced.j0] at h, fun _ _ _ _ _ _ _ _ r h => by simp [ancepslaw05_TokenSpaced.l0] at h, fun _ _ _ _ _ r h => by simp [ancepslaw05_TokenSpaced.j2] at h, fun _ _ _ _ r h => by simp [ancepslaw05_TokenSpaced.l1] at h⟩
  | k + 1 => by
    obtain ⟨ih0, ih1, ih2, ih3⟩ := ancepslaw05_TokenSpaced.mono_l k
    refine ⟨?_, ?_, ?_, ?_⟩
    · intro y0 y1 y2
      unfold ancepslaw05_TokenSpaced.j0
      repeat' first
      | (with_reducible exact ih0 _ _ _)
      | (with_reducible exact ih1 _ _ _ _ _ _ _ _)
      | (with_reducible exact ih2 _ _ _ _ _)
      | (with_reducible exact ih3 _ _ _ _)
      | (with_reducible exact ancepslaw05_awake.mono _)
      | (with_reducible exact ancepsref05_Same.mono _ _ _)
      | (with_reducible exact ancepsref05_Tokens.mono _ _)
      | (with_reducible exact ancepsref05_Write.mono _ _)
      | (with_reducible exact token_Tokens.mono _ _)
      | (with_reducible exact LeO.refl _)
      | (with_reducible exact LeO.none _)
      | (with_reducible refine LeO.ite ?_ ?_)
      | (with_reducible refine LeO.bind ?_ (fun _ => ?_))
      | exact ih0 _ _ _
      | exact ih1 _ _ _ _ _ _ _ _
      | exact ih2 _ _ _ _ _
      | exact ih3 _ _ _ _
      | exact ancepslaw05_awake.mono _
      | exact ancepsref05_Same.mono _ _ _
      | exact ancepsref05_Tokens.mono _ _
      | exact ancepsref05_Write.mono _ _
      | exact token_Tokens.mono _ _
      | exact LeO.none _
      | refine LeO.ite ?_ ?_
      | refine LeO.bind ?_ (fun _ => ?_)
    · intro y0 y1 y2 y3 y4 y5 y6 y7
      unfold ancepslaw05_TokenSpaced.l0
      repeat' first
      | (with_reducible exact ih0 _ _ _)
      | (with_reducible exact ih1 _ _ _ _ _ _ _ _)
      | (with_reducible exact ih2 _ _ _ _ _)
      | (with_reducible exact ih3 _ _ _ _)
      | (with_reducible exact ancepslaw05_awake.mono _)
      | (with_reducible exact ancepsref05_Same.mono _ _ _)
      | (with_reducible exact ancepsref05_Tokens.mono _ _)
      | (with_reducible exact ancepsref05_Write.mono _ _)
      | (with_reducible exact token_Tokens.mono _ _)
      | (with_reducible exact LeO.refl _)
      | (with_reducible exact LeO.none _)
      | (with_reducible refine LeO.ite ?_ ?_)
      | (with_reducible refine LeO.bind ?_ (fun _ => ?_))
      | exact ih0 _ _ _
      | exact ih1 _ _ _ _ _ _ _ _
      | exact ih2 _ _ _ _ _
      | exact ih3 _ _ _ _
      | exact ancepslaw05_awake.mono _
      | exact ancepsref05_Same.mono _ _ _
      | exact ancepsref05_Tokens.mono _ _
      | exact ancepsref05_Write.mono _ _
      | exact token_Tokens.mono _ _
      | exact LeO.none _
      | refine LeO.ite ?_ ?_
      | refine LeO.bind ?_ (fun _ => ?_)
    · intro y0 y1 y2 y3 y4
      unfold ancepslaw05_TokenSpaced.j2
      repeat' first
      | (with_reducible exact ih0 _ _ _)
      | (with_reducible exact ih1 _ _ _ _ _ _ _ _)
      | (with_reducible exact ih2 _ _ _ _ _)
      | (with_reducible exact ih3 _ _ _ _)
      | (with_reducible exact ancepslaw05_awake.mono _)
      | (with_reducible exact ancepsref05_Same.mono _ _ _)
      | (with_reducible exact ancepsref05_Tokens.mono _ _)
      | (with_reducible exact ancepsref05_Write.mono _ _)
      | (with_reducible exact token_Tokens.mono _ _)
      | (with_reducible exact LeO.refl _)
      | (with_reducible exact LeO.none _)
      | (with_reducible refine LeO.ite ?_ ?_)
      | (with_reducible refine LeO.bind ?_ (fun _ => ?_))
      | exact ih0 _ _ _
      | exact ih1 _ _ _ _ _ _ _ _
      | exact ih2 _ _ _ _ _
      | exact ih3 _ _ _ _
      | exact ancepslaw05_awake.mono _
      | exact ancepsref05_Same.mono _ _ _
      | exact ancepsref05_Tokens.mono _ _
      | exact ancepsref05_Write.mono _ _
      | exact token_Tokens.mono _ _
      | exact LeO.none _
      | refine LeO.ite ?_ ?_
      | refine LeO.bind ?_ (fun _ => ?_)
    · intro y0 y1 y2 y3
      unfold ancepslaw05_TokenSpaced.l1
      repeat' first
      | (with_reducible exact ih0 _ _ _)
      | (with_reducible exact ih1 _ _ _ _ _ _ _ _)
      | (with_reducible exact ih2 _ _ _ _ _)
      | (with_reducible exact ih3 _ _ _ _)
      | (with_reducible exact ancepslaw05_awake.mono _)
      | (with_reducible exact ancepsref05_Same.mono _ _ _)
      | (with_reducible exact ancepsref05_Tokens.mono _ _)
      | (with_reducible exact ancepsref05_Write.mono _ _)
      | (with_reducible exact token_Tokens.mono _ _)
      | (with_reducible exact LeO.refl _)
      | (with_reducible exact LeO.none _)
      | (with_reducible refine LeO.ite ?_ ?_)
      | (with_reducible refine LeO.bind ?_ (fun _ => ?_))
      | exact ih0 _ _ _
      | exact ih1 _ _ _ _ _ _ _ _
      | exact ih2 _ _ _ _ _
      | exact ih3 _ _ _ _
      | exact ancepslaw05_awake.mono _
      | exact ancepsref05_Same.mono _ _ _
      | exact ancepsref05_Tokens.mono _ _
      | exact ancepsref05_Write.mono _ _
      | exact token_Tokens.mono _ _
      | exact LeO.none _
      | refine LeO.ite ?_ ?_
      | refine LeO.bind ?_ (fun _ => ?_)
theorem ancepslaw05_TokenSpaced.mono : ∀ a0 a1 k, LeO (ancepslaw05_TokenSpaced.f k a0 a1) (ancepslaw05_TokenSpaced.f (k + 1) a0 a1) := by
  intro a0 a1 k
  obtain ⟨ih0, ih1, ih2, ih3⟩ := ancepslaw05_TokenSpaced.mono_l k
  unfold ancepslaw05_TokenSpaced.f
  repeat' first
      | (with_reducible exact ih0 _ _ _)
      | (with_reducible exact ih1 _ _ _ _ _ _ _ _)
      | (with_reducible exact ih2 _ _ _ _ _)
      | (with_reducible exact ih3 _ _ _ _)
      | (with_reducible exact ancepslaw05_awake.mono _)
      | (with_reducible exact ancepsref05_Same.mono _ _ _)
      | (with_reducible exact ancepsref05_Tokens.mono _ _)
      | (with_reducible exact ancepsref05_Write.mono _ _)
      | (with_reducible exact token_Tokens.mono _ _)
      | (with_reducible exact LeO.refl _)
      | (with_reducible exact LeO.none _)
      | (with_reducible refine LeO.ite ?_ ?_)
      | (with_reducible refine LeO.bind ?_ (fun _ => ?_))
      | exact ih0 _ _ _
      | exact ih1 _ _ _ _ _ _ _ _
      | exact ih2 _ _ _ _ _
      | exact ih3 _ _ _ _
      | exact ancepslaw05_awake.mono _
      | exact ancepsref05_Same.mono _ _ _
      | exact ancepsref05_Tokens.mono _ _
      | exact ancepsref05_Write.mono _ _
      | exact token_Tokens.mono _ _
      | exact LeO.none _
      | refine LeO.ite ?_ ?_
      | refine LeO.bind ?_ (fun _ => ?_)
set_option maxHeartbeats 8000000 in
set_option maxRecDepth 100000 in
theorem ancepslaw05_TokenSpaced.calls (k : Nat) (a0 : ByteArray) (A1 : Option Addr) (c1 : Nat) (l1 : List Int) (r : Bool) (w : World) (hr1 : Kd.C (Kd.int .u8) w A1 l1.length l1) (hc1 : l1.length ≤ c1) (h : ancepslaw05_TokenSpaced.f k a0 l1 = some r) :
    Calls Try.prog 7 #[.string a0, .slice A1 l1.length c1] w fun e w' => e = .returned (.bool r) ∧ Below w.heap.size w w' := by
  have hu31 := Try.underlying31
  have HR1 := Aside0.mk hr1
  have HC1 := Aside0.mk hc1
  clear hr1 hc1
  have HB := Aside0.mk (Below.refl w.heap.size w)
  have H : ((ancepslaw05_awake.f k).bind fun t285 => (if t285 = true then (if (a0.size : Int) > 2000 then (ancepslaw05_TokenSpaced.j0 k a0 l1 true) else (if (l1.length : Int) = 0 then (ancepslaw05_TokenSpaced.j0 k a0 l1 true) else (ancepslaw05_TokenSpaced.j0 k a0 l1 (decide ((l1.length : Int) > 200))))) else (ancepslaw05_TokenSpaced.j0 k a0 l1 true))) = some r := h
  clear h
  have HC3 := Aside0.mk H
  clear H
  go_enter Try.func7, Try.ntmps7
  go_upto_region 1 with (fail)
  repeat (go_quiet (fail); go_upto_region 1 with (fail))
  go_cut [37] (fun v37 wc => ∃ (kq : Nat) (x37_2 : Bool), v37 = .bool x37_2 ∧ Aside0 (ancepslaw05_TokenSpaced.j0 kq a0 l1 x37_2 = some r) ∧ Aside0 (kq ≤ k) ∧ Aside0 (Below w.heap.size w wc))
  case first =>
    have H := HC3.out
    clear HC3
    replace H := Option.bind_eq_some_iff.mp H
    obtain ⟨t285, A40, H⟩ := H
    replace H : (if t285 = true then (if (a0.size : Int) > 2000 then (ancepslaw05_TokenSpaced.j0 k a0 l1 true) else (if (l1.length : Int) = 0 then (ancepslaw05_TokenSpaced.j0 k a0 l1 true) else (ancepslaw05_TokenSpaced.j0 k a0 l1 (decide ((l1.length : Int) > 200))))) else (ancepslaw05_TokenSpaced.j0 k a0 l1 true)) = some r := H
    have A4 := Aside0.mk A40
    clear A40
    by_cases c5 : t285 = true
    · subst c5
      have H1 : (if (a0.size : Int) > 2000 then (ancepslaw05_TokenSpaced.j0 k a0 l1 true) else (if (l1.length : Int) = 0 then (ancepslaw05_TokenSpaced.j0 k a0 l1 true) else (ancepslaw05_TokenSpaced.j0 k a0 l1 (decide ((l1.length : Int) > 200))))) = some r := by rw [if_pos rfl] at H; exact H
      clear H
      have H := H1
      clear H1
      by_cases c6 : (a0.size : Int) > 2000
      · rw [if_pos c6] at H
        have c6b0 : decide (2000 < (a0.size : Int)) = true := decide_eq_true c6
        have c6b1 : decide (2000 < a0.size) = true := decide_eq_true (by omega)
        clear c6
        (first | rw [c6b0] | (simp only [i64_w, i32_w]; rw [c6b0]) | skip)
        have H' := Aside0.mk H
        clear H
        go_wp2_with (first | (go_at_call 11; (with_reducible refine (ancepslaw05_awake.calls k  true _ A4.out).mono ?_); rintro e w7 ⟨rfl, hb⟩; have n0_ := Aside0.mk (below_step (by repeat (first | (with_reducible first | exact HB.out | apply below_alloc | apply pw_below_drewN | apply below_drew1) | exact HB.out)) hb); clear HB; have HB := n0_; clear n0_; (try clear hb); (try clear hb2); (try clear hk); (try clear hi)))
        repeat (go_quiet (first | (go_at_call 11; (with_reducible refine (ancepslaw05_awake.calls k  true _ A4.out).mono ?_); rintro e w7 ⟨rfl, hb⟩; have n0_ := Aside0.mk (below_step (by repeat (first | (with_reducible first | exact HB.out | apply below_alloc | apply pw_below_drewN | apply below_drew1) | exact HB.out)) hb); clear HB; have HB := n0_; clear n0_; (try clear hb); (try clear hb2); (try clear hk); (try clear hi))); try go_wp2_with (first | (go_at_call 11; (with_reducible refine (ancepslaw05_awake.calls k  true _ A4.out).mono ?_); rintro e w7 ⟨rfl, hb⟩; have n0_ := Aside0.mk (below_step (by repeat (first | (with_reducible first | exact HB.out | apply below_alloc | apply pw_below_drewN | apply below_drew1) | exact HB.out)) hb); clear HB; have HB := n0_; clear n0_; (try clear hb); (try clear hb2); (try clear hk); (try clear hi))))
        go_meet
        case rel => exact ⟨_, (true), (by first | rfl | (simp; done) | (simp [*]; done)), H', ⟨by first | omega | exact Nat.le_refl _⟩, ⟨by repeat (first | (with_reducible first | exact HB.out | apply below_alloc | apply pw_below_drewN | apply below_drew1) | exact HB.out)⟩⟩
      · rw [if_neg c6] at H
        have c6b0 : decide (2000 < (a0.size : Int)) = false := decide_eq_false c6
        have c6b1 : decide (2000 < a0.size) = false := decide_eq_false (by omega)
        clear c6
        (first | rw [c6b0] | (simp only [i64_w, i32_w]; rw [c6b0]) | skip)
        by_cases c8 : (l1.length : Int) = 0
        · rw [if_pos c8] at H
          have c8b0 : ((l1.length : Int) == 0) = true := beq_iff_eq.mpr c8
          have c8b1 : ((l1.length : Int) != 0) = false := bne_eq_false_iff_eq.mpr c8
          clear c8
          have H' := Aside0.mk H
          clear H
          go_wp2_with (first | (go_at_call 11; (with_reducible refine (ancepslaw05_awake.calls k  true _ A4.out).mono ?_); rintro e w9 ⟨rfl, hb⟩; have n0_ := Aside0.mk (below_step (by repeat (first | (with_reducible first | exact HB.out | apply below_alloc | apply pw_below_drewN | apply below_drew1) | exact HB.out)) hb); clear HB; have HB := n0_; clear n0_; (try clear hb); (try clear hb2); (try clear hk); (try clear hi)))
          repeat (go_quiet (first | (go_at_call 11; (with_reducible refine (ancepslaw05_awake.calls k  true _ A4.out).mono ?_); rintro e w9 ⟨rfl, hb⟩; have n0_ := Aside0.mk (below_step (by repeat (first | (with_reducible first | exact HB.out | apply below_alloc | apply pw_below_drewN | apply below_drew1) | exact HB.out)) hb); clear HB; have HB := n0_; clear n0_; (try clear hb); (try clear hb2); (try clear hk); (try clear hi))); try go_wp2_with (first | (go_at_call 11; (with_reducible refine (ancepslaw05_awake.calls k  true _ A4.out).mono ?_); rintro e w9 ⟨rfl, hb⟩; have n0_ := Aside0.mk (below_step (by repeat (first | (with_reducible first | exact HB.out | apply below_alloc | apply pw_below_drewN | apply below_drew1) | exact HB.out)) hb); clear HB; have HB := n0_; clear n0_; (try clear hb); (try clear hb2); (try clear hk); (try clear hi))))
          go_meet
          case rel => exact ⟨_, (true), (by first | rfl | (simp; done) | (simp [*]; done)), H', ⟨by first | omega | exact Nat.le_refl _⟩, ⟨by repeat (first | (with_reducible first | exact HB.out | apply below_alloc | apply pw_below_drewN | apply below_drew1) | exact HB.out)⟩⟩
        · rw [if_neg c8] at H
          have c8b0 : ((l1.length : Int) == 0) = false := beq_eq_false_iff_ne.mpr c8
          have c8b1 : ((l1.length : Int) != 0) = true := bne_iff_ne.mpr c8
          have c8b2 : ¬ (l1 = []) := fun h_ => c8 (by rw [h_]; rfl)
          have H' := Aside0.mk H
          clear H
          go_wp2_with (first | (go_at_call 11; (with_reducible refine (ancepslaw05_awake.calls k  true _ A4.out).mono ?_); rintro e w10 ⟨rfl, hb⟩; have n0_ := Aside0.mk (below_step (by repeat (first | (with_reducible first | exact HB.out | apply below_alloc | apply pw_below_drewN | apply below_drew1) | exact HB.out)) hb); clear HB; have HB := n0_; clear n0_; (try clear hb); (try clear hb2); (try clear hk); (try clear hi)))
          repeat (go_quiet (first | (go_at_call 11; (with_reducible refine (ancepslaw05_awake.calls k  true _ A4.out).mono ?_); rintro e w10 ⟨rfl, hb⟩; have n0_ := Aside0.mk (below_step (by repeat (first | (with_reducible first | exact HB.out | apply below_alloc | apply pw_below_drewN | apply below_drew1) | exact HB.out)) hb); clear HB; have HB := n0_; clear n0_; (try clear hb); (try clear hb2); (try clear hk); (try clear hi))); try go_wp2_with (first | (go_at_call 11; (with_reducible refine (ancepslaw05_awake.calls k  true _ A4.out).mono ?_); rintro e w10 ⟨rfl, hb⟩; have n0_ := Aside0.mk (below_step (by repeat (first | (with_reducible first | exact HB.out | apply below_alloc | apply pw_below_drewN | apply below_drew1) | exact HB.out)) hb); clear HB; have HB := n0_; clear n0_; (try clear hb); (try clear hb2); (try clear hk); (try clear hi))))
          go_meet
          case rel => exact ⟨_, (decide ((l1.length : Int) > 200)), (by first | rfl | (simp; done) | (simp [*]; done)), H', ⟨by first | omega | exact Nat.le_refl _⟩, ⟨by repeat (first | (with_reducible first | exact HB.out | apply below_alloc | apply pw_below_drewN | apply below_drew1) | exact HB.out)⟩⟩
    · replace c5 := Bool.eq_false_iff.mpr c5
      subst c5
      have H1 : (ancepslaw05_TokenSpaced.j0 k a0 l1 true) = some r := by rw [if_neg (show ¬ (false = true) by decide)] at H; exact H
      clear H
      have H := H1
      clear H1
      have H' := Aside0.mk H
      clear H
      go_wp2_with (first | (go_at_call 11; (with_reducible refine (ancepslaw05_awake.calls k  false _ A4.out).mono ?_); rintro e w11 ⟨rfl, hb⟩; have n0_ := Aside0.mk (below_step (by repeat (first | (with_reducible first | exact HB.out | apply below_alloc | apply pw_below_drewN | apply below_drew1) | exact HB.out)) hb); clear HB; have HB := n0_; clear n0_; (try clear hb); (try clear hb2); (try clear hk); (try clear hi)))
      repeat (go_quiet (first | (go_at_call 11; (with_reducible refine (ancepslaw05_awake.calls k  false _ A4.out).mono ?_); rintro e w11 ⟨rfl, hb⟩; have n0_ := Aside0.mk (below_step (by repeat (first | (with_reducible first | exact HB.out | apply below_alloc | apply pw_below_drewN | apply below_drew1) | exact HB.out)) hb); clear HB; have HB := n0_; clear n0_; (try clear hb); (try clear hb2); (try clear hk); (try clear hi))); try go_wp2_with (first | (go_at_call 11; (with_reducible refine (ancepslaw05_awake.calls k  false _ A4.out).mono ?_); rintro e w11 ⟨rfl, hb⟩; have n0_ := Aside0.mk (below_step (by repeat (first | (with_reducible first | exact HB.out | apply below_alloc | apply pw_below_drewN | apply below_drew1) | exact HB.out)) hb); clear HB; have HB := n0_; clear n0_; (try clear hb); (try clear hb2); (try clear hk); (try clear hi))))
      go_meet
      case rel => exact ⟨_, (true), (by first | rfl | (simp; done) | (simp [*]; done)), H', ⟨by first | omega | exact Nat.le_refl _⟩, ⟨by repeat (first | (with_reducible first | exact HB.out | apply below_alloc | apply pw_below_drewN | apply below_drew1) | exact HB.out)⟩⟩
  case rest =>
    clear HC3
    try clear c1
    try clear p2
    try clear c5
    try clear c6
    try clear c6b0
    try clear c6b1
    try clear c7
    try clear c8
    try clear c8b0
    try clear c8b1
    try clear c8b2
    obtain ⟨kq, x37_2, rfl, HA, HJ2, HB⟩ := hcut
    cases kq with
    | zero => exact absurd HA.out (by simp [ancepslaw05_TokenSpaced.j0])
    | succ kj2 =>
      have H := HA.out
      clear HA
      simp only [ancepslaw05_TokenSpaced.j0] at H
      by_cases c12 : x37_2 = true
      · subst c12
        have H1 : ((ancepslaw05_awake.f kj2).bind fun t286 => (some t286)) = some r := by rw [if_pos rfl] at H; exact H
        clear H
        have H := H1
        clear H1
        replace H := Option.bind_eq_some_iff.mp H
        obtain ⟨t286, A130, H⟩ := H
        replace H : (some t286) = some r := H
        have A13 := Aside0.mk A130
        clear A130
        obtain rfl := Option.some.inj H
        go_wp2_with (first | (go_at_call 11; (with_reducible refine (ancepslaw05_awake.calls kj2  t286 _ A13.out).mono ?_); rintro e w14 ⟨rfl, hb⟩; have n0_ := Aside0.mk (below_step (by repeat (first | (with_reducible first | exact HB.out | apply below_alloc | apply pw_below_drewN | apply below_drew1) | exact HB.out)) hb); clear HB; have HB := n0_; clear n0_; (try clear hb); (try clear hb2); (try clear hk); (try clear hi)))
        repeat (go_quiet (first | (go_at_call 11; (with_reducible refine (ancepslaw05_awake.calls kj2  t286 _ A13.out).mono ?_); rintro e w14 ⟨rfl, hb⟩; have n0_ := Aside0.mk (below_step (by repeat (first | (with_reducible first | exact HB.out | apply below_alloc | apply pw_below_drewN | apply below_drew1) | exact HB.out)) hb); clear HB; have HB := n0_; clear n0_; (try clear hb); (try clear hb2); (try clear hk); (try clear hi))); try go_wp2_with (first | (go_at_call 11; (with_reducible refine (ancepslaw05_awake.calls kj2  t286 _ A13.out).mono ?_); rintro e w14 ⟨rfl, hb⟩; have n0_ := Aside0.mk (below_step (by repeat (first | (with_reducible first | exact HB.out | apply below_alloc | apply pw_below_drewN | apply below_drew1) | exact HB.out)) hb); clear HB; have HB := n0_; clear n0_; (try clear hb); (try clear hb2); (try clear hk); (try clear hi))))
        go_ret
        exact ⟨by first | rfl | (simp [errW_none, errW_some] <;> rfl) | (simp [*, errW_none, errW_some] <;> rfl), by repeat (first | (with_reducible first | exact HB.out | apply below_alloc | apply pw_below_drewN | apply below_drew1) | exact HB.out)⟩
      · replace c12 := Bool.eq_false_iff.mpr c12
        subst c12
        have H1 : ((ancepsref05_Tokens.f kj2 a0).bind fun bt287 => (if bt287.2.2 = 0 then (ancepslaw05_TokenSpaced.l0 kj2 l1 bt287.1 (⟨#[]⟩ : ByteArray) 1 ([] : List Int) bt287.1 (bt287.1.length : Int) 0) else (some true))) = some r := by rw [if_neg (show ¬ (false = true) by decide)] at H; exact H
        clear H
        have H := H1
        clear H1
        replace H := Option.bind_eq_some_iff.mp H
        obtain ⟨⟨t287, t288, t289⟩, A150, H⟩ := H
        replace H : (if t289 = 0 then (ancepslaw05_TokenSpaced.l0 kj2 l1 t287 (⟨#[]⟩ : ByteArray) 1 ([] : List Int) t287 (t287.length : Int) 0) else (some true)) = some r := H
        have A15 := Aside0.mk A150
        clear A150
        by_cases c16 : t289 = 0
        · rw [if_pos c16] at H
          have c16b0 : (t289 == 0) = true := beq_iff_eq.mpr c16
          have c16b1 : (t289 != 0) = false := bne_eq_false_iff_eq.mpr c16
          clear c16
          have H' := Aside0.mk H
          clear H
          go_wp2_with (first | (go_at_call 17; (with_reducible refine (ancepsref05_Tokens.calls kj2 a0 t287 t288 t289 _ A15.out).mono ?_); rintro e w17 ⟨v290, rfl, ho0, hb⟩; have n0_ := Aside0.mk (Kd.R_lower ho0 (below_size (by repeat (first | (with_reducible first | exact HB.out | apply below_alloc | apply pw_below_drewN | apply below_drew1) | exact HB.out)))); have n1_ := Aside0.mk (below_step (by repeat (first | (with_reducible first | exact HB.out | apply below_alloc | apply pw_below_drewN | apply below_drew1) | exact HB.out)) hb); clear HB; have HO291 := n0_; have HB := n1_; clear n0_ n1_; (try clear hb); (try clear hb2); (try clear hk); (try clear hi); (try clear ho0); obtain ⟨Ao18, co18, eo18⟩ := Kd.R_slice HO291.out; subst eo18))
          repeat (go_quiet (first | (go_at_call 17; (with_reducible refine (ancepsref05_Tokens.calls kj2 a0 t287 t288 t289 _ A15.out).mono ?_); rintro e w17 ⟨v290, rfl, ho0, hb⟩; have n0_ := Aside0.mk (Kd.R_lower ho0 (below_size (by repeat (first | (with_reducible first | exact HB.out | apply below_alloc | apply pw_below_drewN | apply below_drew1) | exact HB.out)))); have n1_ := Aside0.mk (below_step (by repeat (first | (with_reducible first | exact HB.out | apply below_alloc | apply pw_below_drewN | apply below_drew1) | exact HB.out)) hb); clear HB; have HO291 := n0_; have HB := n1_; clear n0_ n1_; (try clear hb); (try clear hb2); (try clear hk); (try clear hi); (try clear ho0); obtain ⟨Ao18, co18, eo18⟩ := Kd.R_slice HO291.out; subst eo18)); try go_wp2_with (first | (go_at_call 17; (with_reducible refine (ancepsref05_Tokens.calls kj2 a0 t287 t288 t289 _ A15.out).mono ?_); rintro e w17 ⟨v290, rfl, ho0, hb⟩; have n0_ := Aside0.mk (Kd.R_lower ho0 (below_size (by repeat (first | (with_reducible first | exact HB.out | apply below_alloc | apply pw_below_drewN | apply below_drew1) | exact HB.out)))); have n1_ := Aside0.mk (below_step (by repeat (first | (with_reducible first | exact HB.out | apply below_alloc | apply pw_below_drewN | apply below_drew1) | exact HB.out)) hb); clear HB; have HO291 := n0_; have HB := n1_; clear n0_ n1_; (try clear hb); (try clear hb2); (try clear hk); (try clear hi); (try clear ho0); obtain ⟨Ao18, co18, eo18⟩ := Kd.R_slice HO291.out; subst eo18)))
          go_loopg [8, 9, 10, 49] kj2 (fun kq v8 v9 v10 v49 w' => ∃ (x8_2 : ByteArray) (x9_2 : Int) (x10_2 : List Int) (x49_2 : Int), v8 = .string x8_2 ∧ v9 = .int .i64 x9_2 ∧ v49 = .int .i64 x49_2 ∧ Aside0 (ancepslaw05_TokenSpaced.l0 kq l1 t287 x8_2 x9_2 x10_2 t287 (t287.length : Int) x49_2 = some r) ∧ Aside0 (kq ≤ kj2) ∧ Aside0 (Kd.R k31 31 w' w.heap.size (fun _ => True) (.slice Ao18 t287.length co18) t287) ∧ Aside0 (Kd.R (Kd.int .i64) 3 w' w.heap.size (fun _ => True) v10 x10_2) ∧ Aside0 (Kd.R k31 31 w' w.heap.size (fun _ => True) (.slice Ao18 t287.length co18) t287) ∧ Aside0 (Below w.heap.size w w'))
          case atStart => exact ⟨((⟨#[]⟩ : ByteArray)), (1), (([] : List Int)), (0), (by first | rfl | (simp; done) | (simp [*]; done)), (by first | rfl | (simp; done) | (simp [*]; done)), (by first | rfl | (simp; done) | (simp [*]; done)), H', ⟨Nat.le_refl _⟩, ⟨by (with_reducible repeat (first | apply Kd.R_alloc | apply Kd.R_drewN | apply Kd.R_drew)); exact HO291.out⟩, ⟨by first | exact Kd.R_nil _ _ _ _ _ | exact Kd.N_nil _ _ _ _ _ | exact Kd.V_nil _ _ _ _ _ | exact Kd.Q_nil _ _ _ _ _ | exact Kd.S_nil _ _ _ _ _⟩, ⟨by (with_reducible repeat (first | apply Kd.R_alloc | apply Kd.R_drewN | apply Kd.R_drew)); exact HO291.out⟩, ⟨by repeat (first | (with_reducible first | exact HB.out | apply below_alloc | apply pw_below_drewN | apply below_drew1) | exact HB.out)⟩⟩
          case round =>
            clear H'
            try clear c1
            try clear p2
            try clear c5
            try clear c6
            try clear c6b0
            try clear c6b1
            try clear c7
            try clear c8
            try clear c8b0
            try clear c8b1
            try clear c8b2
            try clear c12
            try clear c16
            try clear c16b0
            try clear c16b1
            try clear p2
            obtain ⟨x8_2, x9_2, x10_2, x49_2, rfl, rfl, rfl, HA, HK2, HO_5, HO_10, HO_47, HB⟩ := hrel
            cases gk with
            | zero => exact absurd HA.out (by simp [ancepslaw05_TokenSpaced.l0])
            | succ k2 =>
              have H := HA.out
              clear HA
              simp only [ancepslaw05_TokenSpaced.l0] at H
              by_cases c19 : x49_2 < (t287.length : Int)
              · rw [if_pos c19] at H
                have c19b0 : decide (x49_2 < (t287.length : Int)) = true := decide_eq_true c19
                clear c19
                by_cases c20 : 0 ≤ x49_2
                · rw [if_pos c20] at H
                  have c20b0 : decide (0 ≤ x49_2) = true := decide_eq_true c20
                  clear c20
                  by_cases c21 : x49_2 < (t287.length : Int)
                  · rw [if_pos c21] at H
                    have c21b0 : decide (x49_2 < (t287.length : Int)) = true := decide_eq_true c21
                    clear c21
                    obtain ⟨y294, hy294⟩ : ∃ y_ : List ByteArray, y_ = (([(⟨#[32]⟩ : ByteArray), (⟨#[10]⟩ : ByteArray), (⟨#[9, 35, 32, 97, 32, 34, 99, 111, 109, 109, 101, 110, 116, 10]⟩ : ByteArray), (⟨#[32, 13, 10, 10, 32]⟩ : ByteArray)] : List ByteArray)) := ⟨_, rfl⟩
                    replace H : (if (l1.length : Int) = 0 then (none) else (if 0 ≤ (Int.tmod x49_2 (l1.length : Int)) then (if (Int.tmod x49_2 (l1.length : Int)) < (l1.length : Int) then (if 0 ≤ (Int.tmod (rd l1 (Int.tmod x49_2 (l1.length : Int))) 4) then (if (Int.tmod (rd l1 (Int.tmod x49_2 (l1.length : Int))) 4) < (y294.length : Int) then ((strings_Count.f (rdOf ByteArray.empty y294 (Int.tmod (rd l1 (Int.tmod x49_2 (l1.length : Int))) 4)) (⟨#[10]⟩ : ByteArray)).bind fun t299 => (if x10_2.length < 17592186044416 then ((ancepsref05_Write.f k2 (([(⟨(rd_T31 t287 x49_2).f0, (rd_T31 t287 x49_2).f1, (rd_T31 t287 x49_2).f2⟩ : S31)] : List (S31)))).bind fun bt306 => (if (rdOf ByteArray.empty y294 (Int.tmod (rd l1 (Int.tmod x49_2 (l1.length : Int))) 4)).size + bt306.1.size ≤ 9223372036854775807 then (if x8_2.size + ((rdOf ByteArray.empty y294 (Int.tmod (rd l1 (Int.tmod x49_2 (l1.length : Int))) 4)) ++ bt306.1).size ≤ 9223372036854775807 then (ancepslaw05_TokenSpaced.l0 k2 l1 t287 (x8_2 ++ ((rdOf ByteArray.empty y294 (Int.tmod (rd l1 (Int.tmod x49_2 (l1.length : Int))) 4)) ++ bt306.1)) (wrap64 (x9_2 + t299)) (x10_2 ++ [wrap64 (x9_2 + t299)]) t287 (t287.length : Int) (wrap64 (x49_2 + 1))) else (none)) else (none))) else (none))) else (none)) else (none)) else (none)) else (none))) = some r := by first | (rw [hy294]; with_reducible exact H) | (have H2_ := (Option.bind_some _ _).symm.trans H; rw [hy294]; with_reducible exact H2_) | (have H2_ := (Option.bind_some _ _).symm.trans H; with_reducible exact H2_) | with_reducible exact H | (rw [hy294]; exact H) | exact H
                    have Ny294 := Aside0.mk hy294
                    clear hy294
                    by_cases c22 : (l1.length : Int) = 0
                    · rw [if_pos c22] at H
                      exact absurd H (by simp)
                    · rw [if_neg c22] at H
                      have c22b0 : ((l1.length : Int) == 0) = false := beq_eq_false_iff_ne.mpr c22
                      have c22b1 : ((l1.length : Int) != 0) = true := bne_iff_ne.mpr c22
                      have c22b2 : ¬ (l1 = []) := fun h_ => c22 (by rw [h_]; rfl)
                      obtain ⟨ji23, hji23⟩ : ∃ j_ : Int, (Int.tmod x49_2 (l1.length : Int)) = j_ := ⟨_, rfl⟩
                      replace H : (if 0 ≤ (ji23) then (if (ji23) < (l1.length : Int) then (if 0 ≤ (Int.tmod (rd l1 (ji23)) 4) then (if (Int.tmod (rd l1 (ji23)) 4) < (y294.length : Int) then ((strings_Count.f (rdOf ByteArray.empty y294 (Int.tmod (rd l1 (ji23)) 4)) (⟨#[10]⟩ : ByteArray)).bind fun t299 => (if x10_2.length < 17592186044416 then ((ancepsref05_Write.f k2 (([(⟨(rd_T31 t287 x49_2).f0, (rd_T31 t287 x49_2).f1, (rd_T31 t287 x49_2).f2⟩ : S31)] : List (S31)))).bind fun bt306 => (if (rdOf ByteArray.empty y294 (Int.tmod (rd l1 (ji23)) 4)).size + bt306.1.size ≤ 9223372036854775807 then (if x8_2.size + ((rdOf ByteArray.empty y294 (Int.tmod (rd l1 (ji23)) 4)) ++ bt306.1).size ≤ 9223372036854775807 then (ancepslaw05_TokenSpaced.l0 k2 l1 t287 (x8_2 ++ ((rdOf ByteArray.empty y294 (Int.tmod (rd l1 (ji23)) 4)) ++ bt306.1)) (wrap64 (x9_2 + t299)) (x10_2 ++ [wrap64 (x9_2 + t299)]) t287 (t287.length : Int) (wrap64 (x49_2 + 1))) else (none)) else (none))) else (none))) else (none)) else (none)) else (none)) else (none)) = some r := by first | (rw [hji23] at H; exact H) | (simp only [hji23] at H ⊢; exact H)
                      by_cases c24 : 0 ≤ (ji23)
                      · rw [if_pos c24] at H
                        have c24b0 : decide (0 ≤ (ji23)) = true := decide_eq_true c24
                        clear c24
                        by_cases c25 : (ji23) < (l1.length : Int)
                        · rw [if_pos c25] at H
                          have c25b0 : decide ((ji23) < (l1.length : Int)) = true := decide_eq_true c25
                          clear c25
                          obtain ⟨ji26, hji26⟩ : ∃ j_ : Int, (Int.tmod (rd l1 (ji23)) 4) = j_ := ⟨_, rfl⟩
                          replace H : (if 0 ≤ (ji26) then (if (ji26) < (y294.length : Int) then ((strings_Count.f (rdOf ByteArray.empty y294 (ji26)) (⟨#[10]⟩ : ByteArray)).bind fun t299 => (if x10_2.length < 17592186044416 then ((ancepsref05_Write.f k2 (([(⟨(rd_T31 t287 x49_2).f0, (rd_T31 t287 x49_2).f1, (rd_T31 t287 x49_2).f2⟩ : S31)] : List (S31)))).bind fun bt306 => (if (rdOf ByteArray.empty y294 (ji26)).size + bt306.1.size ≤ 9223372036854775807 then (if x8_2.size + ((rdOf ByteArray.empty y294 (ji26)) ++ bt306.1).size ≤ 9223372036854775807 then (ancepslaw05_TokenSpaced.l0 k2 l1 t287 (x8_2 ++ ((rdOf ByteArray.empty y294 (ji26)) ++ bt306.1)) (wrap64 (x9_2 + t299)) (x10_2 ++ [wrap64 (x9_2 + t299)]) t287 (t287.length : Int) (wrap64 (x49_2 + 1))) else (none)) else (none))) else (none))) else (none)) else (none)) = some r := by first | (rw [hji26] at H; exact H) | (simp only [hji26] at H ⊢; exact H)
                          by_cases c27 : 0 ≤ (ji26)
                          · rw [if_pos c27] at H
                            have c27b0 : decide (0 ≤ (ji26)) = true := decide_eq_true c27
                            clear c27
                            by_cases c28 : (ji26) < (y294.length : Int)
                            · rw [if_pos c28] at H
                              have c28b0 : decide ((ji26) < (y294.length : Int)) = true := decide_eq_true c28
                              clear c28
                              replace H := Option.bind_eq_some_iff.mp H
                              obtain ⟨t299, A290, H⟩ := H
                              replace H : (if x10_2.length < 17592186044416 then ((ancepsref05_Write.f k2 (([(⟨(rd_T31 t287 x49_2).f0, (rd_T31 t287 x49_2).f1, (rd_T31 t287 x49_2).f2⟩ : S31)] : List (S31)))).bind fun bt306 => (if (rdOf ByteArray.empty y294 (ji26)).size + bt306.1.size ≤ 9223372036854775807 then (if x8_2.size + ((rdOf ByteArray.empty y294 (ji26)) ++ bt306.1).size ≤ 9223372036854775807 then (ancepslaw05_TokenSpaced.l0 k2 l1 t287 (x8_2 ++ ((rdOf ByteArray.empty y294 (ji26)) ++ bt306.1)) (wrap64 (x9_2 + t299)) (x10_2 ++ [wrap64 (x9_2 + t299)]) t287 (t287.length : Int) (wrap64 (x49_2 + 1))) else (none)) else (none))) else (none)) = some r := H
                              have A29 := Aside0.mk A290
                              clear A290
                              by_cases c30 : x10_2.length < 17592186044416
                              · rw [if_pos c30] at H
                                have LMc30 := Aside0.mk c30
                                clear c30
                                obtain ⟨y300, hy300⟩ : ∃ y_ : List Int, y_ = (x10_2 ++ [wrap64 (x9_2 + t299)]) := ⟨_, rfl⟩
                                replace H : ((ancepsref05_Write.f k2 (([(⟨(rd_T31 t287 x49_2).f0, (rd_T31 t287 x49_2).f1, (rd_T31 t287 x49_2).f2⟩ : S31)] : List (S31)))).bind fun bt306 => (if (rdOf ByteArray.empty y294 (ji26)).size + bt306.1.size ≤ 9223372036854775807 then (if x8_2.size + ((rdOf ByteArray.empty y294 (ji26)) ++ bt306.1).size ≤ 9223372036854775807 then (ancepslaw05_TokenSpaced.l0 k2 l1 t287 (x8_2 ++ ((rdOf ByteArray.empty y294 (ji26)) ++ bt306.1)) (wrap64 (x9_2 + t299)) y300 t287 (t287.length : Int) (wrap64 (x49_2 + 1))) else (none)) else (none))) = some r := by first | (rw [hy300]; with_reducible exact H) | (have H2_ := (Option.bind_some _ _).symm.trans H; rw [hy300]; with_reducible exact H2_) | (have H2_ := (Option.bind_some _ _).symm.trans H; with_reducible exact H2_) | with_reducible exact H | (rw [hy300]; exact H) | exact H
                                have Ny300 := Aside0.mk hy300
                                clear hy300
                                obtain ⟨y303, hy303⟩ : ∃ y_ : List (S31), y_ = (([(⟨(rd_T31 t287 x49_2).f0, (rd_T31 t287 x49_2).f1, (rd_T31 t287 x49_2).f2⟩ : S31)] : List (S31))) := ⟨_, rfl⟩
                                replace H : ((ancepsref05_Write.f k2 y303).bind fun bt306 => (if (rdOf ByteArray.empty y294 (ji26)).size + bt306.1.size ≤ 9223372036854775807 then (if x8_2.size + ((rdOf ByteArray.empty y294 (ji26)) ++ bt306.1).size ≤ 9223372036854775807 then (ancepslaw05_TokenSpaced.l0 k2 l1 t287 (x8_2 ++ ((rdOf ByteArray.empty y294 (ji26)) ++ bt306.1)) (wrap64 (x9_2 + t299)) y300 t287 (t287.length : Int) (wrap64 (x49_2 + 1))) else (none)) else (none))) = some r := by first | (rw [hy303]; with_reducible exact H) | (have H2_ := (Option.bind_some _ _).symm.trans H; rw [hy303]; with_reducible exact H2_) | (have H2_ := (Option.bind_some _ _).symm.trans H; with_reducible exact H2_) | with_reducible exact H | (rw [hy303]; exact H) | exact H
                                have Ny303 := Aside0.mk hy303
                                clear hy303
                                replace H := Option.bind_eq_some_iff.mp H
                                obtain ⟨⟨t306, t307⟩, A310, H⟩ := H
                                replace H : (if (rdOf ByteArray.empty y294 (ji26)).size + t306.size ≤ 9223372036854775807 then (if x8_2.size + ((rdOf ByteArray.empty y294 (ji26)) ++ t306).size ≤ 9223372036854775807 then (ancepslaw05_TokenSpaced.l0 k2 l1 t287 (x8_2 ++ ((rdOf ByteArray.empty y294 (ji26)) ++ t306)) (wrap64 (x9_2 + t299)) y300 t287 (t287.length : Int) (wrap64 (x49_2 + 1))) else (none)) else (none)) = some r := H
                                have A31 := Aside0.mk A310
                                clear A310
                                by_cases c32 : (rdOf ByteArray.empty y294 (ji26)).size + t306.size ≤ 9223372036854775807
                                · rw [if_pos c32] at H
                                  have c32b0 := eq_true c32
                                  have c32b1 : decide ((rdOf ByteArray.empty y294 (ji26)).size + t306.size ≤ 9223372036854775807) = true := decide_eq_true c32
                                  try have c32b2 : (9223372036854775807 < (rdOf ByteArray.empty y294 (ji26)).size + t306.size) = False := eq_false (Nat.not_lt.2 c32)
                                  by_cases c33 : x8_2.size + ((rdOf ByteArray.empty y294 (ji26)) ++ t306).size ≤ 9223372036854775807
                                  · rw [if_pos c33] at H
                                    have c33b0 := eq_true c33
                                    have c33b1 : decide (x8_2.size + ((rdOf ByteArray.empty y294 (ji26)) ++ t306).size ≤ 9223372036854775807) = true := decide_eq_true c33
                                    try have c33b2 : (9223372036854775807 < x8_2.size + ((rdOf ByteArray.empty y294 (ji26)) ++ t306).size) = False := eq_false (Nat.not_lt.2 c33)
                                    have c33b3 : x8_2.size + ((rdOf ByteArray.empty y294 (ji26)).size + t306.size) ≤ 9223372036854775807 := by have h_ := c33; simp only [ByteArray.size_append] at h_; exact h_
                                    have c33b4 : (9223372036854775807 < x8_2.size + ((rdOf ByteArray.empty y294 (ji26)).size + t306.size)) = False := eq_false (Nat.not_lt.2 c33b3)
                                    have c33b5 : decide (x8_2.size + ((rdOf ByteArray.empty y294 (ji26)).size + t306.size) ≤ 9223372036854775807) = true := decide_eq_true c33b3
                                    replace c33b3 := eq_true c33b3
                                    have H' := Aside0.mk H
                                    clear H
                                    have p292 : 0 ≤ (x49_2 : Int) := of_decide_eq_true (by first | (with_reducible assumption) | assumption)
                                    have q292 : x49_2 < (t287.length : Int) := of_decide_eq_true (by first | (with_reducible assumption) | assumption)
                                    obtain ⟨ad292, e292, hx292_0, hx292_1, hx292_2⟩ := at_T31 (Kd.R_reads' HO_47.out).2.2 x49_2 p292 q292
                                    cases e292
                                    replace p292 := eq_true p292
                                    replace q292 := eq_true q292
                                    go_wp2_with (first | ((with_reducible refine gate_dst (N := 12) rfl ?_); (try (refine gate_guard (by rfl) ?_; dsimp only)); refine box_event ?hg (N := 12) ?hd (cs := #[.int .i64 0, .string (⟨#[]⟩ : ByteArray), .int .i64 0]) (t := 31) ?hr ?_; (case hd => rfl); (case hg => rfl); (case hr => first | (go_simp; done) | (go_simp; rfl)); intro gb293 hg w34 hbox hb; have n0_ := Aside0.mk (Kd.R_below (Kd.R_elderB (by (with_reducible repeat (first | apply Kd.R_alloc | apply Kd.R_drewN | apply Kd.R_drew)); exact HO_5.out) gb293 (Nat.le_of_eq hg.symm)) hb); have n1_ := Aside0.mk (Kd.R_below (by (with_reducible repeat (first | apply Kd.R_alloc | apply Kd.R_drewN | apply Kd.R_drew)); exact HO_10.out) hb); have n2_ := Aside0.mk (Kd.R_below (Kd.R_elderB (by (with_reducible repeat (first | apply Kd.R_alloc | apply Kd.R_drewN | apply Kd.R_drew)); exact HO_47.out) gb293 (Nat.le_of_eq hg.symm)) hb); have n3_ := Aside0.mk (below_step (by repeat (first | (with_reducible first | exact HB.out | apply below_alloc | apply pw_below_drewN | apply below_drew1) | exact HB.out)) hb); have n4_ := Aside0.mk (hbox); have n5_ := Aside0.mk ((by rw [hg]; exact (below_size (by repeat (first | (with_reducible first | exact HB.out | apply below_alloc | apply pw_below_drewN | apply below_drew1) | exact HB.out))) : w.heap.size ≤ gb293)); have n6_ := Aside0.mk ((by rw [hg]; exact (below_size (by repeat (first | (with_reducible first | exact HB.out | apply below_alloc | apply pw_below_drewN | apply below_drew1) | exact HB.out))) : w.heap.size ≤ gb293)); clear HO_5; clear HO_10; clear HO_47; clear HB; have HO_5 := n0_; have HO_10 := n1_; have HO_47 := n2_; have HB := n3_; have BK293 := n4_; have GW293 := n5_; have GE293 := n6_; clear n0_ n1_ n2_ n3_ n4_ n5_ n6_; clear hb hbox hg; have hcz35_0 : w34.cell? ⟨gb293, 0, none⟩ = some (.int .i64 0) := (blk_cell BK293.out 0).trans rfl; have hcz35_1 : w34.cell? ⟨gb293, 1, none⟩ = some (.string (⟨#[]⟩ : ByteArray)) := (blk_cell BK293.out 1).trans rfl; have hcz35_2 : w34.cell? ⟨gb293, 2, none⟩ = some (.int .i64 0) := (blk_cell BK293.out 2).trans rfl; have hfz35_0 := blk_frozen BK293.out 0; have hfz35_1 := blk_frozen BK293.out 1; have hfz35_2 := blk_frozen BK293.out 2) | ((with_reducible refine gate_dst (N := 54) rfl ?_); (try (refine gate_guard (by rfl) ?_; dsimp only)); refine Kd.R_lit Kd.string _ 9 ?hg (N := 54) ?hd (xs := ([(⟨#[32]⟩ : ByteArray), (⟨#[10]⟩ : ByteArray), (⟨#[9, 35, 32, 97, 32, 34, 99, 111, 109, 109, 101, 110, 116, 10]⟩ : ByteArray), (⟨#[32, 13, 10, 10, 32]⟩ : ByteArray)] : List ByteArray)) (inner := [.string (⟨#[32]⟩ : ByteArray), .string (⟨#[10]⟩ : ByteArray), .string (⟨#[9, 35, 32, 97, 32, 34, 99, 111, 109, 109, 101, 110, 116, 10]⟩ : ByteArray), .string (⟨#[32, 13, 10, 10, 32]⟩ : ByteArray)]) (ok := fun _ => True) (okp := fun _ => True) ?hr ?hp (fun _ hk => hk) trivial (Below.refl _ _) (Nat.le_refl _) (by simp) ?_; (case hd => rfl); (case hg => rfl); (case hr => first | (go_simp; done) | (go_simp; rfl)); (case hp => exact (Reps.one (show Kd.M Kd.string _ _ _ (⟨#[32]⟩ : ByteArray) [.string (⟨#[32]⟩ : ByteArray)] from rfl) (Reps.one (show Kd.M Kd.string _ _ _ (⟨#[10]⟩ : ByteArray) [.string (⟨#[10]⟩ : ByteArray)] from rfl) (Reps.one (show Kd.M Kd.string _ _ _ (⟨#[9, 35, 32, 97, 32, 34, 99, 111, 109, 109, 101, 110, 116, 10]⟩ : ByteArray) [.string (⟨#[9, 35, 32, 97, 32, 34, 99, 111, 109, 109, 101, 110, 116, 10]⟩ : ByteArray)] from rfl) (Reps.one (show Kd.M Kd.string _ _ _ (⟨#[32, 13, 10, 10, 32]⟩ : ByteArray) [.string (⟨#[32, 13, 10, 10, 32]⟩ : ByteArray)] from rfl) (Reps.none _ _)))))); intro v295 w36 ho37 hb hg_ hnew_; clear hg_ hnew_; (first | rw [← Ny294.out] at ho37 | (simp only [Int.reduceToNat] at ho37; rw [← Ny294.out] at ho37)); have n0_ := Aside0.mk (Kd.R_below (by (with_reducible repeat (first | apply Kd.R_alloc | apply Kd.R_drewN | apply Kd.R_drew)); exact (Kd.R_mono (Kd.R_far (p := ⟨gb293, 2, none⟩) (Kd.R_far (p := ⟨gb293, 1, none⟩) (Kd.R_far (p := ⟨gb293, 0, none⟩) (Kd.R_mono HO_5.out (fun k_ hk => (⟨hk, hk.2⟩ : _ ∧ k_ ≠ gb293))) (fun _ hk => hk.2) (.int .i64 ((rd_T31 t287 x49_2).f0))) (fun _ hk => hk.2) (.string ((rd_T31 t287 x49_2).f1))) (fun _ hk => hk.2) (.int .i64 ((rd_T31 t287 x49_2).f2))) (fun _ h_ => h_.1))) hb); have n1_ := Aside0.mk (Kd.R_below (by (with_reducible repeat (first | apply Kd.R_alloc | apply Kd.R_drewN | apply Kd.R_drew)); exact (Kd.R_mono (Kd.R_far (p := ⟨gb293, 2, none⟩) (Kd.R_far (p := ⟨gb293, 1, none⟩) (Kd.R_far (p := ⟨gb293, 0, none⟩) (Kd.R_types HO_10.out BK293.out (by decide)) (fun _ hk => hk.2) (.int .i64 ((rd_T31 t287 x49_2).f0))) (fun _ hk => hk.2) (.string ((rd_T31 t287 x49_2).f1))) (fun _ hk => hk.2) (.int .i64 ((rd_T31 t287 x49_2).f2))) (fun _ h_ => h_.1))) hb); have n2_ := Aside0.mk (Kd.R_below (by (with_reducible repeat (first | apply Kd.R_alloc | apply Kd.R_drewN | apply Kd.R_drew)); exact (Kd.R_mono (Kd.R_far (p := ⟨gb293, 2, none⟩) (Kd.R_far (p := ⟨gb293, 1, none⟩) (Kd.R_far (p := ⟨gb293, 0, none⟩) (Kd.R_mono HO_47.out (fun k_ hk => (⟨hk, hk.2⟩ : _ ∧ k_ ≠ gb293))) (fun _ hk => hk.2) (.int .i64 ((rd_T31 t287 x49_2).f0))) (fun _ hk => hk.2) (.string ((rd_T31 t287 x49_2).f1))) (fun _ hk => hk.2) (.int .i64 ((rd_T31 t287 x49_2).f2))) (fun _ h_ => h_.1))) hb); have n3_ := Aside0.mk (Kd.R_lower ho37 (below_size (by repeat (first | (with_reducible first | exact HB.out | apply below_alloc | apply pw_below_drewN | apply below_drew1 | refine below_set ?_ GE293.out) | exact HB.out)))); have n4_ := Aside0.mk (blk_below (g := gb293) (o := .cells #[.int .i64 ((rd_T31 t287 x49_2).f0), .string ((rd_T31 t287 x49_2).f1), .int .i64 ((rd_T31 t287 x49_2).f2)] 31 (0, 0)) (by (with_reducible repeat (first | refine blk_drewN ?_ _ | refine blk_drew ?_ | refine blk_alloc ?_ _)); refine blk_put (cs := #[.int .i64 ((rd_T31 t287 x49_2).f0), .string ((rd_T31 t287 x49_2).f1), .int .i64 0]) ?_ 2 _ rfl; (with_reducible repeat (first | refine blk_drewN ?_ _ | refine blk_drew ?_ | refine blk_alloc ?_ _)); refine blk_put (cs := #[.int .i64 ((rd_T31 t287 x49_2).f0), .string (⟨#[]⟩ : ByteArray), .int .i64 0]) ?_ 1 _ rfl; (with_reducible repeat (first | refine blk_drewN ?_ _ | refine blk_drew ?_ | refine blk_alloc ?_ _)); refine blk_put (cs := #[.int .i64 0, .string (⟨#[]⟩ : ByteArray), .int .i64 0]) ?_ 0 _ rfl; (with_reducible repeat (first | refine blk_drewN ?_ _ | refine blk_drew ?_ | refine blk_alloc ?_ _)); exact BK293.out) hb); have n5_ := Aside0.mk (below_step (by repeat (first | (with_reducible first | exact HB.out | apply below_alloc | apply pw_below_drewN | apply below_drew1 | refine below_set ?_ GE293.out) | exact HB.out)) hb); clear HO_5; clear HO_10; clear HO_47; clear BK293; clear HB; have HO_5 := n0_; have HO_10 := n1_; have HO_47 := n2_; have HO296 := n3_; have BK293 := n4_; have HB := n5_; clear n0_ n1_ n2_ n3_ n4_ n5_; clear hb ho37; have p297 : 0 ≤ ((ji23) : Int) := of_decide_eq_true (by first | (with_reducible assumption) | assumption); have q297 : (ji23) < (l1.length : Int) := of_decide_eq_true (by first | (with_reducible assumption) | assumption); obtain ⟨ad297, e297, hx297_0⟩ := Kd.at_int HR1.out (ji23) p297 q297; cases e297; replace hx297_0 := (HB.out.cell (World.block_lt_of_cell? w _ hx297_0)).trans hx297_0; replace p297 := eq_true p297; replace q297 := eq_true q297; obtain ⟨Ao38, co38, eo38⟩ := Kd.R_slice HO296.out; subst eo38; have p298 : 0 ≤ ((ji26) : Int) := of_decide_eq_true (by first | (with_reducible assumption) | assumption); have q298 : (ji26) < (y294.length : Int) := of_decide_eq_true (by first | (with_reducible assumption) | assumption); obtain ⟨ad298, e298, hx298_0⟩ := Kd.at_string (Kd.R_reads' HO296.out).2.2 (ji26) p298 q298; cases e298; replace p298 := eq_true p298; replace q298 := eq_true q298) | (go_at_call 24; (with_reducible refine (strings_Count.calls (rdOf ByteArray.empty y294 (ji26)) (⟨#[10]⟩ : ByteArray) t299 _ A29.out).mono ?_); rintro e w' ⟨rfl, ⟨nd, rfl⟩⟩; (try first | exact ⟨rfl, _, World.drewN_drewN _ _ _⟩ | exact ⟨rfl, _, Eq.trans (World.drewN_drewN _ _ _) (congrArg (World.drewN _) (Nat.add_assoc _ _ _))⟩)) | ((with_reducible refine gate_builtin (b := .append) (xs := #[.tmp 69, .tmp 71]) rfl ?_); (try (refine gate_guard (by rfl) ?_; dsimp only)); at_builtin; refine Kd.R_append (Kd.int .i64) (w0 := w) w.heap.size rfl (.tmp 69) (.tmp 71) 38 3 (.int .i64 0) 8 rfl Try.underlying38 info3 rfl (by decide) (by omega) u10 x10_2 (wrap64 (x9_2 + t299)) [.int .i64 (wrap64 (x9_2 + t299))] (fun _ => True) (fun _ => False) rfl rfl ?aP (fun _ hk => hk.elim) ?aF ?aO ?aB ?aS ?aL ?_; (case aP => exact rfl); (case aB => exact (by repeat (first | (with_reducible first | exact HB.out | apply below_alloc | apply pw_below_drewN | apply below_drew1 | refine below_set ?_ GE293.out) | exact HB.out))); (case aF => exact (fun _ _ => trivial)); (case aO => exact (by (with_reducible repeat (first | apply Kd.R_alloc | apply Kd.R_drewN | apply Kd.R_drew)); exact HO_10.out)); (case aS => exact (below_size (by repeat (first | (with_reducible first | exact HB.out | apply below_alloc | apply pw_below_drewN | apply below_drew1 | refine below_set ?_ GE293.out) | exact HB.out)))); (case aL => have := LMc30.out; omega); intro v301 w39 ho hb hg hat; rw [← Ny300.out] at ho; have n0_ := Aside0.mk (Kd.R_over' (by (with_reducible repeat (first | apply Kd.R_alloc | apply Kd.R_drewN | apply Kd.R_drew)); exact HO_5.out) (Kd.R_typed (by (with_reducible repeat (first | apply Kd.R_alloc | apply Kd.R_drewN | apply Kd.R_drew)); exact HO_10.out)) (by decide) hg); have n1_ := Aside0.mk (Kd.R_over' (by (with_reducible repeat (first | apply Kd.R_alloc | apply Kd.R_drewN | apply Kd.R_drew)); exact HO_47.out) (Kd.R_typed (by (with_reducible repeat (first | apply Kd.R_alloc | apply Kd.R_drewN | apply Kd.R_drew)); exact HO_10.out)) (by decide) hg); have n2_ := Aside0.mk (blk_grown (g := gb293) (o := .cells #[.int .i64 ((rd_T31 t287 x49_2).f0), .string ((rd_T31 t287 x49_2).f1), .int .i64 ((rd_T31 t287 x49_2).f2)] 31 (0, 0)) (by (with_reducible repeat (first | refine blk_drewN ?_ _ | refine blk_drew ?_ | refine blk_alloc ?_ _)); exact BK293.out) hg (Kd.R_ne HO_10.out BK293.out (by decide))); have n3_ := Aside0.mk (Kd.R_over' (by (with_reducible repeat (first | apply Kd.R_alloc | apply Kd.R_drewN | apply Kd.R_drew)); exact HO296.out) (Kd.R_typed (by (with_reducible repeat (first | apply Kd.R_alloc | apply Kd.R_drewN | apply Kd.R_drew)); exact HO_10.out)) (by decide) hg); have n4_ := Aside0.mk (hb); have n5_ := Aside0.mk (ho); clear HO_5; clear HO_47; clear BK293; clear HO296; clear HB; clear HO_10; have HO_5 := n0_; have HO_47 := n1_; have BK293 := n2_; have HO296 := n3_; have HB := n4_; have HO302 := n5_; clear n0_ n1_ n2_ n3_ n4_ n5_; clear ho hb hg hat; have hcz40_0 : w39.cell? ⟨gb293, 0, none⟩ = some (.int .i64 ((rd_T31 t287 x49_2).f0)) := (blk_cell BK293.out 0).trans rfl; have hcz40_1 : w39.cell? ⟨gb293, 1, none⟩ = some (.string ((rd_T31 t287 x49_2).f1)) := (blk_cell BK293.out 1).trans rfl; have hcz40_2 : w39.cell? ⟨gb293, 2, none⟩ = some (.int .i64 ((rd_T31 t287 x49_2).f2)) := (blk_cell BK293.out 2).trans rfl; have hfz40_0 := blk_frozen BK293.out 0; have hfz40_1 := blk_frozen BK293.out 1; have hfz40_2 := blk_frozen BK293.out 2) | ((with_reducible refine gate_dst (N := 75) rfl ?_); (try (refine gate_guard (by rfl) ?_; dsimp only)); refine Kd.R_lit k31 _ 31 ?hg (N := 75) ?hd (xs := ([(⟨(rd_T31 t287 x49_2).f0, (rd_T31 t287 x49_2).f1, (rd_T31 t287 x49_2).f2⟩ : S31)] : List (S31))) (inner := [.int .i64 ((rd_T31 t287 x49_2).f0), .string ((rd_T31 t287 x49_2).f1), .int .i64 ((rd_T31 t287 x49_2).f2)]) (ok := fun _ => True) (okp := fun _ => True) ?hr ?hp (fun _ hk => hk) trivial (Below.refl _ _) (Nat.le_refl _) (by simp) ?_; (case hd => rfl); (case hg => rfl); (case hr => first | (go_simp; done) | (go_simp; rfl)); (case hp => exact (Reps.c3 (show Kd.M k31 _ _ _ (⟨(rd_T31 t287 x49_2).f0, (rd_T31 t287 x49_2).f1, (rd_T31 t287 x49_2).f2⟩ : S31) [.int .i64 ((rd_T31 t287 x49_2).f0), .string ((rd_T31 t287 x49_2).f1), .int .i64 ((rd_T31 t287 x49_2).f2)] from (k31_mkM _ _ _ (⟨(rd_T31 t287 x49_2).f0, (rd_T31 t287 x49_2).f1, (rd_T31 t287 x49_2).f2⟩ : S31) )) (Reps.none _ _))); intro v304 w41 ho42 hb hg_ hnew_; clear hg_ hnew_; (first | rw [← Ny303.out] at ho42 | (simp only [Int.reduceToNat] at ho42; rw [← Ny303.out] at ho42)); have n0_ := Aside0.mk (Kd.R_elder' (by (with_reducible repeat (first | apply Kd.R_alloc | apply Kd.R_drewN | apply Kd.R_drew)); exact HO_5.out) (Kd.R_base ho42) hb); have n1_ := Aside0.mk (Kd.R_elder' (by (with_reducible repeat (first | apply Kd.R_alloc | apply Kd.R_drewN | apply Kd.R_drew)); exact HO_47.out) (Kd.R_base ho42) hb); have n2_ := Aside0.mk (Kd.R_below (by (with_reducible repeat (first | apply Kd.R_alloc | apply Kd.R_drewN | apply Kd.R_drew)); exact HO296.out) hb); have n3_ := Aside0.mk (Kd.R_below (by (with_reducible repeat (first | apply Kd.R_alloc | apply Kd.R_drewN | apply Kd.R_drew)); exact HO302.out) hb); have n4_ := Aside0.mk (Kd.R_lower (Kd.R_newB (Kd.R_new' (Kd.R_new' ho42 (Kd.R_lt (by (with_reducible repeat (first | apply Kd.R_alloc | apply Kd.R_drewN | apply Kd.R_drew)); exact HO_5.out))) (Kd.R_lt (by (with_reducible repeat (first | apply Kd.R_alloc | apply Kd.R_drewN | apply Kd.R_drew)); exact HO_47.out))) (g := gb293) (o := .cells #[.int .i64 ((rd_T31 t287 x49_2).f0), .string ((rd_T31 t287 x49_2).f1), .int .i64 ((rd_T31 t287 x49_2).f2)] 31 (0, 0)) (by (with_reducible repeat (first | refine blk_drewN ?_ _ | refine blk_drew ?_ | refine blk_alloc ?_ _)); exact BK293.out)) (below_size (by repeat (first | (with_reducible first | exact HB.out | apply below_alloc | apply pw_below_drewN | apply below_drew1 | refine below_set ?_ GE293.out) | exact HB.out)))); have n5_ := Aside0.mk (blk_below (g := gb293) (o := .cells #[.int .i64 ((rd_T31 t287 x49_2).f0), .string ((rd_T31 t287 x49_2).f1), .int .i64 ((rd_T31 t287 x49_2).f2)] 31 (0, 0)) (by (with_reducible repeat (first | refine blk_drewN ?_ _ | refine blk_drew ?_ | refine blk_alloc ?_ _)); exact BK293.out) hb); have n6_ := Aside0.mk (below_step (by repeat (first | (with_reducible first | exact HB.out | apply below_alloc | apply pw_below_drewN | apply below_drew1 | refine below_set ?_ GE293.out) | exact HB.out)) hb); clear HO_5; clear HO_47; clear HO296; clear HO302; clear BK293; clear HB; have HO_5 := n0_; have HO_47 := n1_; have HO296 := n2_; have HO302 := n3_; have HO305 := n4_; have BK293 := n5_; have HB := n6_; clear n0_ n1_ n2_ n3_ n4_ n5_ n6_; clear hb ho42; obtain ⟨Ao43, co43, eo43⟩ := Kd.R_slice HO305.out; subst eo43) | (go_at_call 25; (with_reducible refine (ancepsref05_Write.calls k2 _ _ y303 t306 t307 _ ?side1 ?side2 A31.out).mono ?_); (case side1 => repeat (first | exact (Kd.R_reads' HO305.out).2.2 | (with_reducible refine Kd.C_alloc ?_ _) | (with_reducible refine Kd.C_drewN ?_ _) | (with_reducible refine Kd.C_drew ?_))); (case side2 => exact (Kd.R_reads' HO305.out).2.1); rintro e w44 ⟨rfl, hb⟩; have n0_ := Aside0.mk (Kd.R_below (by (with_reducible repeat (first | apply Kd.R_alloc | apply Kd.R_drewN | apply Kd.R_drew)); exact HO_5.out) hb); have n1_ := Aside0.mk (Kd.R_below (by (with_reducible repeat (first | apply Kd.R_alloc | apply Kd.R_drewN | apply Kd.R_drew)); exact HO_47.out) hb); have n2_ := Aside0.mk (Kd.R_below (by (with_reducible repeat (first | apply Kd.R_alloc | apply Kd.R_drewN | apply Kd.R_drew)); exact HO296.out) hb); have n3_ := Aside0.mk (Kd.R_below (by (with_reducible repeat (first | apply Kd.R_alloc | apply Kd.R_drewN | apply Kd.R_drew)); exact HO302.out) hb); have n4_ := Aside0.mk (Kd.R_below (by (with_reducible repeat (first | apply Kd.R_alloc | apply Kd.R_drewN | apply Kd.R_drew)); exact HO305.out) hb); have n5_ := Aside0.mk (blk_below (g := gb293) (o := .cells #[.int .i64 ((rd_T31 t287 x49_2).f0), .string ((rd_T31 t287 x49_2).f1), .int .i64 ((rd_T31 t287 x49_2).f2)] 31 (0, 0)) (by (with_reducible repeat (first | refine blk_drewN ?_ _ | refine blk_drew ?_ | refine blk_alloc ?_ _)); exact BK293.out) hb); have n6_ := Aside0.mk (below_step (by repeat (first | (with_reducible first | exact HB.out | apply below_alloc | apply pw_below_drewN | apply below_drew1 | refine below_set ?_ GE293.out) | exact HB.out)) hb); clear HO_5; clear HO_47; clear HO296; clear HO302; clear HO305; clear BK293; clear HB; have HO_5 := n0_; have HO_47 := n1_; have HO296 := n2_; have HO302 := n3_; have HO305 := n4_; have BK293 := n5_; have HB := n6_; clear n0_ n1_ n2_ n3_ n4_ n5_ n6_; (try clear hb); (try clear hb2); (try clear hk); (try clear hi)))
                                    repeat (go_quiet (first | ((with_reducible refine gate_dst (N := 12) rfl ?_); (try (refine gate_guard (by rfl) ?_; dsimp only)); refine box_event ?hg (N := 12) ?hd (cs := #[.int .i64 0, .string (⟨#[]⟩ : ByteArray), .int .i64 0]) (t := 31) ?hr ?_; (case hd => rfl); (case hg => rfl); (case hr => first | (go_simp; done) | (go_simp; rfl)); intro gb293 hg w34 hbox hb; have n0_ := Aside0.mk (Kd.R_below (Kd.R_elderB (by (with_reducible repeat (first | apply Kd.R_alloc | apply Kd.R_drewN | apply Kd.R_drew)); exact HO_5.out) gb293 (Nat.le_of_eq hg.symm)) hb); have n1_ := Aside0.mk (Kd.R_below (by (with_reducible repeat (first | apply Kd.R_alloc | apply Kd.R_drewN | apply Kd.R_drew)); exact HO_10.out) hb); have n2_ := Aside0.mk (Kd.R_below (Kd.R_elderB (by (with_reducible repeat (first | apply Kd.R_alloc | apply Kd.R_drewN | apply Kd.R_drew)); exact HO_47.out) gb293 (Nat.le_of_eq hg.symm)) hb); have n3_ := Aside0.mk (below_step (by repeat (first | (with_reducible first | exact HB.out | apply below_alloc | apply pw_below_drewN | apply below_drew1) | exact HB.out)) hb); have n4_ := Aside0.mk (hbox); have n5_ := Aside0.mk ((by rw [hg]; exact (below_size (by repeat (first | (with_reducible first | exact HB.out | apply below_alloc | apply pw_below_drewN | apply below_drew1) | exact HB.out))) : w.heap.size ≤ gb293)); have n6_ := Aside0.mk ((by rw [hg]; exact (below_size (by repeat (first | (with_reducible first | exact HB.out | apply below_alloc | apply pw_below_drewN | apply below_drew1) | exact HB.out))) : w.heap.size ≤ gb293)); clear HO_5; clear HO_10; clear HO_47; clear HB; have HO_5 := n0_; have HO_10 := n1_; have HO_47 := n2_; have HB := n3_; have BK293 := n4_; have GW293 := n5_; have GE293 := n6_; clear n0_ n1_ n2_ n3_ n4_ n5_ n6_; clear hb hbox hg; have hcz35_0 : w34.cell? ⟨gb293, 0, none⟩ = some (.int .i64 0) := (blk_cell BK293.out 0).trans rfl; have hcz35_1 : w34.cell? ⟨gb293, 1, none⟩ = some (.string (⟨#[]⟩ : ByteArray)) := (blk_cell BK293.out 1).trans rfl; have hcz35_2 : w34.cell? ⟨gb293, 2, none⟩ = some (.int .i64 0) := (blk_cell BK293.out 2).trans rfl; have hfz35_0 := blk_frozen BK293.out 0; have hfz35_1 := blk_frozen BK293.out 1; have hfz35_2 := blk_frozen BK293.out 2) | ((with_reducible refine gate_dst (N := 54) rfl ?_); (try (refine gate_guard (by rfl) ?_; dsimp only)); refine Kd.R_lit Kd.string _ 9 ?hg (N := 54) ?hd (xs := ([(⟨#[32]⟩ : ByteArray), (⟨#[10]⟩ : ByteArray), (⟨#[9, 35, 32, 97, 32, 34, 99, 111, 109, 109, 101, 110, 116, 10]⟩ : ByteArray), (⟨#[32, 13, 10, 10, 32]⟩ : ByteArray)] : List ByteArray)) (inner := [.string (⟨#[32]⟩ : ByteArray), .string (⟨#[10]⟩ : ByteArray), .string (⟨#[9, 35, 32, 97, 32, 34, 99, 111, 109, 109, 101, 110, 116, 10]⟩ : ByteArray), .string (⟨#[32, 13, 10, 10, 32]⟩ : ByteArray)]) (ok := fun _ => True) (okp := fun _ => True) ?hr ?hp (fun _ hk => hk) trivial (Below.refl _ _) (Nat.le_refl _) (by simp) ?_; (case hd => rfl); (case hg => rfl); (case hr => first | (go_simp; done) | (go_simp; rfl)); (case hp => exact (Reps.one (show Kd.M Kd.string _ _ _ (⟨#[32]⟩ : ByteArray) [.string (⟨#[32]⟩ : ByteArray)] from rfl) (Reps.one (show Kd.M Kd.string _ _ _ (⟨#[10]⟩ : ByteArray) [.string (⟨#[10]⟩ : ByteArray)] from rfl) (Reps.one (show Kd.M Kd.string _ _ _ (⟨#[9, 35, 32, 97, 32, 34, 99, 111, 109, 109, 101, 110, 116, 10]⟩ : ByteArray) [.string (⟨#[9, 35, 32, 97, 32, 34, 99, 111, 109, 109, 101, 110, 116, 10]⟩ : ByteArray)] from rfl) (Reps.one (show Kd.M Kd.string _ _ _ (⟨#[32, 13, 10, 10, 32]⟩ : ByteArray) [.string (⟨#[32, 13, 10, 10, 32]⟩ : ByteArray)] from rfl) (Reps.none _ _)))))); intro v295 w36 ho37 hb hg_ hnew_; clear hg_ hnew_; (first | rw [← Ny294.out] at ho37 | (simp only [Int.reduceToNat] at ho37; rw [← Ny294.out] at ho37)); have n0_ := Aside0.mk (Kd.R_below (by (with_reducible repeat (first | apply Kd.R_alloc | apply Kd.R_drewN | apply Kd.R_drew)); exact (Kd.R_mono (Kd.R_far (p := ⟨gb293, 2, none⟩) (Kd.R_far (p := ⟨gb293, 1, none⟩) (Kd.R_far (p := ⟨gb293, 0, none⟩) (Kd.R_mono HO_5.out (fun k_ hk => (⟨hk, hk.2⟩ : _ ∧ k_ ≠ gb293))) (fun _ hk => hk.2) (.int .i64 ((rd_T31 t287 x49_2).f0))) (fun _ hk => hk.2) (.string ((rd_T31 t287 x49_2).f1))) (fun _ hk => hk.2) (.int .i64 ((rd_T31 t287 x49_2).f2))) (fun _ h_ => h_.1))) hb); have n1_ := Aside0.mk (Kd.R_below (by (with_reducible repeat (first | apply Kd.R_alloc | apply Kd.R_drewN | apply Kd.R_drew)); exact (Kd.R_mono (Kd.R_far (p := ⟨gb293, 2, none⟩) (Kd.R_far (p := ⟨gb293, 1, none⟩) (Kd.R_far (p := ⟨gb293, 0, none⟩) (Kd.R_types HO_10.out BK293.out (by decide)) (fun _ hk => hk.2) (.int .i64 ((rd_T31 t287 x49_2).f0))) (fun _ hk => hk.2) (.string ((rd_T31 t287 x49_2).f1))) (fun _ hk => hk.2) (.int .i64 ((rd_T31 t287 x49_2).f2))) (fun _ h_ => h_.1))) hb); have n2_ := Aside0.mk (Kd.R_below (by (with_reducible repeat (first | apply Kd.R_alloc | apply Kd.R_drewN | apply Kd.R_drew)); exact (Kd.R_mono (Kd.R_far (p := ⟨gb293, 2, none⟩) (Kd.R_far (p := ⟨gb293, 1, none⟩) (Kd.R_far (p := ⟨gb293, 0, none⟩) (Kd.R_mono HO_47.out (fun k_ hk => (⟨hk, hk.2⟩ : _ ∧ k_ ≠ gb293))) (fun _ hk => hk.2) (.int .i64 ((rd_T31 t287 x49_2).f0))) (fun _ hk => hk.2) (.string ((rd_T31 t287 x49_2).f1))) (fun _ hk => hk.2) (.int .i64 ((rd_T31 t287 x49_2).f2))) (fun _ h_ => h_.1))) hb); have n3_ := Aside0.mk (Kd.R_lower ho37 (below_size (by repeat (first | (with_reducible first | exact HB.out | apply below_alloc | apply pw_below_drewN | apply below_drew1 | refine below_set ?_ GE293.out) | exact HB.out)))); have n4_ := Aside0.mk (blk_below (g := gb293) (o := .cells #[.int .i64 ((rd_T31 t287 x49_2).f0), .string ((rd_T31 t287 x49_2).f1), .int .i64 ((rd_T31 t287 x49_2).f2)] 31 (0, 0)) (by (with_reducible repeat (first | refine blk_drewN ?_ _ | refine blk_drew ?_ | refine blk_alloc ?_ _)); refine blk_put (cs := #[.int .i64 ((rd_T31 t287 x49_2).f0), .string ((rd_T31 t287 x49_2).f1), .int .i64 0]) ?_ 2 _ rfl; (with_reducible repeat (first | refine blk_drewN ?_ _ | refine blk_drew ?_ | refine blk_alloc ?_ _)); refine blk_put (cs := #[.int .i64 ((rd_T31 t287 x49_2).f0), .string (⟨#[]⟩ : ByteArray), .int .i64 0]) ?_ 1 _ rfl; (with_reducible repeat (first | refine blk_drewN ?_ _ | refine blk_drew ?_ | refine blk_alloc ?_ _)); refine blk_put (cs := #[.int .i64 0, .string (⟨#[]⟩ : ByteArray), .int .i64 0]) ?_ 0 _ rfl; (with_reducible repeat (first | refine blk_drewN ?_ _ | refine blk_drew ?_ | refine blk_alloc ?_ _)); exact BK293.out) hb); have n5_ := Aside0.mk (below_step (by repeat (first | (with_reducible first | exact HB.out | apply below_alloc | apply pw_below_drewN | apply below_drew1 | refine below_set ?_ GE293.out) | exact HB.out)) hb); clear HO_5; clear HO_10; clear HO_47; clear BK293; clear HB; have HO_5 := n0_; have HO_10 := n1_; have HO_47 := n2_; have HO296 := n3_; have BK293 := n4_; have HB := n5_; clear n0_ n1_ n2_ n3_ n4_ n5_; clear hb ho37; have p297 : 0 ≤ ((ji23) : Int) := of_decide_eq_true (by first | (with_reducible assumption) | assumption); have q297 : (ji23) < (l1.length : Int) := of_decide_eq_true (by first | (with_reducible assumption) | assumption); obtain ⟨ad297, e297, hx297_0⟩ := Kd.at_int HR1.out (ji23) p297 q297; cases e297; replace hx297_0 := (HB.out.cell (World.block_lt_of_cell? w _ hx297_0)).trans hx297_0; replace p297 := eq_true p297; replace q297 := eq_true q297; obtain ⟨Ao38, co38, eo38⟩ := Kd.R_slice HO296.out; subst eo38; have p298 : 0 ≤ ((ji26) : Int) := of_decide_eq_true (by first | (with_reducible assumption) | assumption); have q298 : (ji26) < (y294.length : Int) := of_decide_eq_true (by first | (with_reducible assumption) | assumption); obtain ⟨ad298, e298, hx298_0⟩ := Kd.at_string (Kd.R_reads' HO296.out).2.2 (ji26) p298 q298; cases e298; replace p298 := eq_true p298; replace q298 := eq_true q298) | (go_at_call 24; (with_reducible refine (strings_Count.calls (rdOf ByteArray.empty y294 (ji26)) (⟨#[10]⟩ : ByteArray) t299 _ A29.out).mono ?_); rintro e w' ⟨rfl, ⟨nd, rfl⟩⟩; (try first | exact ⟨rfl, _, World.drewN_drewN _ _ _⟩ | exact ⟨rfl, _, Eq.trans (World.drewN_drewN _ _ _) (congrArg (World.drewN _) (Nat.add_assoc _ _ _))⟩)) | ((with_reducible refine gate_builtin (b := .append) (xs := #[.tmp 69, .tmp 71]) rfl ?_); (try (refine gate_guard (by rfl) ?_; dsimp only)); at_builtin; refine Kd.R_append (Kd.int .i64) (w0 := w) w.heap.size rfl (.tmp 69) (.tmp 71) 38 3 (.int .i64 0) 8 rfl Try.underlying38 info3 rfl (by decide) (by omega) u10 x10_2 (wrap64 (x9_2 + t299)) [.int .i64 (wrap64 (x9_2 + t299))] (fun _ => True) (fun _ => False) rfl rfl ?aP (fun _ hk => hk.elim) ?aF ?aO ?aB ?aS ?aL ?_; (case aP => exact rfl); (case aB => exact (by repeat (first | (with_reducible first | exact HB.out | apply below_alloc | apply pw_below_drewN | apply below_drew1 | refine below_set ?_ GE293.out) | exact HB.out))); (case aF => exact (fun _ _ => trivial)); (case aO => exact (by (with_reducible repeat (first | apply Kd.R_alloc | apply Kd.R_drewN | apply Kd.R_drew)); exact HO_10.out)); (case aS => exact (below_size (by repeat (first | (with_reducible first | exact HB.out | apply below_alloc | apply pw_below_drewN | apply below_drew1 | refine below_set ?_ GE293.out) | exact HB.out)))); (case aL => have := LMc30.out; omega); intro v301 w39 ho hb hg hat; rw [← Ny300.out] at ho; have n0_ := Aside0.mk (Kd.R_over' (by (with_reducible repeat (first | apply Kd.R_alloc | apply Kd.R_drewN | apply Kd.R_drew)); exact HO_5.out) (Kd.R_typed (by (with_reducible repeat (first | apply Kd.R_alloc | apply Kd.R_drewN | apply Kd.R_drew)); exact HO_10.out)) (by decide) hg); have n1_ := Aside0.mk (Kd.R_over' (by (with_reducible repeat (first | apply Kd.R_alloc | apply Kd.R_drewN | apply Kd.R_drew)); exact HO_47.out) (Kd.R_typed (by (with_reducible repeat (first | apply Kd.R_alloc | apply Kd.R_drewN | apply Kd.R_drew)); exact HO_10.out)) (by decide) hg); have n2_ := Aside0.mk (blk_grown (g := gb293) (o := .cells #[.int .i64 ((rd_T31 t287 x49_2).f0), .string ((rd_T31 t287 x49_2).f1), .int .i64 ((rd_T31 t287 x49_2).f2)] 31 (0, 0)) (by (with_reducible repeat (first | refine blk_drewN ?_ _ | refine blk_drew ?_ | refine blk_alloc ?_ _)); exact BK293.out) hg (Kd.R_ne HO_10.out BK293.out (by decide))); have n3_ := Aside0.mk (Kd.R_over' (by (with_reducible repeat (first | apply Kd.R_alloc | apply Kd.R_drewN | apply Kd.R_drew)); exact HO296.out) (Kd.R_typed (by (with_reducible repeat (first | apply Kd.R_alloc | apply Kd.R_drewN | apply Kd.R_drew)); exact HO_10.out)) (by decide) hg); have n4_ := Aside0.mk (hb); have n5_ := Aside0.mk (ho); clear HO_5; clear HO_47; clear BK293; clear HO296; clear HB; clear HO_10; have HO_5 := n0_; have HO_47 := n1_; have BK293 := n2_; have HO296 := n3_; have HB := n4_; have HO302 := n5_; clear n0_ n1_ n2_ n3_ n4_ n5_; clear ho hb hg hat; have hcz40_0 : w39.cell? ⟨gb293, 0, none⟩ = some (.int .i64 ((rd_T31 t287 x49_2).f0)) := (blk_cell BK293.out 0).trans rfl; have hcz40_1 : w39.cell? ⟨gb293, 1, none⟩ = some (.string ((rd_T31 t287 x49_2).f1)) := (blk_cell BK293.out 1).trans rfl; have hcz40_2 : w39.cell? ⟨gb293, 2, none⟩ = some (.int .i64 ((rd_T31 t287 x49_2).f2)) := (blk_cell BK293.out 2).trans rfl; have hfz40_0 := blk_frozen BK293.out 0; have hfz40_1 := blk_frozen BK293.out 1; have hfz40_2 := blk_frozen BK293.out 2) | ((with_reducible refine gate_dst (N := 75) rfl ?_); (try (refine gate_guard (by rfl) ?_; dsimp only)); refine Kd.R_lit k31 _ 31 ?hg (N := 75) ?hd (xs := ([(⟨(rd_T31 t287 x49_2).f0, (rd_T31 t287 x49_2).f1, (rd_T31 t287 x49_2).f2⟩ : S31)] : List (S31))) (inner := [.int .i64 ((rd_T31 t287 x49_2).f0), .string ((rd_T31 t287 x49_2).f1), .int .i64 ((rd_T31 t287 x49_2).f2)]) (ok := fun _ => True) (okp := fun _ => True) ?hr ?hp (fun _ hk => hk) trivial (Below.refl _ _) (Nat.le_refl _) (by simp) ?_; (case hd => rfl); (case hg => rfl); (case hr => first | (go_simp; done) | (go_simp; rfl)); (case hp => exact (Reps.c3 (show Kd.M k31 _ _ _ (⟨(rd_T31 t287 x49_2).f0, (rd_T31 t287 x49_2).f1, (rd_T31 t287 x49_2).f2⟩ : S31) [.int .i64 ((rd_T31 t287 x49_2).f0), .string ((rd_T31 t287 x49_2).f1), .int .i64 ((rd_T31 t287 x49_2).f2)] from (k31_mkM _ _ _ (⟨(rd_T31 t287 x49_2).f0, (rd_T31 t287 x49_2).f1, (rd_T31 t287 x49_2).f2⟩ : S31) )) (Reps.none _ _))); intro v304 w41 ho42 hb hg_ hnew_; clear hg_ hnew_; (first | rw [← Ny303.out] at ho42 | (simp only [Int.reduceToNat] at ho42; rw [← Ny303.out] at ho42)); have n0_ := Aside0.mk (Kd.R_elder' (by (with_reducible repeat (first | apply Kd.R_alloc | apply Kd.R_drewN | apply Kd.R_drew)); exact HO_5.out) (Kd.R_base ho42) hb); have n1_ := Aside0.mk (Kd.R_elder' (by (with_reducible repeat (first | apply Kd.R_alloc | apply Kd.R_drewN | apply Kd.R_drew)); exact HO_47.out) (Kd.R_base ho42) hb); have n2_ := Aside0.mk (Kd.R_below (by (with_reducible repeat (first | apply Kd.R_alloc | apply Kd.R_drewN | apply Kd.R_drew)); exact HO296.out) hb); have n3_ := Aside0.mk (Kd.R_below (by (with_reducible repeat (first | apply Kd.R_alloc | apply Kd.R_drewN | apply Kd.R_drew)); exact HO302.out) hb); have n4_ := Aside0.mk (Kd.R_lower (Kd.R_newB (Kd.R_new' (Kd.R_new' ho42 (Kd.R_lt (by (with_reducible repeat (first | apply Kd.R_alloc | apply Kd.R_drewN | apply Kd.R_drew)); exact HO_5.out))) (Kd.R_lt (by (with_reducible repeat (first | apply Kd.R_alloc | apply Kd.R_drewN | apply Kd.R_drew)); exact HO_47.out))) (g := gb293) (o := .cells #[.int .i64 ((rd_T31 t287 x49_2).f0), .string ((rd_T31 t287 x49_2).f1), .int .i64 ((rd_T31 t287 x49_2).f2)] 31 (0, 0)) (by (with_reducible repeat (first | refine blk_drewN ?_ _ | refine blk_drew ?_ | refine blk_alloc ?_ _)); exact BK293.out)) (below_size (by repeat (first | (with_reducible first | exact HB.out | apply below_alloc | apply pw_below_drewN | apply below_drew1 | refine below_set ?_ GE293.out) | exact HB.out)))); have n5_ := Aside0.mk (blk_below (g := gb293) (o := .cells #[.int .i64 ((rd_T31 t287 x49_2).f0), .string ((rd_T31 t287 x49_2).f1), .int .i64 ((rd_T31 t287 x49_2).f2)] 31 (0, 0)) (by (with_reducible repeat (first | refine blk_drewN ?_ _ | refine blk_drew ?_ | refine blk_alloc ?_ _)); exact BK293.out) hb); have n6_ := Aside0.mk (below_step (by repeat (first | (with_reducible first | exact HB.out | apply below_alloc | apply pw_below_drewN | apply below_drew1 | refine below_set ?_ GE293.out) | exact HB.out)) hb); clear HO_5; clear HO_47; clear HO296; clear HO302; clear BK293; clear HB; have HO_5 := n0_; have HO_47 := n1_; have HO296 := n2_; have HO302 := n3_; have HO305 := n4_; have BK293 := n5_; have HB := n6_; clear n0_ n1_ n2_ n3_ n4_ n5_ n6_; clear hb ho42; obtain ⟨Ao43, co43, eo43⟩ := Kd.R_slice HO305.out; subst eo43) | (go_at_call 25; (with_reducible refine (ancepsref05_Write.calls k2 _ _ y303 t306 t307 _ ?side1 ?side2 A31.out).mono ?_); (case side1 => repeat (first | exact (Kd.R_reads' HO305.out).2.2 | (with_reducible refine Kd.C_alloc ?_ _) | (with_reducible refine Kd.C_drewN ?_ _) | (with_reducible refine Kd.C_drew ?_))); (case side2 => exact (Kd.R_reads' HO305.out).2.1); rintro e w44 ⟨rfl, hb⟩; have n0_ := Aside0.mk (Kd.R_below (by (with_reducible repeat (first | apply Kd.R_alloc | apply Kd.R_drewN | apply Kd.R_drew)); exact HO_5.out) hb); have n1_ := Aside0.mk (Kd.R_below (by (with_reducible repeat (first | apply Kd.R_alloc | apply Kd.R_drewN | apply Kd.R_drew)); exact HO_47.out) hb); have n2_ := Aside0.mk (Kd.R_below (by (with_reducible repeat (first | apply Kd.R_alloc | apply Kd.R_drewN | apply Kd.R_drew)); exact HO296.out) hb); have n3_ := Aside0.mk (Kd.R_below (by (with_reducible repeat (first | apply Kd.R_alloc | apply Kd.R_drewN | apply Kd.R_drew)); exact HO302.out) hb); have n4_ := Aside0.mk (Kd.R_below (by (with_reducible repeat (first | apply Kd.R_alloc | apply Kd.R_drewN | apply Kd.R_drew)); exact HO305.out) hb); have n5_ := Aside0.mk (blk_below (g := gb293) (o := .cells #[.int .i64 ((rd_T31 t287 x49_2).f0), .string ((rd_T31 t287 x49_2).f1), .int .i64 ((rd_T31 t287 x49_2).f2)] 31 (0, 0)) (by (with_reducible repeat (first | refine blk_drewN ?_ _ | refine blk_drew ?_ | refine blk_alloc ?_ _)); exact BK293.out) hb); have n6_ := Aside0.mk (below_step (by repeat (first | (with_reducible first | exact HB.out | apply below_alloc | apply pw_below_drewN | apply below_drew1 | refine below_set ?_ GE293.out) | exact HB.out)) hb); clear HO_5; clear HO_47; clear HO296; clear HO302; clear HO305; clear BK293; clear HB; have HO_5 := n0_; have HO_47 := n1_; have HO296 := n2_; have HO302 := n3_; have HO305 := n4_; have BK293 := n5_; have HB := n6_; clear n0_ n1_ n2_ n3_ n4_ n5_ n6_; (try clear hb); (try clear hb2); (try clear hk); (try clear hi))); try go_wp2_with (first | ((with_reducible refine gate_dst (N := 12) rfl ?_); (try (refine gate_guard (by rfl) ?_; dsimp only)); refine box_event ?hg (N := 12) ?hd (cs := #[.int .i64 0, .string (⟨#[]⟩ : ByteArray), .int .i64 0]) (t := 31) ?hr ?_; (case hd => rfl); (case hg => rfl); (case hr => first | (go_simp; done) | (go_simp; rfl)); intro gb293 hg w34 hbox hb; have n0_ := Aside0.mk (Kd.R_below (Kd.R_elderB (by (with_reducible repeat (first | apply Kd.R_alloc | apply Kd.R_drewN | apply Kd.R_drew)); exact HO_5.out) gb293 (Nat.le_of_eq hg.symm)) hb); have n1_ := Aside0.mk (Kd.R_below (by (with_reducible repeat (first | apply Kd.R_alloc | apply Kd.R_drewN | apply Kd.R_drew)); exact HO_10.out) hb); have n2_ := Aside0.mk (Kd.R_below (Kd.R_elderB (by (with_reducible repeat (first | apply Kd.R_alloc | apply Kd.R_drewN | apply Kd.R_drew)); exact HO_47.out) gb293 (Nat.le_of_eq hg.symm)) hb); have n3_ := Aside0.mk (below_step (by repeat (first | (with_reducible first | exact HB.out | apply below_alloc | apply pw_below_drewN | apply below_drew1) | exact HB.out)) hb); have n4_ := Aside0.mk (hbox); have n5_ := Aside0.mk ((by rw [hg]; exact (below_size (by repeat (first | (with_reducible first | exact HB.out | apply below_alloc | apply pw_below_drewN | apply below_drew1) | exact HB.out))) : w.heap.size ≤ gb293)); have n6_ := Aside0.mk ((by rw [hg]; exact (below_size (by repeat (first | (with_reducible first | exact HB.out | apply below_alloc | apply pw_below_drewN | apply below_drew1) | exact HB.out))) : w.heap.size ≤ gb293)); clear HO_5; clear HO_10; clear HO_47; clear HB; have HO_5 := n0_; have HO_10 := n1_; have HO_47 := n2_; have HB := n3_; have BK293 := n4_; have GW293 := n5_; have GE293 := n6_; clear n0_ n1_ n2_ n3_ n4_ n5_ n6_; clear hb hbox hg; have hcz35_0 : w34.cell? ⟨gb293, 0, none⟩ = some (.int .i64 0) := (blk_cell BK293.out 0).trans rfl; have hcz35_1 : w34.cell? ⟨gb293, 1, none⟩ = some (.string (⟨#[]⟩ : ByteArray)) := (blk_cell BK293.out 1).trans rfl; have hcz35_2 : w34.cell? ⟨gb293, 2, none⟩ = some (.int .i64 0) := (blk_cell BK293.out 2).trans rfl; have hfz35_0 := blk_frozen BK293.out 0; have hfz35_1 := blk_frozen BK293.out 1; have hfz35_2 := blk_frozen BK293.out 2) | ((with_reducible refine gate_dst (N := 54) rfl ?_); (try (refine gate_guard (by rfl) ?_; dsimp only)); refine Kd.R_lit Kd.string _ 9 ?hg (N := 54) ?hd (xs := ([(⟨#[32]⟩ : ByteArray), (⟨#[10]⟩ : ByteArray), (⟨#[9, 35, 32, 97, 32, 34, 99, 111, 109, 109, 101, 110, 116, 10]⟩ : ByteArray), (⟨#[32, 13, 10, 10, 32]⟩ : ByteArray)] : List ByteArray)) (inner := [.string (⟨#[32]⟩ : ByteArray), .string (⟨#[10]⟩ : ByteArray), .string (⟨#[9, 35, 32, 97, 32, 34, 99, 111, 109, 109, 101, 110, 116, 10]⟩ : ByteArray), .string (⟨#[32, 13, 10, 10, 32]⟩ : ByteArray)]) (ok := fun _ => True) (okp := fun _ => True) ?hr ?hp (fun _ hk => hk) trivial (Below.refl _ _) (Nat.le_refl _) (by simp) ?_; (case hd => rfl); (case hg => rfl); (case hr => first | (go_simp; done) | (go_simp; rfl)); (case hp => exact (Reps.one (show Kd.M Kd.string _ _ _ (⟨#[32]⟩ : ByteArray) [.string (⟨#[32]⟩ : ByteArray)] from rfl) (Reps.one (show Kd.M Kd.string _ _ _ (⟨#[10]⟩ : ByteArray) [.string (⟨#[10]⟩ : ByteArray)] from rfl) (Reps.one (show Kd.M Kd.string _ _ _ (⟨#[9, 35, 32, 97, 32, 34, 99, 111, 109, 109, 101, 110, 116, 10]⟩ : ByteArray) [.string (⟨#[9, 35, 32, 97, 32, 34, 99, 111, 109, 109, 101, 110, 116, 10]⟩ : ByteArray)] from rfl) (Reps.one (show Kd.M Kd.string _ _ _ (⟨#[32, 13, 10, 10, 32]⟩ : ByteArray) [.string (⟨#[32, 13, 10, 10, 32]⟩ : ByteArray)] from rfl) (Reps.none _ _)))))); intro v295 w36 ho37 hb hg_ hnew_; clear hg_ hnew_; (first | rw [← Ny294.out] at ho37 | (simp only [Int.reduceToNat] at ho37; rw [← Ny294.out] at ho37)); have n0_ := Aside0.mk (Kd.R_below (by (with_reducible repeat (first | apply Kd.R_alloc | apply Kd.R_drewN | apply Kd.R_drew)); exact (Kd.R_mono (Kd.R_far (p := ⟨gb293, 2, none⟩) (Kd.R_far (p := ⟨gb293, 1, none⟩) (Kd.R_far (p := ⟨gb293, 0, none⟩) (Kd.R_mono HO_5.out (fun k_ hk => (⟨hk, hk.2⟩ : _ ∧ k_ ≠ gb293))) (fun _ hk => hk.2) (.int .i64 ((rd_T31 t287 x49_2).f0))) (fun _ hk => hk.2) (.string ((rd_T31 t287 x49_2).f1))) (fun _ hk => hk.2) (.int .i64 ((rd_T31 t287 x49_2).f2))) (fun _ h_ => h_.1))) hb); have n1_ := Aside0.mk (Kd.R_below (by (with_reducible repeat (first | apply Kd.R_alloc | apply Kd.R_drewN | apply Kd.R_drew)); exact (Kd.R_mono (Kd.R_far (p := ⟨gb293, 2, none⟩) (Kd.R_far (p := ⟨gb293, 1, none⟩) (Kd.R_far (p := ⟨gb293, 0, none⟩) (Kd.R_types HO_10.out BK293.out (by decide)) (fun _ hk => hk.2) (.int .i64 ((rd_T31 t287 x49_2).f0))) (fun _ hk => hk.2) (.string ((rd_T31 t287 x49_2).f1))) (fun _ hk => hk.2) (.int .i64 ((rd_T31 t287 x49_2).f2))) (fun _ h_ => h_.1))) hb); have n2_ := Aside0.mk (Kd.R_below (by (with_reducible repeat (first | apply Kd.R_alloc | apply Kd.R_drewN | apply Kd.R_drew)); exact (Kd.R_mono (Kd.R_far (p := ⟨gb293, 2, none⟩) (Kd.R_far (p := ⟨gb293, 1, none⟩) (Kd.R_far (p := ⟨gb293, 0, none⟩) (Kd.R_mono HO_47.out (fun k_ hk => (⟨hk, hk.2⟩ : _ ∧ k_ ≠ gb293))) (fun _ hk => hk.2) (.int .i64 ((rd_T31 t287 x49_2).f0))) (fun _ hk => hk.2) (.string ((rd_T31 t287 x49_2).f1))) (fun _ hk => hk.2) (.int .i64 ((rd_T31 t287 x49_2).f2))) (fun _ h_ => h_.1))) hb); have n3_ := Aside0.mk (Kd.R_lower ho37 (below_size (by repeat (first | (with_reducible first | exact HB.out | apply below_alloc | apply pw_below_drewN | apply below_drew1 | refine below_set ?_ GE293.out) | exact HB.out)))); have n4_ := Aside0.mk (blk_below (g := gb293) (o := .cells #[.int .i64 ((rd_T31 t287 x49_2).f0), .string ((rd_T31 t287 x49_2).f1), .int .i64 ((rd_T31 t287 x49_2).f2)] 31 (0, 0)) (by (with_reducible repeat (first | refine blk_drewN ?_ _ | refine blk_drew ?_ | refine blk_alloc ?_ _)); refine blk_put (cs := #[.int .i64 ((rd_T31 t287 x49_2).f0), .string ((rd_T31 t287 x49_2).f1), .int .i64 0]) ?_ 2 _ rfl; (with_reducible repeat (first | refine blk_drewN ?_ _ | refine blk_drew ?_ | refine blk_alloc ?_ _)); refine blk_put (cs := #[.int .i64 ((rd_T31 t287 x49_2).f0), .string (⟨#[]⟩ : ByteArray), .int .i64 0]) ?_ 1 _ rfl; (with_reducible repeat (first | refine blk_drewN ?_ _ | refine blk_drew ?_ | refine blk_alloc ?_ _)); refine blk_put (cs := #[.int .i64 0, .string (⟨#[]⟩ : ByteArray), .int .i64 0]) ?_ 0 _ rfl; (with_reducible repeat (first | refine blk_drewN ?_ _ | refine blk_drew ?_ | refine blk_alloc ?_ _)); exact BK293.out) hb); have n5_ := Aside0.mk (below_step (by repeat (first | (with_reducible first | exact HB.out | apply below_alloc | apply pw_below_drewN | apply below_drew1 | refine below_set ?_ GE293.out) | exact HB.out)) hb); clear HO_5; clear HO_10; clear HO_47; clear BK293; clear HB; have HO_5 := n0_; have HO_10 := n1_; have HO_47 := n2_; have HO296 := n3_; have BK293 := n4_; have HB := n5_; clear n0_ n1_ n2_ n3_ n4_ n5_; clear hb ho37; have p297 : 0 ≤ ((ji23) : Int) := of_decide_eq_true (by first | (with_reducible assumption) | assumption); have q297 : (ji23) < (l1.length : Int) := of_decide_eq_true (by first | (with_reducible assumption) | assumption); obtain ⟨ad297, e297, hx297_0⟩ := Kd.at_int HR1.out (ji23) p297 q297; cases e297; replace hx297_0 := (HB.out.cell (World.block_lt_of_cell? w _ hx297_0)).trans hx297_0; replace p297 := eq_true p297; replace q297 := eq_true q297; obtain ⟨Ao38, co38, eo38⟩ := Kd.R_slice HO296.out; subst eo38; have p298 : 0 ≤ ((ji26) : Int) := of_decide_eq_true (by first | (with_reducible assumption) | assumption); have q298 : (ji26) < (y294.length : Int) := of_decide_eq_true (by first | (with_reducible assumption) | assumption); obtain ⟨ad298, e298, hx298_0⟩ := Kd.at_string (Kd.R_reads' HO296.out).2.2 (ji26) p298 q298; cases e298; replace p298 := eq_true p298; replace q298 := eq_true q298) | (go_at_call 24; (with_reducible refine (strings_Count.calls (rdOf ByteArray.empty y294 (ji26)) (⟨#[10]⟩ : ByteArray) t299 _ A29.out).mono ?_); rintro e w' ⟨rfl, ⟨nd, rfl⟩⟩; (try first | exact ⟨rfl, _, World.drewN_drewN _ _ _⟩ | exact ⟨rfl, _, Eq.trans (World.drewN_drewN _ _ _) (congrArg (World.drewN _) (Nat.add_assoc _ _ _))⟩)) | ((with_reducible refine gate_builtin (b := .append) (xs := #[.tmp 69, .tmp 71]) rfl ?_); (try (refine gate_guard (by rfl) ?_; dsimp only)); at_builtin; refine Kd.R_append (Kd.int .i64) (w0 := w) w.heap.size rfl (.tmp 69) (.tmp 71) 38 3 (.int .i64 0) 8 rfl Try.underlying38 info3 rfl (by decide) (by omega) u10 x10_2 (wrap64 (x9_2 + t299)) [.int .i64 (wrap64 (x9_2 + t299))] (fun _ => True) (fun _ => False) rfl rfl ?aP (fun _ hk => hk.elim) ?aF ?aO ?aB ?aS ?aL ?_; (case aP => exact rfl); (case aB => exact (by repeat (first | (with_reducible first | exact HB.out | apply below_alloc | apply pw_below_drewN | apply below_drew1 | refine below_set ?_ GE293.out) | exact HB.out))); (case aF => exact (fun _ _ => trivial)); (case aO => exact (by (with_reducible repeat (first | apply Kd.R_alloc | apply Kd.R_drewN | apply Kd.R_drew)); exact HO_10.out)); (case aS => exact (below_size (by repeat (first | (with_reducible first | exact HB.out | apply below_alloc | apply pw_below_drewN | apply below_drew1 | refine below_set ?_ GE293.out) | exact HB.out)))); (case aL => have := LMc30.out; omega); intro v301 w39 ho hb hg hat; rw [← Ny300.out] at ho; have n0_ := Aside0.mk (Kd.R_over' (by (with_reducible repeat (first | apply Kd.R_alloc | apply Kd.R_drewN | apply Kd.R_drew)); exact HO_5.out) (Kd.R_typed (by (with_reducible repeat (first | apply Kd.R_alloc | apply Kd.R_drewN | apply Kd.R_drew)); exact HO_10.out)) (by decide) hg); have n1_ := Aside0.mk (Kd.R_over' (by (with_reducible repeat (first | apply Kd.R_alloc | apply Kd.R_drewN | apply Kd.R_drew)); exact HO_47.out) (Kd.R_typed (by (with_reducible repeat (first | apply Kd.R_alloc | apply Kd.R_drewN | apply Kd.R_drew)); exact HO_10.out)) (by decide) hg); have n2_ := Aside0.mk (blk_grown (g := gb293) (o := .cells #[.int .i64 ((rd_T31 t287 x49_2).f0), .string ((rd_T31 t287 x49_2).f1), .int .i64 ((rd_T31 t287 x49_2).f2)] 31 (0, 0)) (by (with_reducible repeat (first | refine blk_drewN ?_ _ | refine blk_drew ?_ | refine blk_alloc ?_ _)); exact BK293.out) hg (Kd.R_ne HO_10.out BK293.out (by decide))); have n3_ := Aside0.mk (Kd.R_over' (by (with_reducible repeat (first | apply Kd.R_alloc | apply Kd.R_drewN | apply Kd.R_drew)); exact HO296.out) (Kd.R_typed (by (with_reducible repeat (first | apply Kd.R_alloc | apply Kd.R_drewN | apply Kd.R_drew)); exact HO_10.out)) (by decide) hg); have n4_ := Aside0.mk (hb); have n5_ := Aside0.mk (ho); clear HO_5; clear HO_47; clear BK293; clear HO296; clear HB; clear HO_10; have HO_5 := n0_; have HO_47 := n1_; have BK293 := n2_; have HO296 := n3_; have HB := n4_; have HO302 := n5_; clear n0_ n1_ n2_ n3_ n4_ n5_; clear ho hb hg hat; have hcz40_0 : w39.cell? ⟨gb293, 0, none⟩ = some (.int .i64 ((rd_T31 t287 x49_2).f0)) := (blk_cell BK293.out 0).trans rfl; have hcz40_1 : w39.cell? ⟨gb293, 1, none⟩ = some (.string ((rd_T31 t287 x49_2).f1)) := (blk_cell BK293.out 1).trans rfl; have hcz40_2 : w39.cell? ⟨gb293, 2, none⟩ = some (.int .i64 ((rd_T31 t287 x49_2).f2)) := (blk_cell BK293.out 2).trans rfl; have hfz40_0 := blk_frozen BK293.out 0; have hfz40_1 := blk_frozen BK293.out 1; have hfz40_2 := blk_frozen BK293.out 2) | ((with_reducible refine gate_dst (N := 75) rfl ?_); (try (refine gate_guard (by rfl) ?_; dsimp only)); refine Kd.R_lit k31 _ 31 ?hg (N := 75) ?hd (xs := ([(⟨(rd_T31 t287 x49_2).f0, (rd_T31 t287 x49_2).f1, (rd_T31 t287 x49_2).f2⟩ : S31)] : List (S31))) (inner := [.int .i64 ((rd_T31 t287 x49_2).f0), .string ((rd_T31 t287 x49_2).f1), .int .i64 ((rd_T31 t287 x49_2).f2)]) (ok := fun _ => True) (okp := fun _ => True) ?hr ?hp (fun _ hk => hk) trivial (Below.refl _ _) (Nat.le_refl _) (by simp) ?_; (case hd => rfl); (case hg => rfl); (case hr => first | (go_simp; done) | (go_simp; rfl)); (case hp => exact (Reps.c3 (show Kd.M k31 _ _ _ (⟨(rd_T31 t287 x49_2).f0, (rd_T31 t287 x49_2).f1, (rd_T31 t287 x49_2).f2⟩ : S31) [.int .i64 ((rd_T31 t287 x49_2).f0), .string ((rd_T31 t287 x49_2).f1), .int .i64 ((rd_T31 t287 x49_2).f2)] from (k31_mkM _ _ _ (⟨(rd_T31 t287 x49_2).f0, (rd_T31 t287 x49_2).f1, (rd_T31 t287 x49_2).f2⟩ : S31) )) (Reps.none _ _))); intro v304 w41 ho42 hb hg_ hnew_; clear hg_ hnew_; (first | rw [← Ny303.out] at ho42 | (simp only [Int.reduceToNat] at ho42; rw [← Ny303.out] at ho42)); have n0_ := Aside0.mk (Kd.R_elder' (by (with_reducible repeat (first | apply Kd.R_alloc | apply Kd.R_drewN | apply Kd.R_drew)); exact HO_5.out) (Kd.R_base ho42) hb); have n1_ := Aside0.mk (Kd.R_elder' (by (with_reducible repeat (first | apply Kd.R_alloc | apply Kd.R_drewN | apply Kd.R_drew)); exact HO_47.out) (Kd.R_base ho42) hb); have n2_ := Aside0.mk (Kd.R_below (by (with_reducible repeat (first | apply Kd.R_alloc | apply Kd.R_drewN | apply Kd.R_drew)); exact HO296.out) hb); have n3_ := Aside0.mk (Kd.R_below (by (with_reducible repeat (first | apply Kd.R_alloc | apply Kd.R_drewN | apply Kd.R_drew)); exact HO302.out) hb); have n4_ := Aside0.mk (Kd.R_lower (Kd.R_newB (Kd.R_new' (Kd.R_new' ho42 (Kd.R_lt (by (with_reducible repeat (first | apply Kd.R_alloc | apply Kd.R_drewN | apply Kd.R_drew)); exact HO_5.out))) (Kd.R_lt (by (with_reducible repeat (first | apply Kd.R_alloc | apply Kd.R_drewN | apply Kd.R_drew)); exact HO_47.out))) (g := gb293) (o := .cells #[.int .i64 ((rd_T31 t287 x49_2).f0), .string ((rd_T31 t287 x49_2).f1), .int .i64 ((rd_T31 t287 x49_2).f2)] 31 (0, 0)) (by (with_reducible repeat (first | refine blk_drewN ?_ _ | refine blk_drew ?_ | refine blk_alloc ?_ _)); exact BK293.out)) (below_size (by repeat (first | (with_reducible first | exact HB.out | apply below_alloc | apply pw_below_drewN | apply below_drew1 | refine below_set ?_ GE293.out) | exact HB.out)))); have n5_ := Aside0.mk (blk_below (g := gb293) (o := .cells #[.int .i64 ((rd_T31 t287 x49_2).f0), .string ((rd_T31 t287 x49_2).f1), .int .i64 ((rd_T31 t287 x49_2).f2)] 31 (0, 0)) (by (with_reducible repeat (first | refine blk_drewN ?_ _ | refine blk_drew ?_ | refine blk_alloc ?_ _)); exact BK293.out) hb); have n6_ := Aside0.mk (below_step (by repeat (first | (with_reducible first | exact HB.out | apply below_alloc | apply pw_below_drewN | apply below_drew1 | refine below_set ?_ GE293.out) | exact HB.out)) hb); clear HO_5; clear HO_47; clear HO296; clear HO302; clear BK293; clear HB; have HO_5 := n0_; have HO_47 := n1_; have HO296 := n2_; have HO302 := n3_; have HO305 := n4_; have BK293 := n5_; have HB := n6_; clear n0_ n1_ n2_ n3_ n4_ n5_ n6_; clear hb ho42; obtain ⟨Ao43, co43, eo43⟩ := Kd.R_slice HO305.out; subst eo43) | (go_at_call 25; (with_reducible refine (ancepsref05_Write.calls k2 _ _ y303 t306 t307 _ ?side1 ?side2 A31.out).mono ?_); (case side1 => repeat (first | exact (Kd.R_reads' HO305.out).2.2 | (with_reducible refine Kd.C_alloc ?_ _) | (with_reducible refine Kd.C_drewN ?_ _) | (with_reducible refine Kd.C_drew ?_))); (case side2 => exact (Kd.R_reads' HO305.out).2.1); rintro e w44 ⟨rfl, hb⟩; have n0_ := Aside0.mk (Kd.R_below (by (with_reducible repeat (first | apply Kd.R_alloc | apply Kd.R_drewN | apply Kd.R_drew)); exact HO_5.out) hb); have n1_ := Aside0.mk (Kd.R_below (by (with_reducible repeat (first | apply Kd.R_alloc | apply Kd.R_drewN | apply Kd.R_drew)); exact HO_47.out) hb); have n2_ := Aside0.mk (Kd.R_below (by (with_reducible repeat (first | apply Kd.R_alloc | apply Kd.R_drewN | apply Kd.R_drew)); exact HO296.out) hb); have n3_ := Aside0.mk (Kd.R_below (by (with_reducible repeat (first | apply Kd.R_alloc | apply Kd.R_drewN | apply Kd.R_drew)); exact HO302.out) hb); have n4_ := Aside0.mk (Kd.R_below (by (with_reducible repeat (first | apply Kd.R_alloc | apply Kd.R_drewN | apply Kd.R_drew)); exact HO305.out) hb); have n5_ := Aside0.mk (blk_below (g := gb293) (o := .cells #[.int .i64 ((rd_T31 t287 x49_2).f0), .string ((rd_T31 t287 x49_2).f1), .int .i64 ((rd_T31 t287 x49_2).f2)] 31 (0, 0)) (by (with_reducible repeat (first | refine blk_drewN ?_ _ | refine blk_drew ?_ | refine blk_alloc ?_ _)); exact BK293.out) hb); have n6_ := Aside0.mk (below_step (by repeat (first | (with_reducible first | exact HB.out | apply below_alloc | apply pw_below_drewN | apply below_drew1 | refine below_set ?_ GE293.out) | exact HB.out)) hb); clear HO_5; clear HO_47; clear HO296; clear HO302; clear HO305; clear BK293; clear HB; have HO_5 := n0_; have HO_47 := n1_; have HO296 := n2_; have HO302 := n3_; have HO305 := n4_; have BK293 := n5_; have HB := n6_; clear n0_ n1_ n2_ n3_ n4_ n5_ n6_; (try clear hb); (try clear hb2); (try clear hk); (try clear hi))))
                                    go_roundg k2
                                    case measure => have := HJ2.out; have := HK2.out; omega
                                    case rel => exact ⟨(x8_2 ++ ((rdOf ByteArray.empty y294 (ji26)) ++ t306)), (wrap64 (x9_2 + t299)), (y300), (wrap64 (x49_2 + 1)), (by first | rfl | (simp; done) | (simp only [← hji26] <;> (first | rfl | simp)) | (simp [*]; done)), (by first | rfl | (simp; done) | (simp [*]; done)), (by first | rfl | (simp; done) | (simp [*]; done)), H', ⟨by have := HJ2.out; have := HK2.out; omega⟩, ⟨by (with_reducible repeat (first | apply Kd.R_alloc | apply Kd.R_drewN | apply Kd.R_drew)); exact Kd.R_mono HO_5.out (fun _ hk => trivial)⟩, ⟨by (with_reducible repeat (first | apply Kd.R_alloc | apply Kd.R_drewN | apply Kd.R_drew)); exact HO302.out⟩, ⟨by (with_reducible repeat (first | apply Kd.R_alloc | apply Kd.R_drewN | apply Kd.R_drew)); exact Kd.R_mono HO_47.out (fun _ hk => trivial)⟩, ⟨by repeat (first | (with_reducible first | exact HB.out | apply below_alloc | apply pw_below_drewN | apply below_drew1 | refine below_set ?_ GE293.out) | exact HB.out)⟩⟩
                                  · rw [if_neg c33] at H
                                    exact absurd H (by simp)
                                · rw [if_neg c32] at H
                                  exact absurd H (by simp)
                              · rw [if_neg c30] at H
                                exact absurd H (by simp)
                            · rw [if_neg c28] at H
                              exact absurd H (by simp)
                          · rw [if_neg c27] at H
                            exact absurd H (by simp)
                        · rw [if_neg c25] at H
                          exact absurd H (by simp)
                      · rw [if_neg c24] at H
                        exact absurd H (by simp)
                  · rw [if_neg c21] at H
                    exact absurd H (by simp)
                · rw [if_neg c20] at H
                  exact absurd H (by simp)
              · rw [if_neg c19] at H
                have c19b0 : decide (x49_2 < (t287.length : Int)) = false := decide_eq_false c19
                clear c19
                replace H := Option.bind_eq_some_iff.mp H
                obtain ⟨⟨t308, t309, t310⟩, A450, H⟩ := H
                replace H : (if t310 = 0 then ((ancepsref05_Same.f k2 t287 t308).bind fun t313 => (ancepslaw05_TokenSpaced.j2 k2 x8_2 x10_2 t308 t310 (!t313))) else (ancepslaw05_TokenSpaced.j2 k2 x8_2 x10_2 t308 t310 true)) = some r := H
                have A45 := Aside0.mk A450
                clear A450
                have HC46 := Aside0.mk H
                clear H
                go_upto_region 18 with (first | (go_at_call 16; (with_reducible refine (token_Tokens.calls k2 x8_2 t308 t309 t310 _ A45.out).mono ?_); rintro e w47 ⟨v311, rfl, ho0, hb⟩; have n0_ := Aside0.mk (Kd.R_elder' (by (with_reducible repeat (first | apply Kd.R_alloc | apply Kd.R_drewN | apply Kd.R_drew)); exact HO_5.out) (Kd.R_base ho0) hb); have n1_ := Aside0.mk (Kd.R_below (by (with_reducible repeat (first | apply Kd.R_alloc | apply Kd.R_drewN | apply Kd.R_drew)); exact HO_10.out) hb); have n2_ := Aside0.mk (Kd.R_elder' (by (with_reducible repeat (first | apply Kd.R_alloc | apply Kd.R_drewN | apply Kd.R_drew)); exact HO_47.out) (Kd.R_base ho0) hb); have n3_ := Aside0.mk (Kd.R_lower (Kd.R_new' (Kd.R_new' ho0 (Kd.R_lt (by (with_reducible repeat (first | apply Kd.R_alloc | apply Kd.R_drewN | apply Kd.R_drew)); exact HO_5.out))) (Kd.R_lt (by (with_reducible repeat (first | apply Kd.R_alloc | apply Kd.R_drewN | apply Kd.R_drew)); exact HO_47.out))) (below_size (by repeat (first | (with_reducible first | exact HB.out | apply below_alloc | apply pw_below_drewN | apply below_drew1) | exact HB.out)))); have n4_ := Aside0.mk (below_step (by repeat (first | (with_reducible first | exact HB.out | apply below_alloc | apply pw_below_drewN | apply below_drew1) | exact HB.out)) hb); clear HO_5; clear HO_10; clear HO_47; clear HB; have HO_5 := n0_; have HO_10 := n1_; have HO_47 := n2_; have HO312 := n3_; have HB := n4_; clear n0_ n1_ n2_ n3_ n4_; (try clear hb); (try clear hb2); (try clear hk); (try clear hi); (try clear ho0)))
                repeat (go_quiet (first | (go_at_call 16; (with_reducible refine (token_Tokens.calls k2 x8_2 t308 t309 t310 _ A45.out).mono ?_); rintro e w47 ⟨v311, rfl, ho0, hb⟩; have n0_ := Aside0.mk (Kd.R_elder' (by (with_reducible repeat (first | apply Kd.R_alloc | apply Kd.R_drewN | apply Kd.R_drew)); exact HO_5.out) (Kd.R_base ho0) hb); have n1_ := Aside0.mk (Kd.R_below (by (with_reducible repeat (first | apply Kd.R_alloc | apply Kd.R_drewN | apply Kd.R_drew)); exact HO_10.out) hb); have n2_ := Aside0.mk (Kd.R_elder' (by (with_reducible repeat (first | apply Kd.R_alloc | apply Kd.R_drewN | apply Kd.R_drew)); exact HO_47.out) (Kd.R_base ho0) hb); have n3_ := Aside0.mk (Kd.R_lower (Kd.R_new' (Kd.R_new' ho0 (Kd.R_lt (by (with_reducible repeat (first | apply Kd.R_alloc | apply Kd.R_drewN | apply Kd.R_drew)); exact HO_5.out))) (Kd.R_lt (by (with_reducible repeat (first | apply Kd.R_alloc | apply Kd.R_drewN | apply Kd.R_drew)); exact HO_47.out))) (below_size (by repeat (first | (with_reducible first | exact HB.out | apply below_alloc | apply pw_below_drewN | apply below_drew1) | exact HB.out)))); have n4_ := Aside0.mk (below_step (by repeat (first | (with_reducible first | exact HB.out | apply below_alloc | apply pw_below_drewN | apply below_drew1) | exact HB.out)) hb); clear HO_5; clear HO_10; clear HO_47; clear HB; have HO_5 := n0_; have HO_10 := n1_; have HO_47 := n2_; have HO312 := n3_; have HB := n4_; clear n0_ n1_ n2_ n3_ n4_; (try clear hb); (try clear hb2); (try clear hk); (try clear hi); (try clear ho0))); go_upto_region 18 with (first | (go_at_call 16; (with_reducible refine (token_Tokens.calls k2 x8_2 t308 t309 t310 _ A45.out).mono ?_); rintro e w47 ⟨v311, rfl, ho0, hb⟩; have n0_ := Aside0.mk (Kd.R_elder' (by (with_reducible repeat (first | apply Kd.R_alloc | apply Kd.R_drewN | apply Kd.R_drew)); exact HO_5.out) (Kd.R_base ho0) hb); have n1_ := Aside0.mk (Kd.R_below (by (with_reducible repeat (first | apply Kd.R_alloc | apply Kd.R_drewN | apply Kd.R_drew)); exact HO_10.out) hb); have n2_ := Aside0.mk (Kd.R_elder' (by (with_reducible repeat (first | apply Kd.R_alloc | apply Kd.R_drewN | apply Kd.R_drew)); exact HO_47.out) (Kd.R_base ho0) hb); have n3_ := Aside0.mk (Kd.R_lower (Kd.R_new' (Kd.R_new' ho0 (Kd.R_lt (by (with_reducible repeat (first | apply Kd.R_alloc | apply Kd.R_drewN | apply Kd.R_drew)); exact HO_5.out))) (Kd.R_lt (by (with_reducible repeat (first | apply Kd.R_alloc | apply Kd.R_drewN | apply Kd.R_drew)); exact HO_47.out))) (below_size (by repeat (first | (with_reducible first | exact HB.out | apply below_alloc | apply pw_below_drewN | apply below_drew1) | exact HB.out)))); have n4_ := Aside0.mk (below_step (by repeat (first | (with_reducible first | exact HB.out | apply below_alloc | apply pw_below_drewN | apply below_drew1) | exact HB.out)) hb); clear HO_5; clear HO_10; clear HO_47; clear HB; have HO_5 := n0_; have HO_10 := n1_; have HO_47 := n2_; have HO312 := n3_; have HB := n4_; clear n0_ n1_ n2_ n3_ n4_; (try clear hb); (try clear hb2); (try clear hk); (try clear hi); (try clear ho0))))
                (try simp only [Act.put, List.setIfInBounds_toArray, List.set_cons_zero, List.set_cons_succ])
                go_cut [98] (fun v98 wc => ∃ (kq : Nat) (x98_45 : Bool), v98 = .bool x98_45 ∧ Aside0 (ancepslaw05_TokenSpaced.j2 kq x8_2 x10_2 t308 t310 x98_45 = some r) ∧ Aside0 (kq ≤ k2) ∧ Aside0 (Kd.R (Kd.int .i64) 3 wc w.heap.size (fun _ => True) u10 x10_2) ∧ Aside0 (Kd.R k31 31 wc w.heap.size (fun _ => True) v311 t308) ∧ Aside0 (Below w.heap.size w wc))
                case first =>
                  have H := HC46.out
                  clear HC46
                  by_cases c48 : t310 = 0
                  · rw [if_pos c48] at H
                    have c48b0 : (t310 == 0) = true := beq_iff_eq.mpr c48
                    have c48b1 : (t310 != 0) = false := bne_eq_false_iff_eq.mpr c48
                    clear c48
                    (first | rw [c48b0] | (simp only [i64_w, i32_w]; rw [c48b0]) | skip)
                    replace H := Option.bind_eq_some_iff.mp H
                    obtain ⟨t313, A490, H⟩ := H
                    replace H : (ancepslaw05_TokenSpaced.j2 k2 x8_2 x10_2 t308 t310 (!t313)) = some r := H
                    have A49 := Aside0.mk A490
                    clear A490
                    have H' := Aside0.mk H
                    clear H
                    obtain ⟨Ao50, co50, eo50⟩ := Kd.R_slice HO312.out
                    subst eo50
                    go_wp2_with (first | (go_at_call 21; (with_reducible refine (ancepsref05_Same.calls k2 _ _ t287 _ _ t308 t313 _ ?side1 ?side2 ?side3 ?side4 A49.out).mono ?_); (case side1 => repeat (first | exact (Kd.R_reads' HO_5.out).2.2 | (with_reducible refine Kd.C_alloc ?_ _) | (with_reducible refine Kd.C_drewN ?_ _) | (with_reducible refine Kd.C_drew ?_))); (case side2 => exact (Kd.R_reads' HO_5.out).2.1); (case side3 => repeat (first | exact (Kd.R_reads' HO312.out).2.2 | (with_reducible refine Kd.C_alloc ?_ _) | (with_reducible refine Kd.C_drewN ?_ _) | (with_reducible refine Kd.C_drew ?_))); (case side4 => exact (Kd.R_reads' HO312.out).2.1); rintro e w' ⟨rfl, ⟨nd, rfl⟩⟩; (try first | exact ⟨rfl, _, World.drewN_drewN _ _ _⟩ | exact ⟨rfl, _, Eq.trans (World.drewN_drewN _ _ _) (congrArg (World.drewN _) (Nat.add_assoc _ _ _))⟩)))
                    repeat (go_quiet (first | (go_at_call 21; (with_reducible refine (ancepsref05_Same.calls k2 _ _ t287 _ _ t308 t313 _ ?side1 ?side2 ?side3 ?side4 A49.out).mono ?_); (case side1 => repeat (first | exact (Kd.R_reads' HO_5.out).2.2 | (with_reducible refine Kd.C_alloc ?_ _) | (with_reducible refine Kd.C_drewN ?_ _) | (with_reducible refine Kd.C_drew ?_))); (case side2 => exact (Kd.R_reads' HO_5.out).2.1); (case side3 => repeat (first | exact (Kd.R_reads' HO312.out).2.2 | (with_reducible refine Kd.C_alloc ?_ _) | (with_reducible refine Kd.C_drewN ?_ _) | (with_reducible refine Kd.C_drew ?_))); (case side4 => exact (Kd.R_reads' HO312.out).2.1); rintro e w' ⟨rfl, ⟨nd, rfl⟩⟩; (try first | exact ⟨rfl, _, World.drewN_drewN _ _ _⟩ | exact ⟨rfl, _, Eq.trans (World.drewN_drewN _ _ _) (congrArg (World.drewN _) (Nat.add_assoc _ _ _))⟩))); try go_wp2_with (first | (go_at_call 21; (with_reducible refine (ancepsref05_Same.calls k2 _ _ t287 _ _ t308 t313 _ ?side1 ?side2 ?side3 ?side4 A49.out).mono ?_); (case side1 => repeat (first | exact (Kd.R_reads' HO_5.out).2.2 | (with_reducible refine Kd.C_alloc ?_ _) | (with_reducible refine Kd.C_drewN ?_ _) | (with_reducible refine Kd.C_drew ?_))); (case side2 => exact (Kd.R_reads' HO_5.out).2.1); (case side3 => repeat (first | exact (Kd.R_reads' HO312.out).2.2 | (with_reducible refine Kd.C_alloc ?_ _) | (with_reducible refine Kd.C_drewN ?_ _) | (with_reducible refine Kd.C_drew ?_))); (case side4 => exact (Kd.R_reads' HO312.out).2.1); rintro e w' ⟨rfl, ⟨nd, rfl⟩⟩; (try first | exact ⟨rfl, _, World.drewN_drewN _ _ _⟩ | exact ⟨rfl, _, Eq.trans (World.drewN_drewN _ _ _) (congrArg (World.drewN _) (Nat.add_assoc _ _ _))⟩))))
                    go_meet
                    case rel => exact ⟨_, (!t313), (by first | rfl | (simp; done) | (simp [*]; done)), H', ⟨by have := HJ2.out; have := HK2.out; first | omega | exact Nat.le_refl _⟩, ⟨by (with_reducible repeat (first | apply Kd.R_alloc | apply Kd.R_drewN | apply Kd.R_drew)); exact HO_10.out⟩, ⟨by (with_reducible repeat (first | apply Kd.R_alloc | apply Kd.R_drewN | apply Kd.R_drew)); exact Kd.R_mono HO312.out (fun _ hk => trivial)⟩, ⟨by repeat (first | (with_reducible first | exact HB.out | apply below_alloc | apply pw_below_drewN | apply below_drew1) | exact HB.out)⟩⟩
                  · rw [if_neg c48] at H
                    have c48b0 : (t310 == 0) = false := beq_eq_false_iff_ne.mpr c48
                    have c48b1 : (t310 != 0) = true := bne_iff_ne.mpr c48
                    (first | rw [c48b0] | (simp only [i64_w, i32_w]; rw [c48b0]) | skip)
                    have H' := Aside0.mk H
                    clear H
                    go_wp2
                    repeat (go_quiet (fail); try go_wp2)
                    go_meet
                    case rel => exact ⟨_, (true), (by first | rfl | (simp; done) | (simp [*]; done)), H', ⟨by have := HJ2.out; have := HK2.out; first | omega | exact Nat.le_refl _⟩, ⟨by (with_reducible repeat (first | apply Kd.R_alloc | apply Kd.R_drewN | apply Kd.R_drew)); exact HO_10.out⟩, ⟨by (with_reducible repeat (first | apply Kd.R_alloc | apply Kd.R_drewN | apply Kd.R_drew)); exact Kd.R_mono HO312.out (fun _ hk => trivial)⟩, ⟨by repeat (first | (with_reducible first | exact HB.out | apply below_alloc | apply pw_below_drewN | apply below_drew1) | exact HB.out)⟩⟩
                case rest =>
                  clear HC46
                  try clear c1
                  try clear c2
                  try clear p2
                  try clear q2
                  try clear hx2
                  try clear c3
                  try clear c4
                  try clear c5
                  try clear c6
                  try clear c6b0
                  try clear c6b1
                  try clear p6
                  try clear c7
                  try clear c8
                  try clear c8b0
                  try clear c8b1
                  try clear c8b2
                  try clear c12
                  try clear c16
                  try clear c16b0
                  try clear c16b1
                  try clear c19
                  try clear c19b0
                  try clear c20
                  try clear c20b0
                  try clear c21
                  try clear c21b0
                  try clear c22
                  try clear c22b0
                  try clear c22b1
                  try clear c22b2
                  try clear c24
                  try clear c24b0
                  try clear c25
                  try clear c25b0
                  try clear c27
                  try clear c27b0
                  try clear c28
                  try clear c28b0
                  try clear p29
                  try clear q29
                  try clear hx29
                  try clear c30
                  try clear c32
                  try clear c32b0
                  try clear c32b1
                  try clear c32b2
                  try clear c33
                  try clear c33b0
                  try clear c33b1
                  try clear c33b2
                  try clear c48
                  try clear c48b0
                  try clear c48b1
                  try clear hcz35_0
                  try clear hcz35_1
                  try clear hcz35_2
                  try clear hcz40_0
                  try clear hcz40_1
                  try clear hcz40_2
                  try clear hfz35_0
                  try clear hfz35_1
                  try clear hfz35_2
                  try clear hfz40_0
                  try clear hfz40_1
                  try clear hfz40_2
                  try clear hx292_0
                  try clear hx292_1
                  try clear hx292_2
                  try clear hx297_0
                  try clear hx298_0
                  try clear p2
                  try clear p292
                  try clear p297
                  try clear p298
                  try clear q292
                  try clear q297
                  try clear q298
                  obtain ⟨kq, x98_45, rfl, HA, HJ45, HO_10, HO_16, HB⟩ := hcut
                  cases kq with
                  | zero => exact absurd HA.out (by simp [ancepslaw05_TokenSpaced.j2])
                  | succ kj45 =>
                    have H := HA.out
                    clear HA
                    simp only [ancepslaw05_TokenSpaced.j2] at H
                    by_cases c51 : x98_45 = true
                    · subst c51
                      have H1 : (if (x8_2.size : Int) > 20000 then (some (t310 == 3)) else (some false)) = some r := by rw [if_pos rfl] at H; exact H
                      clear H
                      have H := H1
                      clear H1
                      by_cases c52 : (x8_2.size : Int) > 20000
                      · rw [if_pos c52] at H
                        have c52b0 : decide (20000 < (x8_2.size : Int)) = true := decide_eq_true c52
                        have c52b1 : decide (20000 < x8_2.size) = true := decide_eq_true (by omega)
                        clear c52
                        obtain rfl := Option.some.inj H
                        go_wp2
                        repeat (go_quiet (fail); try go_wp2)
                        go_ret
                        exact ⟨by first | rfl | (simp [errW_none, errW_some] <;> rfl) | (simp [*, errW_none, errW_some] <;> rfl), by repeat (first | (with_reducible first | exact HB.out | apply below_alloc | apply pw_below_drewN | apply below_drew1) | exact HB.out)⟩
                      · rw [if_neg c52] at H
                        have c52b0 : decide (20000 < (x8_2.size : Int)) = false := decide_eq_false c52
                        have c52b1 : decide (20000 < x8_2.size) = false := decide_eq_false (by omega)
                        clear c52
                        obtain rfl := Option.some.inj H
                        go_wp2
                        repeat (go_quiet (fail); try go_wp2)
                        go_ret
                        exact ⟨by first | rfl | (simp [errW_none, errW_some] <;> rfl) | (simp [*, errW_none, errW_some] <;> rfl), by repeat (first | (with_reducible first | exact HB.out | apply below_alloc | apply pw_below_drewN | apply below_drew1) | exact HB.out)⟩
                    · replace c51 := Bool.eq_false_iff.mpr c51
                      subst c51
                      have H1 : (ancepslaw05_TokenSpaced.l1 kj45 x10_2 t308 (t308.length : Int) 0) = some r := by rw [if_neg (show ¬ (false = true) by decide)] at H; exact H
                      clear H
                      have H := H1
                      clear H1
                      have H' := Aside0.mk H
                      clear H
                      obtain ⟨Ao53, co53, eo53⟩ := Kd.R_slice HO_16.out
                      subst eo53
                      go_wp2
                      repeat (go_quiet (fail); try go_wp2)
                      go_loopg [108] kj45 (fun kq v108 w' => ∃ (x108_4 : Int), v108 = .int .i64 x108_4 ∧ Aside0 (ancepslaw05_TokenSpaced.l1 kq x10_2 t308 (t308.length : Int) x108_4 = some r) ∧ Aside0 (kq ≤ kj45) ∧ Aside0 (Kd.R (Kd.int .i64) 3 w' w.heap.size (fun _ => True) u10 x10_2) ∧ Aside0 (Kd.R k31 31 w' w.heap.size (fun _ => True) (.slice Ao53 t308.length co53) t308) ∧ Aside0 (Below w.heap.size w w'))
                      case atStart => exact ⟨(0), (by first | rfl | (simp; done) | (simp [*]; done)), H', ⟨Nat.le_refl _⟩, ⟨by (with_reducible repeat (first | apply Kd.R_alloc | apply Kd.R_drewN | apply Kd.R_drew)); exact HO_10.out⟩, ⟨by (with_reducible repeat (first | apply Kd.R_alloc | apply Kd.R_drewN | apply Kd.R_drew)); exact HO_16.out⟩, ⟨by repeat (first | (with_reducible first | exact HB.out | apply below_alloc | apply pw_below_drewN | apply below_drew1) | exact HB.out)⟩⟩
                      case round =>
                        clear H'
                        try clear c1
                        try clear c2
                        try clear p2
                        try clear q2
                        try clear hx2
                        try clear c3
                        try clear c4
                        try clear c5
                        try clear c6
                        try clear c6b0
                        try clear c6b1
                        try clear p6
                        try clear c7
                        try clear c8
                        try clear c8b0
                        try clear c8b1
                        try clear c8b2
                        try clear c12
                        try clear c16
                        try clear c16b0
                        try clear c16b1
                        try clear c19
                        try clear c19b0
                        try clear c20
                        try clear c20b0
                        try clear c21
                        try clear c21b0
                        try clear c22
                        try clear c22b0
                        try clear c22b1
                        try clear c22b2
                        try clear c24
                        try clear c24b0
                        try clear c25
                        try clear c25b0
                        try clear c27
                        try clear c27b0
                        try clear c28
                        try clear c28b0
                        try clear p29
                        try clear q29
                        try clear hx29
                        try clear c30
                        try clear c32
                        try clear c32b0
                        try clear c32b1
                        try clear c32b2
                        try clear c33
                        try clear c33b0
                        try clear c33b1
                        try clear c33b2
                        try clear c48
                        try clear c48b0
                        try clear c48b1
                        try clear c51
                        try clear c52
                        try clear c52b0
                        try clear c52b1
                        try clear hcz35_0
                        try clear hcz35_1
                        try clear hcz35_2
                        try clear hcz40_0
                        try clear hcz40_1
                        try clear hcz40_2
                        try clear hfz35_0
                        try clear hfz35_1
                        try clear hfz35_2
                        try clear hfz40_0
                        try clear hfz40_1
                        try clear hfz40_2
                        try clear hx292_0
                        try clear hx292_1
                        try clear hx292_2
                        try clear hx297_0
                        try clear hx298_0
                        try clear p2
                        try clear p29
                        try clear p292
                        try clear p297
                        try clear p298
                        try clear p6
                        try clear q2
                        try clear q29
                        try clear q292
                        try clear q297
                        try clear q298
                        obtain ⟨x108_4, rfl, HA, HK4, HO_10, HO_106, HB⟩ := hrel
                        cases gk with
                        | zero => exact absurd HA.out (by simp [ancepslaw05_TokenSpaced.l1])
                        | succ k4 =>
                          have H := HA.out
                          clear HA
                          simp only [ancepslaw05_TokenSpaced.l1] at H
                          by_cases c54 : x108_4 < (t308.length : Int)
                          · rw [if_pos c54] at H
                            have c54b0 : decide (x108_4 < (t308.length : Int)) = true := decide_eq_true c54
                            clear c54
                            by_cases c55 : 0 ≤ x108_4
                            · rw [if_pos c55] at H
                              have c55b0 : decide (0 ≤ x108_4) = true := decide_eq_true c55
                              clear c55
                              by_cases c56 : x108_4 < (t308.length : Int)
                              · rw [if_pos c56] at H
                                have c56b0 : decide (x108_4 < (t308.length : Int)) = true := decide_eq_true c56
                                clear c56
                                by_cases c57 : x108_4 < (x10_2.length : Int)
                                · rw [if_pos c57] at H
                                  have c57b0 : decide (x108_4 < (x10_2.length : Int)) = true := decide_eq_true c57
                                  clear c57
                                  by_cases c58 : ((rd_T31 t308 x108_4).f2) = (rd x10_2 x108_4)
                                  · rw [if_pos c58] at H
                                    have c58b0 : (((rd_T31 t308 x108_4).f2) == (rd x10_2 x108_4)) = true := beq_iff_eq.mpr c58
                                    have c58b1 : (((rd_T31 t308 x108_4).f2) != (rd x10_2 x108_4)) = false := bne_eq_false_iff_eq.mpr c58
                                    clear c58
                                    have H' := Aside0.mk H
                                    clear H
                                    have p314 : 0 ≤ (x108_4 : Int) := of_decide_eq_true (by first | (with_reducible assumption) | assumption)
                                    have q314 : x108_4 < (t308.length : Int) := of_decide_eq_true (by first | (with_reducible assumption) | assumption)
                                    obtain ⟨ad314, e314, hx314_0, hx314_1, hx314_2⟩ := at_T31 (Kd.R_reads' HO_106.out).2.2 x108_4 p314 q314
                                    cases e314
                                    replace p314 := eq_true p314
                                    replace q314 := eq_true q314
                                    go_wp2_with (first | ((with_reducible refine gate_dst (N := 20) rfl ?_); (try (refine gate_guard (by rfl) ?_; dsimp only)); refine box_event ?hg (N := 20) ?hd (cs := #[.int .i64 0, .string (⟨#[]⟩ : ByteArray), .int .i64 0]) (t := 31) ?hr ?_; (case hd => rfl); (case hg => rfl); (case hr => first | (go_simp; done) | (go_simp; rfl)); intro gb315 hg w59 hbox hb; have n0_ := Aside0.mk (Kd.R_below (by (with_reducible repeat (first | apply Kd.R_alloc | apply Kd.R_drewN | apply Kd.R_drew)); exact HO_10.out) hb); have n1_ := Aside0.mk (Kd.R_below (Kd.R_elderB (by (with_reducible repeat (first | apply Kd.R_alloc | apply Kd.R_drewN | apply Kd.R_drew)); exact HO_106.out) gb315 (Nat.le_of_eq hg.symm)) hb); have n2_ := Aside0.mk (below_step (by repeat (first | (with_reducible first | exact HB.out | apply below_alloc | apply pw_below_drewN | apply below_drew1) | exact HB.out)) hb); have n3_ := Aside0.mk (hbox); have n4_ := Aside0.mk ((by rw [hg]; exact (below_size (by repeat (first | (with_reducible first | exact HB.out | apply below_alloc | apply pw_below_drewN | apply below_drew1) | exact HB.out))) : w.heap.size ≤ gb315)); have n5_ := Aside0.mk ((by rw [hg]; exact (below_size (by repeat (first | (with_reducible first | exact HB.out | apply below_alloc | apply pw_below_drewN | apply below_drew1) | exact HB.out))) : w.heap.size ≤ gb315)); clear HO_10; clear HO_106; clear HB; have HO_10 := n0_; have HO_106 := n1_; have HB := n2_; have BK315 := n3_; have GW315 := n4_; have GE315 := n5_; clear n0_ n1_ n2_ n3_ n4_ n5_; clear hb hbox hg; have hcz60_0 : w59.cell? ⟨gb315, 0, none⟩ = some (.int .i64 0) := (blk_cell BK315.out 0).trans rfl; have hcz60_1 : w59.cell? ⟨gb315, 1, none⟩ = some (.string (⟨#[]⟩ : ByteArray)) := (blk_cell BK315.out 1).trans rfl; have hcz60_2 : w59.cell? ⟨gb315, 2, none⟩ = some (.int .i64 0) := (blk_cell BK315.out 2).trans rfl; have hfz60_0 := blk_frozen BK315.out 0; have hfz60_1 := blk_frozen BK315.out 1; have hfz60_2 := blk_frozen BK315.out 2; obtain ⟨Ao61, co61, eo61⟩ := Kd.R_slice HO_10.out; subst eo61; have p316 : 0 ≤ (x108_4 : Int) := of_decide_eq_true (by first | (with_reducible assumption) | assumption); have q316 : x108_4 < (x10_2.length : Int) := of_decide_eq_true (by first | (with_reducible assumption) | assumption); obtain ⟨ad316, e316, hx316_0⟩ := Kd.at_int (Kd.R_reads' HO_10.out).2.2 x108_4 p316 q316; cases e316; have hn316_0 : ad316.block ≠ gb315 := Kd.own_blk (Kd.R_ne HO_10.out BK315.out (by decide)); have hn316_1 : ad316.block ≠ gb315 := Kd.own_blk (Kd.R_ne HO_10.out BK315.out (by decide)); have hn316_2 : ad316.block ≠ gb315 := Kd.own_blk (Kd.R_ne HO_10.out BK315.out (by decide)); replace hx316_0 := (cell_far (p := ⟨gb315, 0, none⟩) (by first | (rw [add_block]; exact hn316_0) | (show (Addr.add _ _).block ≠ _; rw [add_block]; exact hn316_0) | exact hn316_0) (.int .i64 ((rd_T31 t308 x108_4).f0))).trans hx316_0; replace hx316_0 := (cell_far (p := ⟨gb315, 1, none⟩) (by first | (rw [add_block]; exact hn316_1) | (show (Addr.add _ _).block ≠ _; rw [add_block]; exact hn316_1) | exact hn316_1) (.string ((rd_T31 t308 x108_4).f1))).trans hx316_0; replace hx316_0 := (cell_far (p := ⟨gb315, 2, none⟩) (by first | (rw [add_block]; exact hn316_2) | (show (Addr.add _ _).block ≠ _; rw [add_block]; exact hn316_2) | exact hn316_2) (.int .i64 ((rd_T31 t308 x108_4).f2))).trans hx316_0; (try have hy316_0 := fun (n_ : Nat) => (show (((((w59.drewN n_).setCell ⟨gb315, 0, none⟩ (.int .i64 ((rd_T31 t308 x108_4).f0))).setCell ⟨gb315, 1, none⟩ (.string ((rd_T31 t308 x108_4).f1))).setCell ⟨gb315, 2, none⟩ (.int .i64 ((rd_T31 t308 x108_4).f2)))).cell? _ = some _ from hx316_0)); clear hn316_0; clear hn316_1; clear hn316_2; replace p316 := eq_true p316; replace q316 := eq_true q316))
                                    repeat (go_quiet (first | ((with_reducible refine gate_dst (N := 20) rfl ?_); (try (refine gate_guard (by rfl) ?_; dsimp only)); refine box_event ?hg (N := 20) ?hd (cs := #[.int .i64 0, .string (⟨#[]⟩ : ByteArray), .int .i64 0]) (t := 31) ?hr ?_; (case hd => rfl); (case hg => rfl); (case hr => first | (go_simp; done) | (go_simp; rfl)); intro gb315 hg w59 hbox hb; have n0_ := Aside0.mk (Kd.R_below (by (with_reducible repeat (first | apply Kd.R_alloc | apply Kd.R_drewN | apply Kd.R_drew)); exact HO_10.out) hb); have n1_ := Aside0.mk (Kd.R_below (Kd.R_elderB (by (with_reducible repeat (first | apply Kd.R_alloc | apply Kd.R_drewN | apply Kd.R_drew)); exact HO_106.out) gb315 (Nat.le_of_eq hg.symm)) hb); have n2_ := Aside0.mk (below_step (by repeat (first | (with_reducible first | exact HB.out | apply below_alloc | apply pw_below_drewN | apply below_drew1) | exact HB.out)) hb); have n3_ := Aside0.mk (hbox); have n4_ := Aside0.mk ((by rw [hg]; exact (below_size (by repeat (first | (with_reducible first | exact HB.out | apply below_alloc | apply pw_below_drewN | apply below_drew1) | exact HB.out))) : w.heap.size ≤ gb315)); have n5_ := Aside0.mk ((by rw [hg]; exact (below_size (by repeat (first | (with_reducible first | exact HB.out | apply below_alloc | apply pw_below_drewN | apply below_drew1) | exact HB.out))) : w.heap.size ≤ gb315)); clear HO_10; clear HO_106; clear HB; have HO_10 := n0_; have HO_106 := n1_; have HB := n2_; have BK315 := n3_; have GW315 := n4_; have GE315 := n5_; clear n0_ n1_ n2_ n3_ n4_ n5_; clear hb hbox hg; have hcz60_0 : w59.cell? ⟨gb315, 0, none⟩ = some (.int .i64 0) := (blk_cell BK315.out 0).trans rfl; have hcz60_1 : w59.cell? ⟨gb315, 1, none⟩ = some (.string (⟨#[]⟩ : ByteArray)) := (blk_cell BK315.out 1).trans rfl; have hcz60_2 : w59.cell? ⟨gb315, 2, none⟩ = some (.int .i64 0) := (blk_cell BK315.out 2).trans rfl; have hfz60_0 := blk_frozen BK315.out 0; have hfz60_1 := blk_frozen BK315.out 1; have hfz60_2 := blk_frozen BK315.out 2; obtain ⟨Ao61, co61, eo61⟩ := Kd.R_slice HO_10.out; subst eo61; have p316 : 0 ≤ (x108_4 : Int) := of_decide_eq_true (by first | (with_reducible assumption) | assumption); have q316 : x108_4 < (x10_2.length : Int) := of_decide_eq_true (by first | (with_reducible assumption) | assumption); obtain ⟨ad316, e316, hx316_0⟩ := Kd.at_int (Kd.R_reads' HO_10.out).2.2 x108_4 p316 q316; cases e316; have hn316_0 : ad316.block ≠ gb315 := Kd.own_blk (Kd.R_ne HO_10.out BK315.out (by decide)); have hn316_1 : ad316.block ≠ gb315 := Kd.own_blk (Kd.R_ne HO_10.out BK315.out (by decide)); have hn316_2 : ad316.block ≠ gb315 := Kd.own_blk (Kd.R_ne HO_10.out BK315.out (by decide)); replace hx316_0 := (cell_far (p := ⟨gb315, 0, none⟩) (by first | (rw [add_block]; exact hn316_0) | (show (Addr.add _ _).block ≠ _; rw [add_block]; exact hn316_0) | exact hn316_0) (.int .i64 ((rd_T31 t308 x108_4).f0))).trans hx316_0; replace hx316_0 := (cell_far (p := ⟨gb315, 1, none⟩) (by first | (rw [add_block]; exact hn316_1) | (show (Addr.add _ _).block ≠ _; rw [add_block]; exact hn316_1) | exact hn316_1) (.string ((rd_T31 t308 x108_4).f1))).trans hx316_0; replace hx316_0 := (cell_far (p := ⟨gb315, 2, none⟩) (by first | (rw [add_block]; exact hn316_2) | (show (Addr.add _ _).block ≠ _; rw [add_block]; exact hn316_2) | exact hn316_2) (.int .i64 ((rd_T31 t308 x108_4).f2))).trans hx316_0; (try have hy316_0 := fun (n_ : Nat) => (show (((((w59.drewN n_).setCell ⟨gb315, 0, none⟩ (.int .i64 ((rd_T31 t308 x108_4).f0))).setCell ⟨gb315, 1, none⟩ (.string ((rd_T31 t308 x108_4).f1))).setCell ⟨gb315, 2, none⟩ (.int .i64 ((rd_T31 t308 x108_4).f2)))).cell? _ = some _ from hx316_0)); clear hn316_0; clear hn316_1; clear hn316_2; replace p316 := eq_true p316; replace q316 := eq_true q316)); try go_wp2_with (first | ((with_reducible refine gate_dst (N := 20) rfl ?_); (try (refine gate_guard (by rfl) ?_; dsimp only)); refine box_event ?hg (N := 20) ?hd (cs := #[.int .i64 0, .string (⟨#[]⟩ : ByteArray), .int .i64 0]) (t := 31) ?hr ?_; (case hd => rfl); (case hg => rfl); (case hr => first | (go_simp; done) | (go_simp; rfl)); intro gb315 hg w59 hbox hb; have n0_ := Aside0.mk (Kd.R_below (by (with_reducible repeat (first | apply Kd.R_alloc | apply Kd.R_drewN | apply Kd.R_drew)); exact HO_10.out) hb); have n1_ := Aside0.mk (Kd.R_below (Kd.R_elderB (by (with_reducible repeat (first | apply Kd.R_alloc | apply Kd.R_drewN | apply Kd.R_drew)); exact HO_106.out) gb315 (Nat.le_of_eq hg.symm)) hb); have n2_ := Aside0.mk (below_step (by repeat (first | (with_reducible first | exact HB.out | apply below_alloc | apply pw_below_drewN | apply below_drew1) | exact HB.out)) hb); have n3_ := Aside0.mk (hbox); have n4_ := Aside0.mk ((by rw [hg]; exact (below_size (by repeat (first | (with_reducible first | exact HB.out | apply below_alloc | apply pw_below_drewN | apply below_drew1) | exact HB.out))) : w.heap.size ≤ gb315)); have n5_ := Aside0.mk ((by rw [hg]; exact (below_size (by repeat (first | (with_reducible first | exact HB.out | apply below_alloc | apply pw_below_drewN | apply below_drew1) | exact HB.out))) : w.heap.size ≤ gb315)); clear HO_10; clear HO_106; clear HB; have HO_10 := n0_; have HO_106 := n1_; have HB := n2_; have BK315 := n3_; have GW315 := n4_; have GE315 := n5_; clear n0_ n1_ n2_ n3_ n4_ n5_; clear hb hbox hg; have hcz60_0 : w59.cell? ⟨gb315, 0, none⟩ = some (.int .i64 0) := (blk_cell BK315.out 0).trans rfl; have hcz60_1 : w59.cell? ⟨gb315, 1, none⟩ = some (.string (⟨#[]⟩ : ByteArray)) := (blk_cell BK315.out 1).trans rfl; have hcz60_2 : w59.cell? ⟨gb315, 2, none⟩ = some (.int .i64 0) := (blk_cell BK315.out 2).trans rfl; have hfz60_0 := blk_frozen BK315.out 0; have hfz60_1 := blk_frozen BK315.out 1; have hfz60_2 := blk_frozen BK315.out 2; obtain ⟨Ao61, co61, eo61⟩ := Kd.R_slice HO_10.out; subst eo61; have p316 : 0 ≤ (x108_4 : Int) := of_decide_eq_true (by first | (with_reducible assumption) | assumption); have q316 : x108_4 < (x10_2.length : Int) := of_decide_eq_true (by first | (with_reducible assumption) | assumption); obtain ⟨ad316, e316, hx316_0⟩ := Kd.at_int (Kd.R_reads' HO_10.out).2.2 x108_4 p316 q316; cases e316; have hn316_0 : ad316.block ≠ gb315 := Kd.own_blk (Kd.R_ne HO_10.out BK315.out (by decide)); have hn316_1 : ad316.block ≠ gb315 := Kd.own_blk (Kd.R_ne HO_10.out BK315.out (by decide)); have hn316_2 : ad316.block ≠ gb315 := Kd.own_blk (Kd.R_ne HO_10.out BK315.out (by decide)); replace hx316_0 := (cell_far (p := ⟨gb315, 0, none⟩) (by first | (rw [add_block]; exact hn316_0) | (show (Addr.add _ _).block ≠ _; rw [add_block]; exact hn316_0) | exact hn316_0) (.int .i64 ((rd_T31 t308 x108_4).f0))).trans hx316_0; replace hx316_0 := (cell_far (p := ⟨gb315, 1, none⟩) (by first | (rw [add_block]; exact hn316_1) | (show (Addr.add _ _).block ≠ _; rw [add_block]; exact hn316_1) | exact hn316_1) (.string ((rd_T31 t308 x108_4).f1))).trans hx316_0; replace hx316_0 := (cell_far (p := ⟨gb315, 2, none⟩) (by first | (rw [add_block]; exact hn316_2) | (show (Addr.add _ _).block ≠ _; rw [add_block]; exact hn316_2) | exact hn316_2) (.int .i64 ((rd_T31 t308 x108_4).f2))).trans hx316_0; (try have hy316_0 := fun (n_ : Nat) => (show (((((w59.drewN n_).setCell ⟨gb315, 0, none⟩ (.int .i64 ((rd_T31 t308 x108_4).f0))).setCell ⟨gb315, 1, none⟩ (.string ((rd_T31 t308 x108_4).f1))).setCell ⟨gb315, 2, none⟩ (.int .i64 ((rd_T31 t308 x108_4).f2)))).cell? _ = some _ from hx316_0)); clear hn316_0; clear hn316_1; clear hn316_2; replace p316 := eq_true p316; replace q316 := eq_true q316)))
                                    go_roundg k4
                                    case measure => have := HJ2.out; have := HK2.out; have := HJ45.out; have := HK4.out; omega
                                    case rel => exact ⟨(wrap64 (x108_4 + 1)), (by first | rfl | (simp; done) | (simp [*]; done)), H', ⟨by have := HJ2.out; have := HK2.out; have := HJ45.out; have := HK4.out; omega⟩, ⟨by (with_reducible repeat (first | apply Kd.R_alloc | apply Kd.R_drewN | apply Kd.R_drew)); exact Kd.R_mono (Kd.R_far (p := ⟨gb315, 2, none⟩) (Kd.R_far (p := ⟨gb315, 1, none⟩) (Kd.R_far (p := ⟨gb315, 0, none⟩) (Kd.R_types HO_10.out BK315.out (by decide)) (fun _ hk => hk.2) (.int .i64 ((rd_T31 t308 x108_4).f0))) (fun _ hk => hk.2) (.string ((rd_T31 t308 x108_4).f1))) (fun _ hk => hk.2) (.int .i64 ((rd_T31 t308 x108_4).f2))) (fun _ hk => trivial)⟩, ⟨by (with_reducible repeat (first | apply Kd.R_alloc | apply Kd.R_drewN | apply Kd.R_drew)); exact Kd.R_mono (Kd.R_far (p := ⟨gb315, 2, none⟩) (Kd.R_far (p := ⟨gb315, 1, none⟩) (Kd.R_far (p := ⟨gb315, 0, none⟩) (Kd.R_mono HO_106.out (fun k_ hk => (⟨hk, hk.2⟩ : _ ∧ k_ ≠ gb315))) (fun _ hk => hk.2) (.int .i64 ((rd_T31 t308 x108_4).f0))) (fun _ hk => hk.2) (.string ((rd_T31 t308 x108_4).f1))) (fun _ hk => hk.2) (.int .i64 ((rd_T31 t308 x108_4).f2))) (fun _ hk => trivial)⟩, ⟨by repeat (first | (with_reducible first | exact HB.out | apply below_alloc | apply pw_below_drewN | apply below_drew1 | refine below_set ?_ GE315.out) | exact HB.out)⟩⟩
                                  · rw [if_neg c58] at H
                                    have c58b0 : (((rd_T31 t308 x108_4).f2) == (rd x10_2 x108_4)) = false := beq_eq_false_iff_ne.mpr c58
                                    have c58b1 : (((rd_T31 t308 x108_4).f2) != (rd x10_2 x108_4)) = true := bne_iff_ne.mpr c58
                                    obtain rfl := Option.some.inj H
                                    have p314 : 0 ≤ (x108_4 : Int) := of_decide_eq_true (by first | (with_reducible assumption) | assumption)
                                    have q314 : x108_4 < (t308.length : Int) := of_decide_eq_true (by first | (with_reducible assumption) | assumption)
                                    obtain ⟨ad314, e314, hx314_0, hx314_1, hx314_2⟩ := at_T31 (Kd.R_reads' HO_106.out).2.2 x108_4 p314 q314
                                    cases e314
                                    replace p314 := eq_true p314
                                    replace q314 := eq_true q314
                                    go_wp2_with (first | ((with_reducible refine gate_dst (N := 20) rfl ?_); (try (refine gate_guard (by rfl) ?_; dsimp only)); refine box_event ?hg (N := 20) ?hd (cs := #[.int .i64 0, .string (⟨#[]⟩ : ByteArray), .int .i64 0]) (t := 31) ?hr ?_; (case hd => rfl); (case hg => rfl); (case hr => first | (go_simp; done) | (go_simp; rfl)); intro gb315 hg w62 hbox hb; have n0_ := Aside0.mk (Kd.R_below (by (with_reducible repeat (first | apply Kd.R_alloc | apply Kd.R_drewN | apply Kd.R_drew)); exact HO_10.out) hb); have n1_ := Aside0.mk (Kd.R_below (Kd.R_elderB (by (with_reducible repeat (first | apply Kd.R_alloc | apply Kd.R_drewN | apply Kd.R_drew)); exact HO_106.out) gb315 (Nat.le_of_eq hg.symm)) hb); have n2_ := Aside0.mk (below_step (by repeat (first | (with_reducible first | exact HB.out | apply below_alloc | apply pw_below_drewN | apply below_drew1) | exact HB.out)) hb); have n3_ := Aside0.mk (hbox); have n4_ := Aside0.mk ((by rw [hg]; exact (below_size (by repeat (first | (with_reducible first | exact HB.out | apply below_alloc | apply pw_below_drewN | apply below_drew1) | exact HB.out))) : w.heap.size ≤ gb315)); have n5_ := Aside0.mk ((by rw [hg]; exact (below_size (by repeat (first | (with_reducible first | exact HB.out | apply below_alloc | apply pw_below_drewN | apply below_drew1) | exact HB.out))) : w.heap.size ≤ gb315)); clear HO_10; clear HO_106; clear HB; have HO_10 := n0_; have HO_106 := n1_; have HB := n2_; have BK315 := n3_; have GW315 := n4_; have GE315 := n5_; clear n0_ n1_ n2_ n3_ n4_ n5_; clear hb hbox hg; have hcz63_0 : w62.cell? ⟨gb315, 0, none⟩ = some (.int .i64 0) := (blk_cell BK315.out 0).trans rfl; have hcz63_1 : w62.cell? ⟨gb315, 1, none⟩ = some (.string (⟨#[]⟩ : ByteArray)) := (blk_cell BK315.out 1).trans rfl; have hcz63_2 : w62.cell? ⟨gb315, 2, none⟩ = some (.int .i64 0) := (blk_cell BK315.out 2).trans rfl; have hfz63_0 := blk_frozen BK315.out 0; have hfz63_1 := blk_frozen BK315.out 1; have hfz63_2 := blk_frozen BK315.out 2; obtain ⟨Ao64, co64, eo64⟩ := Kd.R_slice HO_10.out; subst eo64; have p316 : 0 ≤ (x108_4 : Int) := of_decide_eq_true (by first | (with_reducible assumption) | assumption); have q316 : x108_4 < (x10_2.length : Int) := of_decide_eq_true (by first | (with_reducible assumption) | assumption); obtain ⟨ad316, e316, hx316_0⟩ := Kd.at_int (Kd.R_reads' HO_10.out).2.2 x108_4 p316 q316; cases e316; have hn316_0 : ad316.block ≠ gb315 := Kd.own_blk (Kd.R_ne HO_10.out BK315.out (by decide)); have hn316_1 : ad316.block ≠ gb315 := Kd.own_blk (Kd.R_ne HO_10.out BK315.out (by decide)); have hn316_2 : ad316.block ≠ gb315 := Kd.own_blk (Kd.R_ne HO_10.out BK315.out (by decide)); replace hx316_0 := (cell_far (p := ⟨gb315, 0, none⟩) (by first | (rw [add_block]; exact hn316_0) | (show (Addr.add _ _).block ≠ _; rw [add_block]; exact hn316_0) | exact hn316_0) (.int .i64 ((rd_T31 t308 x108_4).f0))).trans hx316_0; replace hx316_0 := (cell_far (p := ⟨gb315, 1, none⟩) (by first | (rw [add_block]; exact hn316_1) | (show (Addr.add _ _).block ≠ _; rw [add_block]; exact hn316_1) | exact hn316_1) (.string ((rd_T31 t308 x108_4).f1))).trans hx316_0; replace hx316_0 := (cell_far (p := ⟨gb315, 2, none⟩) (by first | (rw [add_block]; exact hn316_2) | (show (Addr.add _ _).block ≠ _; rw [add_block]; exact hn316_2) | exact hn316_2) (.int .i64 ((rd_T31 t308 x108_4).f2))).trans hx316_0; (try have hy316_0 := fun (n_ : Nat) => (show (((((w62.drewN n_).setCell ⟨gb315, 0, none⟩ (.int .i64 ((rd_T31 t308 x108_4).f0))).setCell ⟨gb315, 1, none⟩ (.string ((rd_T31 t308 x108_4).f1))).setCell ⟨gb315, 2, none⟩ (.int .i64 ((rd_T31 t308 x108_4).f2)))).cell? _ = some _ from hx316_0)); clear hn316_0; clear hn316_1; clear hn316_2; replace p316 := eq_true p316; replace q316 := eq_true q316))
                                    repeat (go_quiet (first | ((with_reducible refine gate_dst (N := 20) rfl ?_); (try (refine gate_guard (by rfl) ?_; dsimp only)); refine box_event ?hg (N := 20) ?hd (cs := #[.int .i64 0, .string (⟨#[]⟩ : ByteArray), .int .i64 0]) (t := 31) ?hr ?_; (case hd => rfl); (case hg => rfl); (case hr => first | (go_simp; done) | (go_simp; rfl)); intro gb315 hg w62 hbox hb; have n0_ := Aside0.mk (Kd.R_below (by (with_reducible repeat (first | apply Kd.R_alloc | apply Kd.R_drewN | apply Kd.R_drew)); exact HO_10.out) hb); have n1_ := Aside0.mk (Kd.R_below (Kd.R_elderB (by (with_reducible repeat (first | apply Kd.R_alloc | apply Kd.R_drewN | apply Kd.R_drew)); exact HO_106.out) gb315 (Nat.le_of_eq hg.symm)) hb); have n2_ := Aside0.mk (below_step (by repeat (first | (with_reducible first | exact HB.out | apply below_alloc | apply pw_below_drewN | apply below_drew1) | exact HB.out)) hb); have n3_ := Aside0.mk (hbox); have n4_ := Aside0.mk ((by rw [hg]; exact (below_size (by repeat (first | (with_reducible first | exact HB.out | apply below_alloc | apply pw_below_drewN | apply below_drew1) | exact HB.out))) : w.heap.size ≤ gb315)); have n5_ := Aside0.mk ((by rw [hg]; exact (below_size (by repeat (first | (with_reducible first | exact HB.out | apply below_alloc | apply pw_below_drewN | apply below_drew1) | exact HB.out))) : w.heap.size ≤ gb315)); clear HO_10; clear HO_106; clear HB; have HO_10 := n0_; have HO_106 := n1_; have HB := n2_; have BK315 := n3_; have GW315 := n4_; have GE315 := n5_; clear n0_ n1_ n2_ n3_ n4_ n5_; clear hb hbox hg; have hcz63_0 : w62.cell? ⟨gb315, 0, none⟩ = some (.int .i64 0) := (blk_cell BK315.out 0).trans rfl; have hcz63_1 : w62.cell? ⟨gb315, 1, none⟩ = some (.string (⟨#[]⟩ : ByteArray)) := (blk_cell BK315.out 1).trans rfl; have hcz63_2 : w62.cell? ⟨gb315, 2, none⟩ = some (.int .i64 0) := (blk_cell BK315.out 2).trans rfl; have hfz63_0 := blk_frozen BK315.out 0; have hfz63_1 := blk_frozen BK315.out 1; have hfz63_2 := blk_frozen BK315.out 2; obtain ⟨Ao64, co64, eo64⟩ := Kd.R_slice HO_10.out; subst eo64; have p316 : 0 ≤ (x108_4 : Int) := of_decide_eq_true (by first | (with_reducible assumption) | assumption); have q316 : x108_4 < (x10_2.length : Int) := of_decide_eq_true (by first | (with_reducible assumption) | assumption); obtain ⟨ad316, e316, hx316_0⟩ := Kd.at_int (Kd.R_reads' HO_10.out).2.2 x108_4 p316 q316; cases e316; have hn316_0 : ad316.block ≠ gb315 := Kd.own_blk (Kd.R_ne HO_10.out BK315.out (by decide)); have hn316_1 : ad316.block ≠ gb315 := Kd.own_blk (Kd.R_ne HO_10.out BK315.out (by decide)); have hn316_2 : ad316.block ≠ gb315 := Kd.own_blk (Kd.R_ne HO_10.out BK315.out (by decide)); replace hx316_0 := (cell_far (p := ⟨gb315, 0, none⟩) (by first | (rw [add_block]; exact hn316_0) | (show (Addr.add _ _).block ≠ _; rw [add_block]; exact hn316_0) | exact hn316_0) (.int .i64 ((rd_T31 t308 x108_4).f0))).trans hx316_0; replace hx316_0 := (cell_far (p := ⟨gb315, 1, none⟩) (by first | (rw [add_block]; exact hn316_1) | (show (Addr.add _ _).block ≠ _; rw [add_block]; exact hn316_1) | exact hn316_1) (.string ((rd_T31 t308 x108_4).f1))).trans hx316_0; replace hx316_0 := (cell_far (p := ⟨gb315, 2, none⟩) (by first | (rw [add_block]; exact hn316_2) | (show (Addr.add _ _).block ≠ _; rw [add_block]; exact hn316_2) | exact hn316_2) (.int .i64 ((rd_T31 t308 x108_4).f2))).trans hx316_0; (try have hy316_0 := fun (n_ : Nat) => (show (((((w62.drewN n_).setCell ⟨gb315, 0, none⟩ (.int .i64 ((rd_T31 t308 x108_4).f0))).setCell ⟨gb315, 1, none⟩ (.string ((rd_T31 t308 x108_4).f1))).setCell ⟨gb315, 2, none⟩ (.int .i64 ((rd_T31 t308 x108_4).f2)))).cell? _ = some _ from hx316_0)); clear hn316_0; clear hn316_1; clear hn316_2; replace p316 := eq_true p316; replace q316 := eq_true q316)); try go_wp2_with (first | ((with_reducible refine gate_dst (N := 20) rfl ?_); (try (refine gate_guard (by rfl) ?_; dsimp only)); refine box_event ?hg (N := 20) ?hd (cs := #[.int .i64 0, .string (⟨#[]⟩ : ByteArray), .int .i64 0]) (t := 31) ?hr ?_; (case hd => rfl); (case hg => rfl); (case hr => first | (go_simp; done) | (go_simp; rfl)); intro gb315 hg w62 hbox hb; have n0_ := Aside0.mk (Kd.R_below (by (with_reducible repeat (first | apply Kd.R_alloc | apply Kd.R_drewN | apply Kd.R_drew)); exact HO_10.out) hb); have n1_ := Aside0.mk (Kd.R_below (Kd.R_elderB (by (with_reducible repeat (first | apply Kd.R_alloc | apply Kd.R_drewN | apply Kd.R_drew)); exact HO_106.out) gb315 (Nat.le_of_eq hg.symm)) hb); have n2_ := Aside0.mk (below_step (by repeat (first | (with_reducible first | exact HB.out | apply below_alloc | apply pw_below_drewN | apply below_drew1) | exact HB.out)) hb); have n3_ := Aside0.mk (hbox); have n4_ := Aside0.mk ((by rw [hg]; exact (below_size (by repeat (first | (with_reducible first | exact HB.out | apply below_alloc | apply pw_below_drewN | apply below_drew1) | exact HB.out))) : w.heap.size ≤ gb315)); have n5_ := Aside0.mk ((by rw [hg]; exact (below_size (by repeat (first | (with_reducible first | exact HB.out | apply below_alloc | apply pw_below_drewN | apply below_drew1) | exact HB.out))) : w.heap.size ≤ gb315)); clear HO_10; clear HO_106; clear HB; have HO_10 := n0_; have HO_106 := n1_; have HB := n2_; have BK315 := n3_; have GW315 := n4_; have GE315 := n5_; clear n0_ n1_ n2_ n3_ n4_ n5_; clear hb hbox hg; have hcz63_0 : w62.cell? ⟨gb315, 0, none⟩ = some (.int .i64 0) := (blk_cell BK315.out 0).trans rfl; have hcz63_1 : w62.cell? ⟨gb315, 1, none⟩ = some (.string (⟨#[]⟩ : ByteArray)) := (blk_cell BK315.out 1).trans rfl; have hcz63_2 : w62.cell? ⟨gb315, 2, none⟩ = some (.int .i64 0) := (blk_cell BK315.out 2).trans rfl; have hfz63_0 := blk_frozen BK315.out 0; have hfz63_1 := blk_frozen BK315.out 1; have hfz63_2 := blk_frozen BK315.out 2; obtain ⟨Ao64, co64, eo64⟩ := Kd.R_slice HO_10.out; subst eo64; have p316 : 0 ≤ (x108_4 : Int) := of_decide_eq_true (by first | (with_reducible assumption) | assumption); have q316 : x108_4 < (x10_2.length : Int) := of_decide_eq_true (by first | (with_reducible assumption) | assumption); obtain ⟨ad316, e316, hx316_0⟩ := Kd.at_int (Kd.R_reads' HO_10.out).2.2 x108_4 p316 q316; cases e316; have hn316_0 : ad316.block ≠ gb315 := Kd.own_blk (Kd.R_ne HO_10.out BK315.out (by decide)); have hn316_1 : ad316.block ≠ gb315 := Kd.own_blk (Kd.R_ne HO_10.out BK315.out (by decide)); have hn316_2 : ad316.block ≠ gb315 := Kd.own_blk (Kd.R_ne HO_10.out BK315.out (by decide)); replace hx316_0 := (cell_far (p := ⟨gb315, 0, none⟩) (by first | (rw [add_block]; exact hn316_0) | (show (Addr.add _ _).block ≠ _; rw [add_block]; exact hn316_0) | exact hn316_0) (.int .i64 ((rd_T31 t308 x108_4).f0))).trans hx316_0; replace hx316_0 := (cell_far (p := ⟨gb315, 1, none⟩) (by first | (rw [add_block]; exact hn316_1) | (show (Addr.add _ _).block ≠ _; rw [add_block]; exact hn316_1) | exact hn316_1) (.string ((rd_T31 t308 x108_4).f1))).trans hx316_0; replace hx316_0 := (cell_far (p := ⟨gb315, 2, none⟩) (by first | (rw [add_block]; exact hn316_2) | (show (Addr.add _ _).block ≠ _; rw [add_block]; exact hn316_2) | exact hn316_2) (.int .i64 ((rd_T31 t308 x108_4).f2))).trans hx316_0; (try have hy316_0 := fun (n_ : Nat) => (show (((((w62.drewN n_).setCell ⟨gb315, 0, none⟩ (.int .i64 ((rd_T31 t308 x108_4).f0))).setCell ⟨gb315, 1, none⟩ (.string ((rd_T31 t308 x108_4).f1))).setCell ⟨gb315, 2, none⟩ (.int .i64 ((rd_T31 t308 x108_4).f2)))).cell? _ = some _ from hx316_0)); clear hn316_0; clear hn316_1; clear hn316_2; replace p316 := eq_true p316; replace q316 := eq_true q316)))
                                    go_ret
                                    exact ⟨by first | rfl | (simp [errW_none, errW_some] <;> rfl) | (simp [*, errW_none, errW_some] <;> rfl), by repeat (first | (with_reducible first | exact HB.out | apply below_alloc | apply pw_below_drewN | apply below_drew1 | refine below_set ?_ GE315.out) | exact HB.out)⟩
                                · rw [if_neg c57] at H
                                  exact absurd H (by simp)
                              · rw [if_neg c56] at H
                                exact absurd H (by simp)
                            · rw [if_neg c55] at H
                              exact absurd H (by simp)
                          · rw [if_neg c54] at H
                            have c54b0 : decide (x108_4 < (t308.length : Int)) = false := decide_eq_false c54
                            clear c54
                            obtain rfl := Option.some.inj H
                            go_wp2
                            repeat (go_quiet (fail); try go_wp2)
                            go_ret
                            exact ⟨by first | rfl | (simp [errW_none, errW_some] <;> rfl) | (simp [*, errW_none, errW_some] <;> rfl), by repeat (first | (with_reducible first | exact HB.out | apply below_alloc | apply pw_below_drewN | apply below_drew1) | exact HB.out)⟩
        · rw [if_neg c16] at H
          have c16b0 : (t289 == 0) = false := beq_eq_false_iff_ne.mpr c16
          have c16b1 : (t289 != 0) = true := bne_iff_ne.mpr c16
          obtain rfl := Option.some.inj H
          go_wp2_with (first | (go_at_call 17; (with_reducible refine (ancepsref05_Tokens.calls kj2 a0 t287 t288 t289 _ A15.out).mono ?_); rintro e w65 ⟨v290, rfl, ho0, hb⟩; have n0_ := Aside0.mk (Kd.R_lower ho0 (below_size (by repeat (first | (with_reducible first | exact HB.out | apply below_alloc | apply pw_below_drewN | apply below_drew1) | exact HB.out)))); have n1_ := Aside0.mk (below_step (by repeat (first | (with_reducible first | exact HB.out | apply below_alloc | apply pw_below_drewN | apply below_drew1) | exact HB.out)) hb); clear HB; have HO291 := n0_; have HB := n1_; clear n0_ n1_; (try clear hb); (try clear hb2); (try clear hk); (try clear hi); (try clear ho0)))
          repeat (go_quiet (first | (go_at_call 17; (with_reducible refine (ancepsref05_Tokens.calls kj2 a0 t287 t288 t289 _ A15.out).mono ?_); rintro e w65 ⟨v290, rfl, ho0, hb⟩; have n0_ := Aside0.mk (Kd.R_lower ho0 (below_size (by repeat (first | (with_reducible first | exact HB.out | apply below_alloc | apply pw_below_drewN | apply below_drew1) | exact HB.out)))); have n1_ := Aside0.mk (below_step (by repeat (first | (with_reducible first | exact HB.out | apply below_alloc | apply pw_below_drewN | apply below_drew1) | exact HB.out)) hb); clear HB; have HO291 := n0_; have HB := n1_; clear n0_ n1_; (try clear hb); (try clear hb2); (try clear hk); (try clear hi); (try clear ho0))); try go_wp2_with (first | (go_at_call 17; (with_reducible refine (ancepsref05_Tokens.calls kj2 a0 t287 t288 t289 _ A15.out).mono ?_); rintro e w65 ⟨v290, rfl, ho0, hb⟩; have n0_ := Aside0.mk (Kd.R_lower ho0 (below_size (by repeat (first | (with_reducible first | exact HB.out | apply below_alloc | apply pw_below_drewN | apply below_drew1) | exact HB.out)))); have n1_ := Aside0.mk (below_step (by repeat (first | (with_reducible first | exact HB.out | apply below_alloc | apply pw_below_drewN | apply below_drew1) | exact HB.out)) hb); clear HB; have HO291 := n0_; have HB := n1_; clear n0_ n1_; (try clear hb); (try clear hb2); (try clear hk); (try clear hi); (try clear ho0))))
          go_ret
          exact ⟨by first | rfl | (simp [errW_none, errW_some] <;> rfl) | (simp [*, errW_none, errW_some] <;> rfl), by repeat (first | (with_reducible first | exact HB.out | apply below_alloc | apply pw_below_drewN | apply below_drew1) | exact HB.out)⟩

/-- THE ONE PURE STATEMENT of ancepslaw05_TokenSpaced: yours. -/
def ancepslaw05_TokenSpaced.Pure : Prop := ∀ (a0 : ByteArray) (l1 : List Int), a0.size ≤ 140737488351232 → l1.length ≤ maxLen → l1.length * 1 ≤ 140737488351232 → (∀ x ∈ l1, (Lit.int .u8 x).wf = true) → ∃ k, ancepslaw05_TokenSpaced.f k a0 l1 = some true
theorem ancepslaw05_TokenSpaced.walk (P : ancepslaw05_TokenSpaced.Pure) (a0 : ByteArray) (a1 : Option Addr) (len1 cap1 : Nat) (z1 : List Int) (w : World) (w0 : a0.size ≤ 140737488351232) (w1 : (a1 = none ∧ len1 = 0 ∧ cap1 = 0 ∧ z1 = []) ∨ ∃ x, a1 = some x ∧ len1 ≤ cap1 ∧ cap1 ≤ maxLen ∧ z1.length = cap1 ∧ (∀ i, i < z1.length → w.cell? (x.add i) = some (.int .u8 (z1.getD i 0))) ∧ ∀ n ∈ z1, (Lit.int .u8 n).wf = true) (y1 : len1 * 1 ≤ 140737488351232) :
    Calls Try.prog 7 #[.string a0, .slice a1 len1 cap1] w fun e w' => e = .returned (.bool true) ∧ Below w.heap.size w w' := by
  obtain ⟨l1, rfl, hr1, hm1, hw1, hc1⟩ := ReadsInt.ofRowC w1
  obtain ⟨k, h⟩ := P a0 l1 w0 hm1 y1 hw1
  refine (ancepslaw05_TokenSpaced.calls k a0 _ _ l1 true w (Kd.C_of_reads (d := (0 : Int)) (h1 := fun _ => rfl) hr1) hc1 h).mono ?_
  rintro e w' ⟨rfl, hd⟩
  exact ⟨rfl, hd⟩

end Go.Proofs.Ytkkgacoecimlpaa.X
