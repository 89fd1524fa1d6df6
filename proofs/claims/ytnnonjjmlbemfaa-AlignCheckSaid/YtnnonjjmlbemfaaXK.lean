import Derived.Test.YtnnonjjmlbemfaaWMore
import Derived.Test.YtnnonjjmlbemfaaX8
import Derived.Test.YtnnonjjmlbemfaaX13
import Derived.Test.YtnnonjjmlbemfaaX19
import Derived.Test.YtnnonjjmlbemfaaX25
import Derived.Test.YtnnonjjmlbemfaaX29
import Derived.Test.YtnnonjjmlbemfaaX30
import Derived.Lib.Hide
import Derived.Deep.OwnRows
import Derived.WalkKit
import Derived.Laws.RangeString
import Derived.StillTailTactics
import Derived.IntWalk
namespace Go.Proofs.Ytnnonjjmlbemfaa.X
open Go.RowKit Go.Proofs.Ytnnonjjmlbemfaa Go.Proofs.YtnnonjjmlbemfaaW.PrintWords Go.Proofs.YtnnonjjmlbemfaaW.PrintLast Go.Proofs.YtnnonjjmlbemfaaW.PrintMore
set_option linter.unusedVariables false
set_option linter.unusedSimpArgs false
attribute [local go_sem] max2_int min2_int max_two min_two max_three min_three max_four min_four
/-! ### ancepslaw45_AlignCheck: function 5 -/
def ancepslaw45_AlignCheck.m (k : Nat) (p q : ByteArray) (l1 : List Int) (l2 : List (List Int)) : Option Bool :=
  (align_Check.f k p q l1 l2).bind fun i => (ancepsref45_Check.f k p q l1 l2).bind fun j => if i = j then ((ancepsref45_Cost.f k p q l1).bind fun c => (ancepsref45_Distance.f k p q).bind fun n => some (!i || c.1 == n.1)) else some false
def ancepslaw45_AlignCheck.f (k : Nat) (p q : ByteArray) (l1 : List Int) (l2 : List (List Int)) : Option Bool :=
  (ancepslaw45_awake.f k).bind fun t => if t = true then ((ancepslaw45_short.f p q).bind fun s => if s = true then (if l1.length ≤ 100 then ((ancepsref45_Few.f k l2).bind fun b => if b = true then ancepslaw45_AlignCheck.m k p q l1 l2 else some true) else some true) else some true) else none
theorem ancepslaw45_AlignCheck.mono : ∀ a0 a1 a2 a3 k, LeO (ancepslaw45_AlignCheck.f k a0 a1 a2 a3) (ancepslaw45_AlignCheck.f (k + 1) a0 a1 a2 a3) := by
  intro a0 a1 a2 a3 k
  unfold ancepslaw45_AlignCheck.f ancepslaw45_AlignCheck.m
  refine LeO.bind (ancepslaw45_awake.mono _) fun _ => LeO.ite (LeO.bind (LeO.refl _) fun _ => LeO.ite (LeO.ite (LeO.bind (ancepsref45_Few.mono _ _) fun _ => LeO.ite (LeO.bind (align_Check.mono _ _ _ _ _) fun _ => LeO.bind (ancepsref45_Check.mono _ _ _ _ _) fun _ => LeO.ite (LeO.bind (ancepsref45_Cost.mono _ _ _ _) fun _ => LeO.bind (ancepsref45_Distance.mono _ _ _) fun _ => LeO.refl _) (LeO.refl _)) (LeO.refl _)) (LeO.refl _)) (LeO.refl _)) (LeO.refl _)
set_option pp.deepTerms true in
set_option pp.maxSteps 1000000 in
set_option maxHeartbeats 4000000 in
set_option maxRecDepth 100000 in
theorem ancepslaw45_AlignCheck.calls (k : Nat) (p q : ByteArray) (A1 : Option Addr) (c1 : Nat) (l1 : List Int) (A2 : Option Addr) (c2 : Nat) (l2 : List (List Int)) (r : Bool) (w : World) (hr1 : Kd.C (Kd.int .i64) w A1 l1.length l1) (hc1 : l1.length ≤ c1) (hr2 : Kd.C (Kd.slice 3 (Kd.int .i64)) w A2 l2.length l2) (hc2 : l2.length ≤ c2) (h : ancepslaw45_AlignCheck.f k p q l1 l2 = some r) :
    Calls Try.prog 5 #[.agg #[.string p, .string q], .slice A1 l1.length c1, .slice A2 l2.length c2] w fun e w' => e = .returned (.bool r) ∧ Below w.heap.size w w' := by
  have HR1 := Lib.hid hr1
  have HR2 := Lib.hid hr2
  have HC1 := Lib.hid hc1
  have HC2 := Lib.hid hc2
  clear hr1 hr2 hc1 hc2
  unfold ancepslaw45_AlignCheck.f at h
  obtain ⟨t, ht, h1⟩ := Option.bind_eq_some_iff.1 h
  clear h
  cases t with
  | false => rw [if_neg (by decide)] at h1; cases h1
  | true =>
    rw [if_pos rfl] at h1
    obtain ⟨s, hs, h2⟩ := Option.bind_eq_some_iff.1 h1
    clear h1
    have HA := Lib.hid (fun W => ancepslaw45_awake.calls k true W ht)
    have HS := Lib.hid (fun W => ancepslaw45_short.calls p q s W hs)
    have H2 := Lib.hid h2
    clear ht hs h2
    go_enter Try.func5, Try.ntmps5
    go_wp2_with (fail)
    go_quiet (fail)
    have B0 : Below w.heap.size w ((w.alloc (Obj.cells #[Value.string p, Value.string q] 30)).drewN nq) := by
      have HB := Below.refl w.heap.size w
      repeat (first | exact HB | apply pw_below_drewN | apply below_alloc | apply below_drew1)
    have B1 := Lib.hid B0
    clear B0
    generalize (w.alloc (Obj.cells #[Value.string p, Value.string q] 30)).drewN nq = w0 at B1 ⊢
    go_wp2_with (fail)
    refine (HA.out _).mono ?_
    (first | rintro e w1 rfl hb | rintro e w1 ⟨rfl, hb⟩)
    have B_w1 := Lib.hid (B1.out.trans (hb.mono B1.out.size))
    clear hb
    go_wp2_with (fail)
    refine (HS.out _).mono ?_
    (first | rintro e w2 rfl hb | rintro e w2 ⟨rfl, hb⟩)
    have B_w2 := Lib.hid (B_w1.out.trans (hb.below.mono B_w1.out.size))
    clear hb
    cases s with
    | false =>
      have hr := H2.out
      rw [if_neg (by decide)] at hr
      obtain rfl := Option.some.inj hr
      clear hr
      go_wp2_with (fail)
      refine (HA.out _).mono ?_
      (first | rintro e w9 rfl hb | rintro e w9 ⟨rfl, hb⟩)
      have B_w9 := Lib.hid (B_w2.out.trans (hb.mono B_w2.out.size))
      clear hb
      go_wp2_with (fail)
      go_ret
      exact ⟨rfl, B_w9.out⟩
    | true =>
      have h3 := H2.out
      rw [if_pos rfl] at h3
      clear H2
      by_cases hl : l1.length ≤ 100
      · rw [if_pos hl] at h3
        obtain ⟨f, hf, h4⟩ := Option.bind_eq_some_iff.1 h3
        clear h3
        have HF := Lib.hid (fun (W : World) (hW : (Kd.slice 3 (Kd.int .i64)).C W A2 l2.length l2) => ancepsref45_Few.calls k A2 c2 l2 f W hW HC2.out hf)
        have H4 := Lib.hid h4
        have bl : decide ((100 : Int) < (l1.length : Int)) = false := decide_eq_false (by omega)
        have bl' : decide (100 < l1.length) = false := decide_eq_false (by omega)
        clear hf h4
        go_wp2_with (fail)
        refine (HF.out _ (Kd.C_below HR2.out B_w2.out)).mono ?_
        (first | rintro e w3 rfl hb | rintro e w3 ⟨rfl, hb⟩)
        have B_w3 := Lib.hid (B_w2.out.trans (hb.below.mono B_w2.out.size))
        clear hb
        cases f with
        | false =>
          have hr := H4.out
          rw [if_neg (by decide)] at hr
          obtain rfl := Option.some.inj hr
          clear hr
          go_wp2_with (fail)
          refine (HA.out _).mono ?_
          (first | rintro e w9 rfl hb | rintro e w9 ⟨rfl, hb⟩)
          have B_w9 := Lib.hid (B_w3.out.trans (hb.mono B_w3.out.size))
          clear hb
          go_wp2_with (fail)
          go_ret
          exact ⟨rfl, B_w9.out⟩
        | true =>
          have h5 := H4.out
          rw [if_pos rfl] at h5
          clear H4
          unfold ancepslaw45_AlignCheck.m at h5
          obtain ⟨i, hi, h6⟩ := Option.bind_eq_some_iff.1 h5
          obtain ⟨j, hj, h7⟩ := Option.bind_eq_some_iff.1 h6
          have HI := Lib.hid (fun (W : World) (hW1 : (Kd.int .i64).C W A1 l1.length l1) (hW : (Kd.slice 3 (Kd.int .i64)).C W A2 l2.length l2) => align_Check.calls k p q A1 c1 l1 A2 c2 l2 i W hW1 HC1.out hW HC2.out hi)
          have HJ := Lib.hid (fun (W : World) (hW1 : (Kd.int .i64).C W A1 l1.length l1) (hW : (Kd.slice 3 (Kd.int .i64)).C W A2 l2.length l2) => ancepsref45_Check.calls k p q A1 c1 l1 A2 c2 l2 j W hW1 HC1.out hW HC2.out hj)
          have H7 := Lib.hid h7
          clear h5 h6 h7 hi hj
          go_wp2_with (fail)
          refine (HI.out _ (Kd.C_below HR1.out B_w3.out) (Kd.C_below HR2.out B_w3.out)).mono ?_
          (first | rintro e w4 rfl hb | rintro e w4 ⟨rfl, hb⟩)
          have B_w4 := Lib.hid (B_w3.out.trans (hb.mono B_w3.out.size))
          clear hb
          go_wp2_with (fail)
          refine (HJ.out _ (Kd.C_below HR1.out B_w4.out) (Kd.C_below HR2.out B_w4.out)).mono ?_
          (first | rintro e w5 rfl hb | rintro e w5 ⟨rfl, hb⟩)
          have B_w5 := Lib.hid (B_w4.out.trans (hb.below.mono B_w4.out.size))
          clear hb
          by_cases hij : i = j
          · subst hij
            have h8 := H7.out
            rw [if_pos rfl] at h8
            obtain ⟨⟨c, e3⟩, hc, h9⟩ := Option.bind_eq_some_iff.1 h8
            obtain ⟨⟨n, e4⟩, hn, h10⟩ := Option.bind_eq_some_iff.1 h9
            have HC := Lib.hid (fun (W : World) (hW1 : (Kd.int .i64).C W A1 l1.length l1) => ancepsref45_Cost.calls k p q A1 c1 l1 c e3 W hW1 HC1.out hc)
            have HN := Lib.hid (fun (W : World) => ancepsref45_Distance.calls k p q n e4 W hn)
            have H10 := Lib.hid (show some (!i || c == n) = some r from h10)
            clear H7 h8 h9 h10 hc hn
            cases i with
            | false =>
              go_wp2_with (fail)
              refine (HC.out _ (Kd.C_below HR1.out B_w5.out)).mono ?_
              (first | rintro e w6 rfl hb | rintro e w6 ⟨rfl, hb⟩)
              have B_w6 := Lib.hid (B_w5.out.trans (hb.below.mono B_w5.out.size))
              clear hb
              go_wp2_with (fail)
              refine (HN.out _).mono ?_
              (first | rintro e w7 rfl hb | rintro e w7 ⟨rfl, hb⟩)
              have B_w7 := Lib.hid (B_w6.out.trans (hb.mono B_w6.out.size))
              clear hb
              have hr := H10.out
              obtain rfl := Option.some.inj hr
              clear hr H10
              go_wp2_with (fail)
              go_ret
              exact ⟨rfl, B_w7.out⟩
            | true =>
              go_wp2_with (fail)
              refine (HC.out _ (Kd.C_below HR1.out B_w5.out)).mono ?_
              (first | rintro e w6 rfl hb | rintro e w6 ⟨rfl, hb⟩)
              have B_w6 := Lib.hid (B_w5.out.trans (hb.below.mono B_w5.out.size))
              clear hb
              go_wp2_with (fail)
              refine (HN.out _).mono ?_
              (first | rintro e w7 rfl hb | rintro e w7 ⟨rfl, hb⟩)
              have B_w7 := Lib.hid (B_w6.out.trans (hb.mono B_w6.out.size))
              clear hb
              have hr := H10.out
              obtain rfl := Option.some.inj hr
              clear hr H10
              go_wp2_with (fail)
              go_ret
              exact ⟨rfl, B_w7.out⟩
          · have hr := H7.out
            rw [if_neg hij] at hr
            obtain rfl := Option.some.inj hr
            clear hr H7
            cases i <;> cases j
            · exact absurd rfl hij
            · clear hij
              go_wp2_with (fail)
              go_ret
              exact ⟨rfl, B_w5.out⟩
            · clear hij
              go_wp2_with (fail)
              go_ret
              exact ⟨rfl, B_w5.out⟩
            · exact absurd rfl hij
      · rw [if_neg hl] at h3
        obtain rfl := Option.some.inj h3
        clear h3
        have bl : decide ((100 : Int) < (l1.length : Int)) = true := decide_eq_true (by omega)
        have bl' : decide (100 < l1.length) = true := decide_eq_true (by omega)
        go_wp2_with (fail)
        refine (HA.out _).mono ?_
        (first | rintro e w9 rfl hb | rintro e w9 ⟨rfl, hb⟩)
        have B_w9 := Lib.hid (B_w2.out.trans (hb.mono B_w2.out.size))
        clear hb
        go_wp2_with (fail)
        go_ret
        exact ⟨rfl, B_w9.out⟩
def ancepslaw45_AlignCheck.Pure : Prop := ∀ (p q : ByteArray) (l1 : List Int) (l2 : List (List Int)), ∃ k, ancepslaw45_AlignCheck.f k p q l1 l2 = some true
theorem ancepslaw45_AlignCheck.walk (P : ancepslaw45_AlignCheck.Pure) (p q : ByteArray) (A1 : Option Addr) (c1 : Nat) (l1 : List Int) (A2 : Option Addr) (c2 : Nat) (l2 : List (List Int)) (w : World) (hr1 : Kd.C (Kd.int .i64) w A1 l1.length l1) (hc1 : l1.length ≤ c1) (hr2 : Kd.C (Kd.slice 3 (Kd.int .i64)) w A2 l2.length l2) (hc2 : l2.length ≤ c2) :
    Calls Try.prog 5 #[.agg #[.string p, .string q], .slice A1 l1.length c1, .slice A2 l2.length c2] w fun e w' => e = .returned (.bool true) ∧ Below w.heap.size w w' := by
  obtain ⟨k, h⟩ := P p q l1 l2
  exact ancepslaw45_AlignCheck.calls k p q A1 c1 l1 A2 c2 l2 true w hr1 hc1 hr2 hc2 h
end Go.Proofs.Ytnnonjjmlbemfaa.X
