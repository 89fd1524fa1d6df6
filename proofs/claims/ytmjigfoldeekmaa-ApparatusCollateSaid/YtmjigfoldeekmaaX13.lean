-- shortened
-- thinned
-- halved indents
-- printed by this session's xprint.py: out of the translation, by the kit's print with additions; Lean checks it
import Derived.Test.YtmjigfoldeekmaaWN
import Derived.Test.YtmjigfoldeekmaaWShare
import Derived.Test.YtmjigfoldeekmaaWRepsOne
import Derived.Test.YtmjigfoldeekmaaX0
import Derived.Test.YtmjigfoldeekmaaX5
import Derived.Test.YtmjigfoldeekmaaX8
import Derived.Test.YtmjigfoldeekmaaX12
import Derived.Test.YtmjigfoldeekmaaXA
namespace Go.Proofs.Ytmjigfoldeekmaa.X
open Go.RowKit Go.Proofs.YtmjigfoldeekmaaW.PrintWords Go.Proofs.YtmjigfoldeekmaaW.PrintLast Go.Proofs.YtmjigfoldeekmaaW.PrintMore
attribute [local go_sem] max2_int min2_int max_two min_two max_three min_three max_four min_four isSome_setCell binOp_gtr_str binOp_leq_str binOp_geq_str   -- for this text's walks alone
set_option linter.unusedVariables false
set_option linter.unusedSimpArgs false

theorem calls_len_ {P : Program} {f n m c : Nat} {A : Option Addr} {x : Value} {w : World} {Q : Ending → World → Prop} (e : n = m) (h : Calls P f #[.slice A n c, x] w Q) : Calls P f #[.slice A m c, x] w Q := e ▸ h
/-! ### ancepsref57_names: function 68 -/
def ancepsref57_names.l0 : Nat → List ByteArray → Int → Option (Int)
 | 0, _, _ => none
 | k + 1, x0, x3 => if x3 < (x0.length : Int) then (if 0 ≤ x3 then ((ancepsref05_IsName.f k (rdOf ByteArray.empty x0 x3)).bind fun t256 => (if t256 = true then (if x3 ≤ (x0.length : Int) then ((ancepsref57_find.f k (x0.take (x3 : Int).toNat) (rdOf ByteArray.empty x0 x3)).bind fun t259 => (if t259 ≥ 0 then (some 5) else (ancepsref57_names.l0 k x0 (wrap64 (x3 + 1))))) else (none)) else (some 2))) else (none)) else (some 0)
def ancepsref57_names.f (k : Nat) (l0 : List ByteArray) : Option (Int) := if (l0.length : Int) = 0 then (some 7) else (if (l0.length : Int) > 8 then (some 3) else (ancepsref57_names.l0 k l0 0))
theorem ancepsref57_names.mono_l : ∀ k, (∀ y0 y1, LeO (ancepsref57_names.l0 k y0 y1) (ancepsref57_names.l0 (k + 1) y0 y1))
 | 0 => fun _ _ r h => by simp [ancepsref57_names.l0] at h
 | k + 1 => by
  have ih0 := ancepsref57_names.mono_l k
  ·intro y0 y1
   unfold ancepsref57_names.l0
   repeat' first
   | (with_reducible exact ih0 _ _)
   | (with_reducible exact ancepsref05_IsName.mono _ _)
   | (with_reducible exact ancepsref57_find.mono _ _ _)
   | (with_reducible exact LeO.refl _)
   | (with_reducible exact LeO.none _)
   | (with_reducible refine LeO.ite ?_ ?_)
   | (with_reducible refine LeO.bind ?_ (fun _ => ?_))
   | exact ih0 _ _
   | exact ancepsref05_IsName.mono _ _
   | exact ancepsref57_find.mono _ _ _
   | exact LeO.none _
   | refine LeO.ite ?_ ?_
   | refine LeO.bind ?_ (fun _ => ?_)
theorem ancepsref57_names.mono : ∀ a0 k, LeO (ancepsref57_names.f k a0) (ancepsref57_names.f (k + 1) a0) := by
 intro a0 k
 have ih0 := ancepsref57_names.mono_l k
 unfold ancepsref57_names.f
 repeat' first
   | (with_reducible exact ih0 _ _)
   | (with_reducible exact ancepsref05_IsName.mono _ _)
   | (with_reducible exact ancepsref57_find.mono _ _ _)
   | (with_reducible exact LeO.refl _)
   | (with_reducible exact LeO.none _)
   | (with_reducible refine LeO.ite ?_ ?_)
   | (with_reducible refine LeO.bind ?_ (fun _ => ?_))
   | exact ih0 _ _
   | exact ancepsref05_IsName.mono _ _
   | exact ancepsref57_find.mono _ _ _
   | exact LeO.none _
   | refine LeO.ite ?_ ?_
   | refine LeO.bind ?_ (fun _ => ?_)
set_option maxHeartbeats 8000000 in
set_option maxRecDepth 100000 in
theorem ancepsref57_names.calls (k : Nat) (A0 : Option Addr) (c0 : Nat) (l0 : List ByteArray) (r : Int) (w : World) (hr0 : Kd.C Kd.string w A0 l0.length l0) (hc0 : l0.length ≤ c0) (h : ancepsref57_names.f k l0 = some r) :
  Calls Try.prog 68 #[.slice A0 l0.length c0] w fun e w' => e = .returned (.int .i64 r) ∧ Drawn0 w w' := by
 have HR0 := Aside0.mk hr0
 have HC0 := Aside0.mk hc0
 clear hr0 hc0
 have H : (if (l0.length : Int) = 0 then (some 7) else (if (l0.length : Int) > 8 then (some 3) else (ancepsref57_names.l0 k l0 0))) = some r := h
 clear h
 by_cases c2 : (l0.length : Int) = 0
 ·rw [if_pos c2] at H
  have c2b0 : ((l0.length : Int) == 0) = true := beq_iff_eq.mpr c2
  have c2b1 : ((l0.length : Int) != 0) = false := bne_eq_false_iff_eq.mpr c2
  clear c2
  obtain rfl := Option.some.inj H
  go_enter Try.func68, Try.ntmps68
  go_wp2
  repeat (go_quiet (fail); try go_wp2)
  go_ret
  exact ⟨by first | rfl | (simp; done) | (simp [*]; done), by repeat (first | exact Drawn0.refl _ | apply Drawn0.step)⟩
 ·rw [if_neg c2] at H
  have c2b0 : ((l0.length : Int) == 0) = false := beq_eq_false_iff_ne.mpr c2
  have c2b1 : ((l0.length : Int) != 0) = true := bne_iff_ne.mpr c2
  have c2b2 : ¬ (l0 = []) := fun h_ => c2 (by rw [h_]; rfl)
  by_cases c3 : (l0.length : Int) > 8
  ·rw [if_pos c3] at H
   have c3b0 : decide (8 < (l0.length : Int)) = true := decide_eq_true c3
   have c3b1 : decide (8 < l0.length) = true := decide_eq_true (by omega)
   clear c3
   obtain rfl := Option.some.inj H
   go_enter Try.func68, Try.ntmps68
   go_wp2
   repeat (go_quiet (fail); try go_wp2)
   go_ret
   exact ⟨by first | rfl | (simp; done) | (simp [*]; done), by repeat (first | exact Drawn0.refl _ | apply Drawn0.step)⟩
  ·rw [if_neg c3] at H
   have c3b0 : decide (8 < (l0.length : Int)) = false := decide_eq_false c3
   have c3b1 : decide (8 < l0.length) = false := decide_eq_false (by omega)
   clear c3
   have H' := Aside0.mk H
   clear H
   go_enter Try.func68, Try.ntmps68
   go_wp2
   repeat (go_quiet (fail); try go_wp2)
   go_loopg [3] k (fun kq v3 w' => ∃ (x3_1 : Int), v3 = .int .i64 x3_1 ∧ Aside0 (ancepsref57_names.l0 kq l0 x3_1 = some r) ∧ Aside0 (kq ≤ k) ∧ Drawn0 w w')
   case atStart => exact ⟨(0), (by first | rfl | (simp; done) | (simp [*]; done)), H', ⟨Nat.le_refl _⟩, by repeat (first | exact Drawn0.refl _ | apply Drawn0.step)⟩
   case round =>
    clear H'
    try clear c2
    try clear c2b0
    try clear c2b1
    try clear c2b2
    try clear p2
    try clear c3
    try clear c3b0
    try clear c3b1
    obtain ⟨x3_1, rfl, HA, HK1, ⟨m1, rfl⟩⟩ := hrel
    cases gk with
    | zero => exact absurd HA.out (by simp [ancepsref57_names.l0])
    | succ k1 =>
     have H := HA.out
     clear HA
     simp only [ancepsref57_names.l0] at H
     by_cases c4 : x3_1 < (l0.length : Int)
     ·rw [if_pos c4] at H
      have c4b0 : decide (x3_1 < (l0.length : Int)) = true := decide_eq_true c4
      clear c4
      by_cases c5 : 0 ≤ x3_1
      ·rw [if_pos c5] at H
       have c5b0 : decide (0 ≤ x3_1) = true := decide_eq_true c5
       clear c5
       replace H := Option.bind_eq_some_iff.mp H
       obtain ⟨t256, A60, H⟩ := H
       try dsimp only at H
       have A6 := Aside0.mk A60
       clear A60
       by_cases c7 : t256 = true
       ·subst c7
        have H1 : (if x3_1 ≤ (l0.length : Int) then ((ancepsref57_find.f k1 (l0.take (x3_1 : Int).toNat) (rdOf ByteArray.empty l0 x3_1)).bind fun t259 => (if t259 ≥ 0 then (some 5) else (ancepsref57_names.l0 k1 l0 (wrap64 (x3_1 + 1))))) else (none)) = some r := by rw [if_pos rfl] at H; exact H
        clear H
        have H := H1
        clear H1
        have c8b0 := eq_true (of_decide_eq_true (by first | (with_reducible assumption) | assumption) : 0 ≤ x3_1)
        by_cases c9 : x3_1 ≤ (l0.length : Int)
        ·rw [if_pos c9] at H
         have c9b0 := eq_true c9
         have c9b1 : decide (x3_1 ≤ (l0.length : Int)) = true := decide_eq_true c9
         clear c9
         replace H := Option.bind_eq_some_iff.mp H
         obtain ⟨t259, A100, H⟩ := H
         try dsimp only at H
         have A10 := Aside0.mk A100
         clear A100
         by_cases c11 : t259 ≥ 0
         ·rw [if_pos c11] at H
          have c11b0 : decide (0 ≤ t259) = true := decide_eq_true c11
          clear c11
          obtain rfl := Option.some.inj H
          have p255 : 0 ≤ (x3_1 : Int) := of_decide_eq_true (by first | (with_reducible assumption) | assumption)
          have q255 : x3_1 < (l0.length : Int) := of_decide_eq_true (by first | (with_reducible assumption) | assumption)
          obtain ⟨ad255, e255, hx255_0⟩ := Kd.at_string HR0.out x3_1 p255 q255
          cases e255
          replace p255 := eq_true p255
          replace q255 := eq_true q255
          go_wp2_with (first | (go_at_call 73; (with_reducible refine (ancepsref05_IsName.calls k1 (rdOf ByteArray.empty l0 x3_1) true _ A6.out).mono ?_); rintro e w' ⟨rfl, ⟨nd, rfl⟩⟩; (try first | exact ⟨rfl, _, World.drewN_drewN _ _ _⟩ | exact ⟨rfl, _, Eq.trans (World.drewN_drewN _ _ _) (congrArg (World.drewN _) (Nat.add_assoc _ _ _))⟩); obtain ⟨i012, hi012, _, hsz12, _⟩ := info_parts info9; obtain ⟨hcut12, hA12, hC12⟩ := print_take_of (P := Try.prog) Value.string (⟨#[]⟩ : ByteArray) 34 9 .i64 Try.underlying34 hi012 hsz12 (some ad255) c0 l0 x3_1 (of_decide_eq_true (by first | (with_reducible assumption) | assumption)) (of_decide_eq_true (by first | (with_reducible assumption) | assumption)) HC0.out; have HR257 := Aside0.mk (Kd.C_of_reads (h1 := fun _ => rfl) (hA12 _ (Kd.reads_of_C HR0.out))); have HC257 := Aside0.mk hC12; clear hA12 hC12 hi012 hsz12; have p258 : 0 ≤ (x3_1 : Int) := of_decide_eq_true (by first | (with_reducible assumption) | assumption); have q258 : x3_1 < (l0.length : Int) := of_decide_eq_true (by first | (with_reducible assumption) | assumption); obtain ⟨ad258, e258, hx258_0⟩ := Kd.at_string HR0.out x3_1 p258 q258; obtain rfl : ad255 = ad258 := (by injection e258); replace p258 := eq_true p258; replace q258 := eq_true q258) | (go_at_call 59; (first | (with_reducible refine (ancepsref57_find.calls k1 _ _ (l0.take (x3_1 : Int).toNat) (rdOf ByteArray.empty l0 x3_1) t259 _ ?side1 ?side2 A10.out).mono ?_) | (refine (calls_len_ (by rw [List.length_take]; have h_ := of_decide_eq_true (by first | (with_reducible assumption) | assumption : decide (x3_1 ≤ (l0.length : Int)) = true); omega) (ancepsref57_find.calls k1 _ _ (l0.take (x3_1 : Int).toNat) (rdOf ByteArray.empty l0 x3_1) t259 _ ?side1 ?side2 A10.out)).mono ?_)); (case side1 => repeat (first | exact HR257.out | (with_reducible refine Kd.C_alloc ?_ _) | (with_reducible refine Kd.C_drewN ?_ _) | (with_reducible refine Kd.C_drew ?_))); (case side2 => exact HC257.out); rintro e w' ⟨rfl, ⟨nd, rfl⟩⟩; (try first | exact ⟨rfl, _, World.drewN_drewN _ _ _⟩ | exact ⟨rfl, _, Eq.trans (World.drewN_drewN _ _ _) (congrArg (World.drewN _) (Nat.add_assoc _ _ _))⟩)))
          repeat (go_quiet (first | (go_at_call 73; (with_reducible refine (ancepsref05_IsName.calls k1 (rdOf ByteArray.empty l0 x3_1) true _ A6.out).mono ?_); (try clear A6); rintro e w' ⟨rfl, ⟨nd, rfl⟩⟩; (try first | exact ⟨rfl, _, World.drewN_drewN _ _ _⟩ | exact ⟨rfl, _, Eq.trans (World.drewN_drewN _ _ _) (congrArg (World.drewN _) (Nat.add_assoc _ _ _))⟩); obtain ⟨i012, hi012, _, hsz12, _⟩ := info_parts info9; obtain ⟨hcut12, hA12, hC12⟩ := print_take_of (P := Try.prog) Value.string (⟨#[]⟩ : ByteArray) 34 9 .i64 Try.underlying34 hi012 hsz12 (some ad255) c0 l0 x3_1 (of_decide_eq_true (by first | (with_reducible assumption) | assumption)) (of_decide_eq_true (by first | (with_reducible assumption) | assumption)) HC0.out; have HR257 := Aside0.mk (Kd.C_of_reads (h1 := fun _ => rfl) (hA12 _ (Kd.reads_of_C HR0.out))); have HC257 := Aside0.mk hC12; clear hA12 hC12 hi012 hsz12; have p258 : 0 ≤ (x3_1 : Int) := of_decide_eq_true (by first | (with_reducible assumption) | assumption); have q258 : x3_1 < (l0.length : Int) := of_decide_eq_true (by first | (with_reducible assumption) | assumption); obtain ⟨ad258, e258, hx258_0⟩ := Kd.at_string HR0.out x3_1 p258 q258; obtain rfl : ad255 = ad258 := (by injection e258); replace p258 := eq_true p258; replace q258 := eq_true q258) | (go_at_call 59; (first | (with_reducible refine (ancepsref57_find.calls k1 _ _ (l0.take (x3_1 : Int).toNat) (rdOf ByteArray.empty l0 x3_1) t259 _ ?side1 ?side2 A10.out).mono ?_) | (refine (calls_len_ (by rw [List.length_take]; have h_ := of_decide_eq_true (by first | (with_reducible assumption) | assumption : decide (x3_1 ≤ (l0.length : Int)) = true); omega) (ancepsref57_find.calls k1 _ _ (l0.take (x3_1 : Int).toNat) (rdOf ByteArray.empty l0 x3_1) t259 _ ?side1 ?side2 A10.out)).mono ?_)); (case side1 => repeat (first | exact HR257.out | (with_reducible refine Kd.C_alloc ?_ _) | (with_reducible refine Kd.C_drewN ?_ _) | (with_reducible refine Kd.C_drew ?_))); (case side2 => exact HC257.out); (try clear A10); rintro e w' ⟨rfl, ⟨nd, rfl⟩⟩; (try first | exact ⟨rfl, _, World.drewN_drewN _ _ _⟩ | exact ⟨rfl, _, Eq.trans (World.drewN_drewN _ _ _) (congrArg (World.drewN _) (Nat.add_assoc _ _ _))⟩))); try go_wp2_with (first | (go_at_call 73; (with_reducible refine (ancepsref05_IsName.calls k1 (rdOf ByteArray.empty l0 x3_1) true _ A6.out).mono ?_); (try clear A6); rintro e w' ⟨rfl, ⟨nd, rfl⟩⟩; (try first | exact ⟨rfl, _, World.drewN_drewN _ _ _⟩ | exact ⟨rfl, _, Eq.trans (World.drewN_drewN _ _ _) (congrArg (World.drewN _) (Nat.add_assoc _ _ _))⟩); obtain ⟨i012, hi012, _, hsz12, _⟩ := info_parts info9; obtain ⟨hcut12, hA12, hC12⟩ := print_take_of (P := Try.prog) Value.string (⟨#[]⟩ : ByteArray) 34 9 .i64 Try.underlying34 hi012 hsz12 (some ad255) c0 l0 x3_1 (of_decide_eq_true (by first | (with_reducible assumption) | assumption)) (of_decide_eq_true (by first | (with_reducible assumption) | assumption)) HC0.out; have HR257 := Aside0.mk (Kd.C_of_reads (h1 := fun _ => rfl) (hA12 _ (Kd.reads_of_C HR0.out))); have HC257 := Aside0.mk hC12; clear hA12 hC12 hi012 hsz12; have p258 : 0 ≤ (x3_1 : Int) := of_decide_eq_true (by first | (with_reducible assumption) | assumption); have q258 : x3_1 < (l0.length : Int) := of_decide_eq_true (by first | (with_reducible assumption) | assumption); obtain ⟨ad258, e258, hx258_0⟩ := Kd.at_string HR0.out x3_1 p258 q258; obtain rfl : ad255 = ad258 := (by injection e258); replace p258 := eq_true p258; replace q258 := eq_true q258) | (go_at_call 59; (first | (with_reducible refine (ancepsref57_find.calls k1 _ _ (l0.take (x3_1 : Int).toNat) (rdOf ByteArray.empty l0 x3_1) t259 _ ?side1 ?side2 A10.out).mono ?_) | (refine (calls_len_ (by rw [List.length_take]; have h_ := of_decide_eq_true (by first | (with_reducible assumption) | assumption : decide (x3_1 ≤ (l0.length : Int)) = true); omega) (ancepsref57_find.calls k1 _ _ (l0.take (x3_1 : Int).toNat) (rdOf ByteArray.empty l0 x3_1) t259 _ ?side1 ?side2 A10.out)).mono ?_)); (case side1 => repeat (first | exact HR257.out | (with_reducible refine Kd.C_alloc ?_ _) | (with_reducible refine Kd.C_drewN ?_ _) | (with_reducible refine Kd.C_drew ?_))); (case side2 => exact HC257.out); (try clear A10); rintro e w' ⟨rfl, ⟨nd, rfl⟩⟩; (try first | exact ⟨rfl, _, World.drewN_drewN _ _ _⟩ | exact ⟨rfl, _, Eq.trans (World.drewN_drewN _ _ _) (congrArg (World.drewN _) (Nat.add_assoc _ _ _))⟩))))
          go_ret
          exact ⟨by first | rfl | (simp; done) | (simp [*]; done), by repeat (first | exact Drawn0.refl _ | apply Drawn0.step)⟩
         ·rw [if_neg c11] at H
          have c11b0 : decide (0 ≤ t259) = false := decide_eq_false c11
          clear c11
          have H' := Aside0.mk H
          clear H
          have p255 : 0 ≤ (x3_1 : Int) := of_decide_eq_true (by first | (with_reducible assumption) | assumption)
          have q255 : x3_1 < (l0.length : Int) := of_decide_eq_true (by first | (with_reducible assumption) | assumption)
          obtain ⟨ad255, e255, hx255_0⟩ := Kd.at_string HR0.out x3_1 p255 q255
          cases e255
          replace p255 := eq_true p255
          replace q255 := eq_true q255
          go_wp2_with (first | (go_at_call 73; (with_reducible refine (ancepsref05_IsName.calls k1 (rdOf ByteArray.empty l0 x3_1) true _ A6.out).mono ?_); rintro e w' ⟨rfl, ⟨nd, rfl⟩⟩; (try first | exact ⟨rfl, _, World.drewN_drewN _ _ _⟩ | exact ⟨rfl, _, Eq.trans (World.drewN_drewN _ _ _) (congrArg (World.drewN _) (Nat.add_assoc _ _ _))⟩); obtain ⟨i013, hi013, _, hsz13, _⟩ := info_parts info9; obtain ⟨hcut13, hA13, hC13⟩ := print_take_of (P := Try.prog) Value.string (⟨#[]⟩ : ByteArray) 34 9 .i64 Try.underlying34 hi013 hsz13 (some ad255) c0 l0 x3_1 (of_decide_eq_true (by first | (with_reducible assumption) | assumption)) (of_decide_eq_true (by first | (with_reducible assumption) | assumption)) HC0.out; have HR257 := Aside0.mk (Kd.C_of_reads (h1 := fun _ => rfl) (hA13 _ (Kd.reads_of_C HR0.out))); have HC257 := Aside0.mk hC13; clear hA13 hC13 hi013 hsz13; have p258 : 0 ≤ (x3_1 : Int) := of_decide_eq_true (by first | (with_reducible assumption) | assumption); have q258 : x3_1 < (l0.length : Int) := of_decide_eq_true (by first | (with_reducible assumption) | assumption); obtain ⟨ad258, e258, hx258_0⟩ := Kd.at_string HR0.out x3_1 p258 q258; obtain rfl : ad255 = ad258 := (by injection e258); replace p258 := eq_true p258; replace q258 := eq_true q258) | (go_at_call 59; (first | (with_reducible refine (ancepsref57_find.calls k1 _ _ (l0.take (x3_1 : Int).toNat) (rdOf ByteArray.empty l0 x3_1) t259 _ ?side1 ?side2 A10.out).mono ?_) | (refine (calls_len_ (by rw [List.length_take]; have h_ := of_decide_eq_true (by first | (with_reducible assumption) | assumption : decide (x3_1 ≤ (l0.length : Int)) = true); omega) (ancepsref57_find.calls k1 _ _ (l0.take (x3_1 : Int).toNat) (rdOf ByteArray.empty l0 x3_1) t259 _ ?side1 ?side2 A10.out)).mono ?_)); (case side1 => repeat (first | exact HR257.out | (with_reducible refine Kd.C_alloc ?_ _) | (with_reducible refine Kd.C_drewN ?_ _) | (with_reducible refine Kd.C_drew ?_))); (case side2 => exact HC257.out); rintro e w' ⟨rfl, ⟨nd, rfl⟩⟩; (try first | exact ⟨rfl, _, World.drewN_drewN _ _ _⟩ | exact ⟨rfl, _, Eq.trans (World.drewN_drewN _ _ _) (congrArg (World.drewN _) (Nat.add_assoc _ _ _))⟩)))
          repeat (go_quiet (first | (go_at_call 73; (with_reducible refine (ancepsref05_IsName.calls k1 (rdOf ByteArray.empty l0 x3_1) true _ A6.out).mono ?_); (try clear A6); rintro e w' ⟨rfl, ⟨nd, rfl⟩⟩; (try first | exact ⟨rfl, _, World.drewN_drewN _ _ _⟩ | exact ⟨rfl, _, Eq.trans (World.drewN_drewN _ _ _) (congrArg (World.drewN _) (Nat.add_assoc _ _ _))⟩); obtain ⟨i013, hi013, _, hsz13, _⟩ := info_parts info9; obtain ⟨hcut13, hA13, hC13⟩ := print_take_of (P := Try.prog) Value.string (⟨#[]⟩ : ByteArray) 34 9 .i64 Try.underlying34 hi013 hsz13 (some ad255) c0 l0 x3_1 (of_decide_eq_true (by first | (with_reducible assumption) | assumption)) (of_decide_eq_true (by first | (with_reducible assumption) | assumption)) HC0.out; have HR257 := Aside0.mk (Kd.C_of_reads (h1 := fun _ => rfl) (hA13 _ (Kd.reads_of_C HR0.out))); have HC257 := Aside0.mk hC13; clear hA13 hC13 hi013 hsz13; have p258 : 0 ≤ (x3_1 : Int) := of_decide_eq_true (by first | (with_reducible assumption) | assumption); have q258 : x3_1 < (l0.length : Int) := of_decide_eq_true (by first | (with_reducible assumption) | assumption); obtain ⟨ad258, e258, hx258_0⟩ := Kd.at_string HR0.out x3_1 p258 q258; obtain rfl : ad255 = ad258 := (by injection e258); replace p258 := eq_true p258; replace q258 := eq_true q258) | (go_at_call 59; (first | (with_reducible refine (ancepsref57_find.calls k1 _ _ (l0.take (x3_1 : Int).toNat) (rdOf ByteArray.empty l0 x3_1) t259 _ ?side1 ?side2 A10.out).mono ?_) | (refine (calls_len_ (by rw [List.length_take]; have h_ := of_decide_eq_true (by first | (with_reducible assumption) | assumption : decide (x3_1 ≤ (l0.length : Int)) = true); omega) (ancepsref57_find.calls k1 _ _ (l0.take (x3_1 : Int).toNat) (rdOf ByteArray.empty l0 x3_1) t259 _ ?side1 ?side2 A10.out)).mono ?_)); (case side1 => repeat (first | exact HR257.out | (with_reducible refine Kd.C_alloc ?_ _) | (with_reducible refine Kd.C_drewN ?_ _) | (with_reducible refine Kd.C_drew ?_))); (case side2 => exact HC257.out); (try clear A10); rintro e w' ⟨rfl, ⟨nd, rfl⟩⟩; (try first | exact ⟨rfl, _, World.drewN_drewN _ _ _⟩ | exact ⟨rfl, _, Eq.trans (World.drewN_drewN _ _ _) (congrArg (World.drewN _) (Nat.add_assoc _ _ _))⟩))); try go_wp2_with (first | (go_at_call 73; (with_reducible refine (ancepsref05_IsName.calls k1 (rdOf ByteArray.empty l0 x3_1) true _ A6.out).mono ?_); (try clear A6); rintro e w' ⟨rfl, ⟨nd, rfl⟩⟩; (try first | exact ⟨rfl, _, World.drewN_drewN _ _ _⟩ | exact ⟨rfl, _, Eq.trans (World.drewN_drewN _ _ _) (congrArg (World.drewN _) (Nat.add_assoc _ _ _))⟩); obtain ⟨i013, hi013, _, hsz13, _⟩ := info_parts info9; obtain ⟨hcut13, hA13, hC13⟩ := print_take_of (P := Try.prog) Value.string (⟨#[]⟩ : ByteArray) 34 9 .i64 Try.underlying34 hi013 hsz13 (some ad255) c0 l0 x3_1 (of_decide_eq_true (by first | (with_reducible assumption) | assumption)) (of_decide_eq_true (by first | (with_reducible assumption) | assumption)) HC0.out; have HR257 := Aside0.mk (Kd.C_of_reads (h1 := fun _ => rfl) (hA13 _ (Kd.reads_of_C HR0.out))); have HC257 := Aside0.mk hC13; clear hA13 hC13 hi013 hsz13; have p258 : 0 ≤ (x3_1 : Int) := of_decide_eq_true (by first | (with_reducible assumption) | assumption); have q258 : x3_1 < (l0.length : Int) := of_decide_eq_true (by first | (with_reducible assumption) | assumption); obtain ⟨ad258, e258, hx258_0⟩ := Kd.at_string HR0.out x3_1 p258 q258; obtain rfl : ad255 = ad258 := (by injection e258); replace p258 := eq_true p258; replace q258 := eq_true q258) | (go_at_call 59; (first | (with_reducible refine (ancepsref57_find.calls k1 _ _ (l0.take (x3_1 : Int).toNat) (rdOf ByteArray.empty l0 x3_1) t259 _ ?side1 ?side2 A10.out).mono ?_) | (refine (calls_len_ (by rw [List.length_take]; have h_ := of_decide_eq_true (by first | (with_reducible assumption) | assumption : decide (x3_1 ≤ (l0.length : Int)) = true); omega) (ancepsref57_find.calls k1 _ _ (l0.take (x3_1 : Int).toNat) (rdOf ByteArray.empty l0 x3_1) t259 _ ?side1 ?side2 A10.out)).mono ?_)); (case side1 => repeat (first | exact HR257.out | (with_reducible refine Kd.C_alloc ?_ _) | (with_reducible refine Kd.C_drewN ?_ _) | (with_reducible refine Kd.C_drew ?_))); (case side2 => exact HC257.out); (try clear A10); rintro e w' ⟨rfl, ⟨nd, rfl⟩⟩; (try first | exact ⟨rfl, _, World.drewN_drewN _ _ _⟩ | exact ⟨rfl, _, Eq.trans (World.drewN_drewN _ _ _) (congrArg (World.drewN _) (Nat.add_assoc _ _ _))⟩))))
          go_roundg k1
          case measure => have := HK1.out; omega
          case rel => exact ⟨(wrap64 (x3_1 + 1)), (by first | rfl | (simp; done) | (simp [*]; done)), H', ⟨by have := HK1.out; omega⟩, by repeat (first | exact Drawn0.refl _ | apply Drawn0.step)⟩
        ·rw [if_neg c9] at H
         exact absurd H (by simp)
       ·replace c7 := Bool.eq_false_iff.mpr c7
        subst c7
        have H1 : (some 2) = some r := by rw [if_neg (show ¬ (false = true) by decide)] at H; exact H
        clear H
        have H := H1
        clear H1
        obtain rfl := Option.some.inj H
        have p255 : 0 ≤ (x3_1 : Int) := of_decide_eq_true (by first | (with_reducible assumption) | assumption)
        have q255 : x3_1 < (l0.length : Int) := of_decide_eq_true (by first | (with_reducible assumption) | assumption)
        obtain ⟨ad255, e255, hx255_0⟩ := Kd.at_string HR0.out x3_1 p255 q255
        cases e255
        replace p255 := eq_true p255
        replace q255 := eq_true q255
        go_wp2_with (first | (go_at_call 73; (with_reducible refine (ancepsref05_IsName.calls k1 (rdOf ByteArray.empty l0 x3_1) false _ A6.out).mono ?_); rintro e w' ⟨rfl, ⟨nd, rfl⟩⟩; (try first | exact ⟨rfl, _, World.drewN_drewN _ _ _⟩ | exact ⟨rfl, _, Eq.trans (World.drewN_drewN _ _ _) (congrArg (World.drewN _) (Nat.add_assoc _ _ _))⟩)))
        repeat (go_quiet (first | (go_at_call 73; (with_reducible refine (ancepsref05_IsName.calls k1 (rdOf ByteArray.empty l0 x3_1) false _ A6.out).mono ?_); (try clear A6); rintro e w' ⟨rfl, ⟨nd, rfl⟩⟩; (try first | exact ⟨rfl, _, World.drewN_drewN _ _ _⟩ | exact ⟨rfl, _, Eq.trans (World.drewN_drewN _ _ _) (congrArg (World.drewN _) (Nat.add_assoc _ _ _))⟩))); try go_wp2_with (first | (go_at_call 73; (with_reducible refine (ancepsref05_IsName.calls k1 (rdOf ByteArray.empty l0 x3_1) false _ A6.out).mono ?_); (try clear A6); rintro e w' ⟨rfl, ⟨nd, rfl⟩⟩; (try first | exact ⟨rfl, _, World.drewN_drewN _ _ _⟩ | exact ⟨rfl, _, Eq.trans (World.drewN_drewN _ _ _) (congrArg (World.drewN _) (Nat.add_assoc _ _ _))⟩))))
        go_ret
        exact ⟨by first | rfl | (simp; done) | (simp [*]; done), by repeat (first | exact Drawn0.refl _ | apply Drawn0.step)⟩
      ·rw [if_neg c5] at H
       exact absurd H (by simp)
     ·rw [if_neg c4] at H
      have c4b0 : decide (x3_1 < (l0.length : Int)) = false := decide_eq_false c4
      clear c4
      obtain rfl := Option.some.inj H
      go_wp2
      repeat (go_quiet (fail); try go_wp2)
      go_ret
      exact ⟨by first | rfl | (simp; done) | (simp [*]; done), by repeat (first | exact Drawn0.refl _ | apply Drawn0.step)⟩

/-! ### ancepsref01_Valid: function 39 -/
def ancepsref01_Valid.l0 : Nat → ByteArray → Int → Option (Int)
 | 0, _, _ => none
 | k + 1, x0, x3 => if x3 < (x0.size : Int) then (if 0 ≤ x3 then (if (bt x0 x3) < 32 then (some 2) else (if (bt x0 x3) > 126 then (some 2) else (ancepsref01_Valid.l0 k x0 (wrap64 (x3 + 1))))) else (none)) else (some 0)
def ancepsref01_Valid.f (k : Nat) (a0 : ByteArray) : Option (Int) := if (a0.size : Int) > 120 then (some 3) else (ancepsref01_Valid.l0 k a0 0)
theorem ancepsref01_Valid.mono_l : ∀ k, (∀ y0 y1, LeO (ancepsref01_Valid.l0 k y0 y1) (ancepsref01_Valid.l0 (k + 1) y0 y1))
 | 0 => fun _ _ r h => by simp [ancepsref01_Valid.l0] at h
 | k + 1 => by
  have ih0 := ancepsref01_Valid.mono_l k
  ·intro y0 y1
   unfold ancepsref01_Valid.l0
   repeat' first
   | (with_reducible exact ih0 _ _)
   | (with_reducible exact LeO.refl _)
   | (with_reducible exact LeO.none _)
   | (with_reducible refine LeO.ite ?_ ?_)
   | (with_reducible refine LeO.bind ?_ (fun _ => ?_))
   | exact ih0 _ _
   | exact LeO.none _
   | refine LeO.ite ?_ ?_
   | refine LeO.bind ?_ (fun _ => ?_)
theorem ancepsref01_Valid.mono : ∀ a0 k, LeO (ancepsref01_Valid.f k a0) (ancepsref01_Valid.f (k + 1) a0) := by
 intro a0 k
 have ih0 := ancepsref01_Valid.mono_l k
 unfold ancepsref01_Valid.f
 repeat' first
   | (with_reducible exact ih0 _ _)
   | (with_reducible exact LeO.refl _)
   | (with_reducible exact LeO.none _)
   | (with_reducible refine LeO.ite ?_ ?_)
   | (with_reducible refine LeO.bind ?_ (fun _ => ?_))
   | exact ih0 _ _
   | exact LeO.none _
   | refine LeO.ite ?_ ?_
   | refine LeO.bind ?_ (fun _ => ?_)
set_option maxHeartbeats 8000000 in
set_option maxRecDepth 100000 in
theorem ancepsref01_Valid.calls (k : Nat) (a0 : ByteArray) (r : Int) (w : World) (h : ancepsref01_Valid.f k a0 = some r) :
  Calls Try.prog 39 #[.string a0] w fun e w' => e = .returned (.int .i64 r) ∧ Drawn0 w w' := by
 have H : (if (a0.size : Int) > 120 then (some 3) else (ancepsref01_Valid.l0 k a0 0)) = some r := h
 clear h
 by_cases c2 : (a0.size : Int) > 120
 ·rw [if_pos c2] at H
  have c2b0 : decide (120 < (a0.size : Int)) = true := decide_eq_true c2
  have c2b1 : decide (120 < a0.size) = true := decide_eq_true (by omega)
  clear c2
  obtain rfl := Option.some.inj H
  go_enter Try.func39, Try.ntmps39
  go_wp2
  go_ret
  exact ⟨by first | rfl | (simp; done) | (simp [*]; done), by repeat (first | exact Drawn0.refl _ | apply Drawn0.step)⟩
 ·rw [if_neg c2] at H
  have c2b0 : decide (120 < (a0.size : Int)) = false := decide_eq_false c2
  have c2b1 : decide (120 < a0.size) = false := decide_eq_false (by omega)
  clear c2
  have H' := Aside0.mk H
  clear H
  go_enter Try.func39, Try.ntmps39
  go_wp2
  go_loopg [3] k (fun kq v3 w' => ∃ (x3_1 : Int), v3 = .int .i64 x3_1 ∧ Aside0 (ancepsref01_Valid.l0 kq a0 x3_1 = some r) ∧ Aside0 (kq ≤ k) ∧ Drawn0 w w')
  case atStart => exact ⟨(0), (by first | rfl | (simp; done) | (simp [*]; done)), H', ⟨Nat.le_refl _⟩, by repeat (first | exact Drawn0.refl _ | apply Drawn0.step)⟩
  case round =>
   clear H'
   try clear c2
   try clear c2b0
   try clear c2b1
   try clear p2
   obtain ⟨x3_1, rfl, HA, HK1, ⟨m1, rfl⟩⟩ := hrel
   cases gk with
   | zero => exact absurd HA.out (by simp [ancepsref01_Valid.l0])
   | succ k1 =>
    have H := HA.out
    clear HA
    simp only [ancepsref01_Valid.l0] at H
    by_cases c3 : x3_1 < (a0.size : Int)
    ·rw [if_pos c3] at H
     have c3b0 : decide (x3_1 < (a0.size : Int)) = true := decide_eq_true c3
     clear c3
     by_cases c4 : 0 ≤ x3_1
     ·rw [if_pos c4] at H
      have c4b0 : decide (0 ≤ x3_1) = true := decide_eq_true c4
      clear c4
      by_cases c6 : (bt a0 x3_1) < 32
      ·rw [if_pos c6] at H
       have c6b0 : decide ((bt a0 x3_1) < 32) = true := decide_eq_true c6
       clear c6
       obtain rfl := Option.some.inj H
       have p5 : 0 ≤ (x3_1 : Int) := of_decide_eq_true (by first | (with_reducible assumption) | assumption)
       have q5 : x3_1 < (a0.size : Int) := of_decide_eq_true (by first | (with_reducible assumption) | assumption)
       have hx5 := bt_at a0 x3_1
       replace p5 := eq_true p5
       replace q5 := eq_true q5
       go_wp2
       go_ret
       exact ⟨by first | rfl | (simp; done) | (simp [*]; done), by repeat (first | exact Drawn0.refl _ | apply Drawn0.step)⟩
      ·rw [if_neg c6] at H
       have c6b0 : decide ((bt a0 x3_1) < 32) = false := decide_eq_false c6
       clear c6
       by_cases c8 : (bt a0 x3_1) > 126
       ·rw [if_pos c8] at H
        have c8b0 : decide (126 < (bt a0 x3_1)) = true := decide_eq_true c8
        clear c8
        obtain rfl := Option.some.inj H
        have p5 : 0 ≤ (x3_1 : Int) := of_decide_eq_true (by first | (with_reducible assumption) | assumption)
        have q5 : x3_1 < (a0.size : Int) := of_decide_eq_true (by first | (with_reducible assumption) | assumption)
        have hx5 := bt_at a0 x3_1
        replace p5 := eq_true p5
        replace q5 := eq_true q5
        have p7 : 0 ≤ (x3_1 : Int) := of_decide_eq_true (by first | (with_reducible assumption) | assumption)
        have q7 : x3_1 < (a0.size : Int) := of_decide_eq_true (by first | (with_reducible assumption) | assumption)
        have hx7 := bt_at a0 x3_1
        replace p7 := eq_true p7
        replace q7 := eq_true q7
        go_wp2
        go_ret
        exact ⟨by first | rfl | (simp; done) | (simp [*]; done), by repeat (first | exact Drawn0.refl _ | apply Drawn0.step)⟩
       ·rw [if_neg c8] at H
        have c8b0 : decide (126 < (bt a0 x3_1)) = false := decide_eq_false c8
        clear c8
        have H' := Aside0.mk H
        clear H
        have p5 : 0 ≤ (x3_1 : Int) := of_decide_eq_true (by first | (with_reducible assumption) | assumption)
        have q5 : x3_1 < (a0.size : Int) := of_decide_eq_true (by first | (with_reducible assumption) | assumption)
        have hx5 := bt_at a0 x3_1
        replace p5 := eq_true p5
        replace q5 := eq_true q5
        have p7 : 0 ≤ (x3_1 : Int) := of_decide_eq_true (by first | (with_reducible assumption) | assumption)
        have q7 : x3_1 < (a0.size : Int) := of_decide_eq_true (by first | (with_reducible assumption) | assumption)
        have hx7 := bt_at a0 x3_1
        replace p7 := eq_true p7
        replace q7 := eq_true q7
        go_wp2
        go_roundg k1
        case measure => have := HK1.out; omega
        case rel => exact ⟨(wrap64 (x3_1 + 1)), (by first | rfl | (simp; done) | (simp [*]; done)), H', ⟨by have := HK1.out; omega⟩, by repeat (first | exact Drawn0.refl _ | apply Drawn0.step)⟩
     ·rw [if_neg c4] at H
      exact absurd H (by simp)
    ·rw [if_neg c3] at H
     have c3b0 : decide (x3_1 < (a0.size : Int)) = false := decide_eq_false c3
     clear c3
     obtain rfl := Option.some.inj H
     go_wp2
     go_ret
     exact ⟨by first | rfl | (simp; done) | (simp [*]; done), by repeat (first | exact Drawn0.refl _ | apply Drawn0.step)⟩

/-! ### apparatus_witness: function 50 -/
def apparatus_witness.f (k : Nat) (l0_0 : List ByteArray) (l0_1 : List (S65)) (a1 : ByteArray) : Option (Int × Int) := (apparatus_Valid.f k l0_0 l0_1).bind fun t290 => (if t290 = 0 then ((slices_Index_string_string.f k l0_0 a1).bind fun t291 => (if t291 < 0 then (some (0, 4)) else (some (t291, 0)))) else (some (0, t290)))
theorem apparatus_witness.mono : ∀ a0 a1 a2 k, LeO (apparatus_witness.f k a0 a1 a2) (apparatus_witness.f (k + 1) a0 a1 a2) := by
 intro a0 a1 a2 k
 unfold apparatus_witness.f
 repeat' first
   | (with_reducible exact apparatus_Valid.mono _ _ _)
   | (with_reducible exact slices_Index_string_string.mono _ _ _)
   | (with_reducible exact LeO.refl _)
   | (with_reducible exact LeO.none _)
   | (with_reducible refine LeO.ite ?_ ?_)
   | (with_reducible refine LeO.bind ?_ (fun _ => ?_))
   | exact apparatus_Valid.mono _ _ _
   | exact slices_Index_string_string.mono _ _ _
   | exact LeO.none _
   | refine LeO.ite ?_ ?_
   | refine LeO.bind ?_ (fun _ => ?_)
set_option maxHeartbeats 8000000 in
set_option maxRecDepth 100000 in
theorem apparatus_witness.calls (k : Nat) (A0_0 : Option Addr) (c0_0 : Nat) (l0_0 : List ByteArray) (A0_1 : Option Addr) (c0_1 : Nat) (l0_1 : List (S65)) (a1 : ByteArray) (r1 : Int) (r2 : Int) (w : World) (hr0_0 : Kd.C Kd.string w A0_0 l0_0.length l0_0) (hc0_0 : l0_0.length ≤ c0_0) (hr0_1 : Kd.C k65 w A0_1 l0_1.length l0_1) (hc0_1 : l0_1.length ≤ c0_1) (h : apparatus_witness.f k l0_0 l0_1 a1 = some (r1, r2)) :
  Calls Try.prog 50 #[.agg #[.slice A0_0 l0_0.length c0_0, .slice A0_1 l0_1.length c0_1], .string a1] w fun e w' => e = .returned (.tuple #[.int .i64 r1, .int .i64 r2]) ∧ Below w.heap.size w w' := by
 have hu42 := Try.underlying42
 have HR0_0 := Aside0.mk hr0_0
 have HC0_0 := Aside0.mk hc0_0
 clear hr0_0 hc0_0
 have HR0_1 := Aside0.mk hr0_1
 have HC0_1 := Aside0.mk hc0_1
 clear hr0_1 hc0_1
 have HB := Aside0.mk (Below.refl w.heap.size w)
 have H : ((apparatus_Valid.f k l0_0 l0_1).bind fun t290 => (if t290 = 0 then ((slices_Index_string_string.f k l0_0 a1).bind fun t291 => (if t291 < 0 then (some (0, 4)) else (some (t291, 0)))) else (some (0, t290)))) = some (r1, r2) := h
 clear h
 replace H := Option.bind_eq_some_iff.mp H
 obtain ⟨t290, A30, H⟩ := H
 try dsimp only at H
 have A3 := Aside0.mk A30
 clear A30
 by_cases c4 : t290 = 0
 ·rw [if_pos c4] at H
  have c4b0 : (t290 == 0) = true := beq_iff_eq.mpr c4
  have c4b1 : (t290 != 0) = false := bne_eq_false_iff_eq.mpr c4
  clear c4
  replace H := Option.bind_eq_some_iff.mp H
  obtain ⟨t291, A50, H⟩ := H
  try dsimp only at H
  have A5 := Aside0.mk A50
  clear A50
  by_cases c6 : t291 < 0
  ·rw [if_pos c6] at H
   have c6b0 : decide (t291 < 0) = true := decide_eq_true c6
   clear c6
   simp only [Option.some.injEq, Prod.mk.injEq] at H
   obtain ⟨rfl, rfl⟩ := H
   go_enter Try.func50, Try.ntmps50
   go_wp2_with (first | ((with_reducible refine gate_dst (N := 2) rfl ?_); refine bX 2 #[.slice A0_0 l0_0.length c0_0, .slice A0_1 l0_1.length c0_1] 42 ?_; intro gb289 hg w7 hbox hb; have n0_ := jL HB hb; have n1_ := Aside0.mk (hbox); have n2_ := Aside0.mk ((by rw [hg]; exact (below_size (iL HB)) : w.heap.size ≤ gb289)); have n3_ := Aside0.mk ((by rw [hg]; exact (below_size (iL HB)) : w.heap.size ≤ gb289)); clear HB; have HB := n0_; have BK289 := n1_; have GW289 := n2_; have GE289 := n3_; clear n0_ n1_ n2_ n3_; clear hb hbox hg; have hcz8_0 := cZ BK289 0 (.slice A0_0 l0_0.length c0_0); have hcz8_1 := cZ BK289 1 (.slice A0_1 l0_1.length c0_1); have hfz8_0 := blk_frozen BK289.out 0; have hfz8_1 := blk_frozen BK289.out 1) | ((with_reducible refine gate_callee (f := 52) rfl ?_); refine gL_ (some 9) Try.func52 #[.agg #[.slice A0_0 l0_0.length c0_0, .slice A0_1 l0_1.length c0_1]] ?_; (with_reducible refine (apparatus_Valid.calls k _ _ l0_0 _ _ l0_1 t290 _ ?side1 ?side2 ?side3 ?side4 A3.out).mono ?_); (case side1 => exact iC HR0_0 HB); (case side2 => exact HC0_0.out); (case side3 => exact iC HR0_1 HB); (case side4 => exact HC0_1.out); rintro e w9 ⟨rfl, hb⟩; refine ⟨_, rfl, ?_⟩; have n0_ := jB BK289 hb; have n1_ := jL HB hb; clear BK289; clear HB; have BK289 := n0_; have HB := n1_; clear n0_ n1_; (try clear hb); (try clear hb2); (try clear hk); (try clear hi); have hcz10_0 := cZ BK289 0 (.slice A0_0 l0_0.length c0_0); have hcz10_1 := cZ BK289 1 (.slice A0_1 l0_1.length c0_1); have hfz10_0 := blk_frozen BK289.out 0; have hfz10_1 := blk_frozen BK289.out 1) | ((with_reducible refine gate_callee (f := 25) rfl ?_); refine gL_ (some 16) Try.func25 #[.slice A0_0 l0_0.length c0_0, .string a1] ?_; (with_reducible refine (slices_Index_string_string.calls k _ _ l0_0 a1 t291 _ ?side1 ?side2 A5.out).mono ?_); (case side1 => exact iC HR0_0 HB); (case side2 => exact HC0_0.out); rintro e w' ⟨rfl, ⟨nd, rfl⟩⟩; refine ⟨_, rfl, ?_⟩))
   go_ret2
   exact ⟨by first | rfl | (simp [errW_none, errW_some] <;> rfl) | (simp [*, errW_none, errW_some] <;> rfl), by repeat (first | (with_reducible first | exact HB.out | apply below_alloc | apply pw_below_drewN | apply below_drew1 | refine below_set ?_ GE289.out) | exact HB.out)⟩
  ·rw [if_neg c6] at H
   have c6b0 : decide (t291 < 0) = false := decide_eq_false c6
   clear c6
   simp only [Option.some.injEq, Prod.mk.injEq] at H
   obtain ⟨rfl, rfl⟩ := H
   go_enter Try.func50, Try.ntmps50
   go_wp2_with (first | ((with_reducible refine gate_dst (N := 2) rfl ?_); refine bX 2 #[.slice A0_0 l0_0.length c0_0, .slice A0_1 l0_1.length c0_1] 42 ?_; intro gb289 hg w11 hbox hb; have n0_ := jL HB hb; have n1_ := Aside0.mk (hbox); have n2_ := Aside0.mk ((by rw [hg]; exact (below_size (iL HB)) : w.heap.size ≤ gb289)); have n3_ := Aside0.mk ((by rw [hg]; exact (below_size (iL HB)) : w.heap.size ≤ gb289)); clear HB; have HB := n0_; have BK289 := n1_; have GW289 := n2_; have GE289 := n3_; clear n0_ n1_ n2_ n3_; clear hb hbox hg; have hcz12_0 := cZ BK289 0 (.slice A0_0 l0_0.length c0_0); have hcz12_1 := cZ BK289 1 (.slice A0_1 l0_1.length c0_1); have hfz12_0 := blk_frozen BK289.out 0; have hfz12_1 := blk_frozen BK289.out 1) | ((with_reducible refine gate_callee (f := 52) rfl ?_); refine gL_ (some 9) Try.func52 #[.agg #[.slice A0_0 l0_0.length c0_0, .slice A0_1 l0_1.length c0_1]] ?_; (with_reducible refine (apparatus_Valid.calls k _ _ l0_0 _ _ l0_1 t290 _ ?side1 ?side2 ?side3 ?side4 A3.out).mono ?_); (case side1 => exact iC HR0_0 HB); (case side2 => exact HC0_0.out); (case side3 => exact iC HR0_1 HB); (case side4 => exact HC0_1.out); rintro e w13 ⟨rfl, hb⟩; refine ⟨_, rfl, ?_⟩; have n0_ := jB BK289 hb; have n1_ := jL HB hb; clear BK289; clear HB; have BK289 := n0_; have HB := n1_; clear n0_ n1_; (try clear hb); (try clear hb2); (try clear hk); (try clear hi); have hcz14_0 := cZ BK289 0 (.slice A0_0 l0_0.length c0_0); have hcz14_1 := cZ BK289 1 (.slice A0_1 l0_1.length c0_1); have hfz14_0 := blk_frozen BK289.out 0; have hfz14_1 := blk_frozen BK289.out 1) | ((with_reducible refine gate_callee (f := 25) rfl ?_); refine gL_ (some 16) Try.func25 #[.slice A0_0 l0_0.length c0_0, .string a1] ?_; (with_reducible refine (slices_Index_string_string.calls k _ _ l0_0 a1 t291 _ ?side1 ?side2 A5.out).mono ?_); (case side1 => exact iC HR0_0 HB); (case side2 => exact HC0_0.out); rintro e w' ⟨rfl, ⟨nd, rfl⟩⟩; refine ⟨_, rfl, ?_⟩))
   go_ret2
   exact ⟨by first | rfl | (simp [errW_none, errW_some] <;> rfl) | (simp [*, errW_none, errW_some] <;> rfl), by repeat (first | (with_reducible first | exact HB.out | apply below_alloc | apply pw_below_drewN | apply below_drew1 | refine below_set ?_ GE289.out) | exact HB.out)⟩
 ·rw [if_neg c4] at H
  have c4b0 : (t290 == 0) = false := beq_eq_false_iff_ne.mpr c4
  have c4b1 : (t290 != 0) = true := bne_iff_ne.mpr c4
  simp only [Option.some.injEq, Prod.mk.injEq] at H
  obtain ⟨rfl, rfl⟩ := H
  go_enter Try.func50, Try.ntmps50
  go_wp2_with (first | ((with_reducible refine gate_dst (N := 2) rfl ?_); refine bX 2 #[.slice A0_0 l0_0.length c0_0, .slice A0_1 l0_1.length c0_1] 42 ?_; intro gb289 hg w15 hbox hb; have n0_ := jL HB hb; have n1_ := Aside0.mk (hbox); have n2_ := Aside0.mk ((by rw [hg]; exact (below_size (iL HB)) : w.heap.size ≤ gb289)); have n3_ := Aside0.mk ((by rw [hg]; exact (below_size (iL HB)) : w.heap.size ≤ gb289)); clear HB; have HB := n0_; have BK289 := n1_; have GW289 := n2_; have GE289 := n3_; clear n0_ n1_ n2_ n3_; clear hb hbox hg; have hcz16_0 := cZ BK289 0 (.slice A0_0 l0_0.length c0_0); have hcz16_1 := cZ BK289 1 (.slice A0_1 l0_1.length c0_1); have hfz16_0 := blk_frozen BK289.out 0; have hfz16_1 := blk_frozen BK289.out 1) | ((with_reducible refine gate_callee (f := 52) rfl ?_); refine gL_ (some 9) Try.func52 #[.agg #[.slice A0_0 l0_0.length c0_0, .slice A0_1 l0_1.length c0_1]] ?_; (with_reducible refine (apparatus_Valid.calls k _ _ l0_0 _ _ l0_1 t290 _ ?side1 ?side2 ?side3 ?side4 A3.out).mono ?_); (case side1 => exact iC HR0_0 HB); (case side2 => exact HC0_0.out); (case side3 => exact iC HR0_1 HB); (case side4 => exact HC0_1.out); rintro e w17 ⟨rfl, hb⟩; refine ⟨_, rfl, ?_⟩; have n0_ := jB BK289 hb; have n1_ := jL HB hb; clear BK289; clear HB; have BK289 := n0_; have HB := n1_; clear n0_ n1_; (try clear hb); (try clear hb2); (try clear hk); (try clear hi)))
  go_ret2
  exact ⟨by first | rfl | (simp [errW_none, errW_some] <;> rfl) | (simp [*, errW_none, errW_some] <;> rfl), by repeat (first | (with_reducible first | exact HB.out | apply below_alloc | apply pw_below_drewN | apply below_drew1 | refine below_set ?_ GE289.out) | exact HB.out)⟩

end Go.Proofs.Ytmjigfoldeekmaa.X
