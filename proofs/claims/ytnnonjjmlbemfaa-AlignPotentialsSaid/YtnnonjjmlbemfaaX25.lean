-- halved indents
-- printed by this session's xprint.py: out of the translation, by the kit's print with additions; Lean checks it
import Derived.Test.YtnnonjjmlbemfaaWShare
import Derived.Test.YtnnonjjmlbemfaaWRepsOne
import Derived.Test.YtnnonjjmlbemfaaX0
import Derived.Test.YtnnonjjmlbemfaaX10
import Derived.Test.YtnnonjjmlbemfaaX16
namespace Go.Proofs.Ytnnonjjmlbemfaa.X
open Go.RowKit Go.Proofs.YtnnonjjmlbemfaaW.PrintWords Go.Proofs.YtnnonjjmlbemfaaW.PrintLast Go.Proofs.YtnnonjjmlbemfaaW.PrintMore
attribute [local go_sem] max2_int min2_int max_two min_two max_three min_three max_four min_four isSome_setCell binOp_gtr_str binOp_leq_str   -- for this text's walks alone
set_option linter.unusedVariables false
set_option linter.unusedSimpArgs false

/-! ### ancepsref45_Distance: function 21 -/
def ancepsref45_Distance.f (k : Nat) (a0 : ByteArray) (a1 : ByteArray) : Option (Int × Int) := (ancepsref45_Given.f k a0 a1).bind fun t467 => (if t467 = 0 then ((ancepsref45_table.f k a0 a1).bind fun t468 => (if 0 < (t468.length : Int) then (if 0 < ((rd_L2 t468 0).length : Int) then (some (rd (rd_L2 t468 0) 0, 0)) else (none)) else (none))) else (some (0, t467)))
theorem ancepsref45_Distance.mono : ∀ a0 a1 k, LeO (ancepsref45_Distance.f k a0 a1) (ancepsref45_Distance.f (k + 1) a0 a1) := by
 intro a0 a1 k
 unfold ancepsref45_Distance.f
 repeat' first
   | (with_reducible exact ancepsref45_Given.mono _ _ _)
   | (with_reducible exact ancepsref45_table.mono _ _ _)
   | (with_reducible exact LeO.refl _)
   | (with_reducible exact LeO.none _)
   | (with_reducible refine LeO.ite ?_ ?_)
   | (with_reducible refine LeO.bind ?_ (fun _ => ?_))
   | exact ancepsref45_Given.mono _ _ _
   | exact ancepsref45_table.mono _ _ _
   | exact LeO.none _
   | refine LeO.ite ?_ ?_
   | refine LeO.bind ?_ (fun _ => ?_)
set_option maxHeartbeats 8000000 in
set_option maxRecDepth 100000 in
theorem ancepsref45_Distance.calls (k : Nat) (a0 : ByteArray) (a1 : ByteArray) (r1 : Int) (r2 : Int) (w : World) (h : ancepsref45_Distance.f k a0 a1 = some (r1, r2)) :
  Calls Try.prog 21 #[.string a0, .string a1] w fun e w' => e = .returned (.tuple #[.int .i64 r1, .int .i64 r2]) ∧ Below w.heap.size w w' := by
 have HB := Aside0.mk (Below.refl w.heap.size w)
 have H : ((ancepsref45_Given.f k a0 a1).bind fun t467 => (if t467 = 0 then ((ancepsref45_table.f k a0 a1).bind fun t468 => (if 0 < (t468.length : Int) then (if 0 < ((rd_L2 t468 0).length : Int) then (some (rd (rd_L2 t468 0) 0, 0)) else (none)) else (none))) else (some (0, t467)))) = some (r1, r2) := h
 clear h
 replace H := Option.bind_eq_some_iff.mp H
 obtain ⟨t467, A30, H⟩ := H
 replace H : (if t467 = 0 then ((ancepsref45_table.f k a0 a1).bind fun t468 => (if 0 < (t468.length : Int) then (if 0 < ((rd_L2 t468 0).length : Int) then (some (rd (rd_L2 t468 0) 0, 0)) else (none)) else (none))) else (some (0, t467))) = some (r1, r2) := H
 have A3 := Aside0.mk A30
 clear A30
 by_cases c4 : t467 = 0
 ·rw [if_pos c4] at H
  have c4b0 : (t467 == 0) = true := beq_iff_eq.mpr c4
  have c4b1 : (t467 != 0) = false := bne_eq_false_iff_eq.mpr c4
  clear c4
  replace H := Option.bind_eq_some_iff.mp H
  obtain ⟨t468, A50, H⟩ := H
  replace H : (if 0 < (t468.length : Int) then (if 0 < ((rd_L2 t468 0).length : Int) then (some (rd (rd_L2 t468 0) 0, 0)) else (none)) else (none)) = some (r1, r2) := H
  have A5 := Aside0.mk A50
  clear A50
  by_cases c6 : 0 < (t468.length : Int)
  ·rw [if_pos c6] at H
   have c6b0 : decide (0 < (t468.length : Int)) = true := decide_eq_true c6
   have c6b1 : decide (0 < t468.length) = true := decide_eq_true (by omega)
   clear c6
   by_cases c7 : 0 < ((rd_L2 t468 0).length : Int)
   ·rw [if_pos c7] at H
    have c7b0 : decide (0 < ((rd_L2 t468 0).length : Int)) = true := decide_eq_true c7
    have c7b1 : decide (0 < (rd_L2 t468 0).length) = true := decide_eq_true (by omega)
    clear c7
    simp only [Option.some.injEq, Prod.mk.injEq] at H
    obtain ⟨rfl, rfl⟩ := H
    go_enter Try.func21, Try.ntmps21
    go_wp2_with (first | ((with_reducible refine gate_callee (f := 16) rfl ?_); refine goesL_ (some 9) rfl rfl Try.func16 (by kernel_rfl) rfl #[.string a0, .string a1] rfl (by (try simp only [List.map_toArray, List.map_cons, List.map_nil]); first | done | rfl | (simp only [List.length_drop, List.length_take]; rfl)) ?_; (with_reducible refine (ancepsref45_Given.calls k a0 a1 t467 _ A3.out).mono ?_); rintro e w' ⟨rfl, ⟨nd, rfl⟩⟩; refine ⟨_, rfl, ?_⟩) | ((with_reducible refine gate_callee (f := 46) rfl ?_); refine goesL_ (some 15) rfl rfl Try.func46 (by kernel_rfl) rfl #[.string a0, .string a1] rfl (by (try simp only [List.map_toArray, List.map_cons, List.map_nil]); first | done | rfl | (simp only [List.length_drop, List.length_take]; rfl)) ?_; (with_reducible refine (ancepsref45_table.calls k a0 a1 t468 _ A5.out).mono ?_); rintro e w8 ⟨v469, rfl, ho0, hb⟩; refine ⟨_, rfl, ?_⟩; have n0_ := Aside0.mk (Kd.S_lower ho0 (below_size (by repeat (first | (with_reducible first | exact HB.out | apply below_alloc | apply pw_below_drewN | apply below_drew1) | exact HB.out)))); have n1_ := Aside0.mk (below_step (by repeat (first | (with_reducible first | exact HB.out | apply below_alloc | apply pw_below_drewN | apply below_drew1) | exact HB.out)) hb); clear HB; have HO470 := n0_; have HB := n1_; clear n0_ n1_; (try clear hb); (try clear hb2); (try clear hk); (try clear hi); (try clear ho0); obtain ⟨Ao9, co9, eo9⟩ := Kd.S_slice HO470.out; subst eo9; have p471 : 0 ≤ (0 : Int) := (by omega); have q471 : 0 < (t468.length : Int) := of_decide_eq_true (by first | (with_reducible assumption) | assumption); obtain ⟨ad471, A471_0, c471_0, e471, hx471_0, hl471_0, hi471_0⟩ := at_L2 (Kd.S_reads' HO470.out).2.2 0 p471 q471; cases e471; obtain ⟨ce471, hce471, hMe471, hcc471⟩ := Kd.S_get HO470.out [] 0 p471 (by first | exact q471 | exact of_decide_eq_true (by first | (with_reducible assumption) | assumption) | (have e_ := (Kd.S_reads' HO470.out).1; omega)); obtain ⟨ve471_0, rfl, ge471_0⟩ := hMe471; have hv471_0 := hcc471 0 _ rfl; rw [Nat.add_zero, show ((Kd.slice 3 (Kd.int .i64))).sz = 1 from rfl, Nat.mul_one] at hv471_0; replace hv471_0 := Option.some.inj (hv471_0.symm.trans hx471_0); rw [hv471_0] at ge471_0; have HL471_0 := Aside0.mk (show Kd.R (Kd.int .i64) 3 _ _ _ _ (rd_L2 t468 0) from ge471_0); clear hv471_0 ge471_0; clear hcc471 hce471; have qi471 : (0 < t468.length) = True := eq_true (by omega); (try rw [show ((0 : Int)).toNat = 0 from rfl] at hx471_0); (try rw [Addr.add_zero'] at hx471_0); have HR471_0 := Aside0.mk hi471_0; have HC471_0 := Aside0.mk hl471_0; clear hi471_0 hl471_0; replace p471 := eq_true p471; replace q471 := eq_true q471; have p472 : 0 ≤ (0 : Int) := (by omega); have q472 : 0 < ((rd_L2 t468 0).length : Int) := of_decide_eq_true (by first | (with_reducible assumption) | assumption); obtain ⟨ad472, e472, hx472_0⟩ := Kd.at_int (by repeat (first | (with_reducible exact HR471_0.out) | (with_reducible refine Kd.C_alloc ?_ _) | (with_reducible refine Kd.C_drewN ?_ _) | (with_reducible refine Kd.C_drew ?_) | exact HR471_0.out)) 0 p472 q472; cases e472; have qi472 : (0 < (rd_L2 t468 0).length) = True := eq_true (by omega); (try rw [show ((0 : Int)).toNat = 0 from rfl] at hx472_0); (try rw [Addr.add_zero'] at hx472_0); replace p472 := eq_true p472; replace q472 := eq_true q472))
    go_ret2
    exact ⟨by first | rfl | (simp [errW_none, errW_some] <;> rfl) | (simp [*, errW_none, errW_some] <;> rfl), by repeat (first | (with_reducible first | exact HB.out | apply below_alloc | apply pw_below_drewN | apply below_drew1) | exact HB.out)⟩
   ·rw [if_neg c7] at H
    exact absurd H (by simp)
  ·rw [if_neg c6] at H
   exact absurd H (by simp)
 ·rw [if_neg c4] at H
  have c4b0 : (t467 == 0) = false := beq_eq_false_iff_ne.mpr c4
  have c4b1 : (t467 != 0) = true := bne_iff_ne.mpr c4
  simp only [Option.some.injEq, Prod.mk.injEq] at H
  obtain ⟨rfl, rfl⟩ := H
  go_enter Try.func21, Try.ntmps21
  go_wp2_with (first | ((with_reducible refine gate_callee (f := 16) rfl ?_); refine goesL_ (some 9) rfl rfl Try.func16 (by kernel_rfl) rfl #[.string a0, .string a1] rfl (by (try simp only [List.map_toArray, List.map_cons, List.map_nil]); first | done | rfl | (simp only [List.length_drop, List.length_take]; rfl)) ?_; (with_reducible refine (ancepsref45_Given.calls k a0 a1 t467 _ A3.out).mono ?_); rintro e w' ⟨rfl, ⟨nd, rfl⟩⟩; refine ⟨_, rfl, ?_⟩))
  go_ret2
  exact ⟨by first | rfl | (simp [errW_none, errW_some] <;> rfl) | (simp [*, errW_none, errW_some] <;> rfl), by repeat (first | (with_reducible first | exact HB.out | apply below_alloc | apply pw_below_drewN | apply below_drew1) | exact HB.out)⟩

end Go.Proofs.Ytnnonjjmlbemfaa.X
