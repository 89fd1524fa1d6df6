/- More short names for steps that the printed walks take again and again. Conditions: none. -/
import Derived.Test.YtdaooagikacboaaXA
import Derived.Test.YtdaooagikacboaaWApart
import Derived.Test.YtdaooagikacboaaWTab
namespace Go.Proofs.YtdaooagikacboaaW.PrintWords
open Go.RowKit Go.Proofs.YtdaooagikacboaaW.PrintWords Go.Proofs.YtdaooagikacboaaW.PrintLast Go.Proofs.YtdaooagikacboaaW.PrintMore
theorem oD (p : Prop) [Decidable p] (h : decide p = true := by first | (with_reducible assumption) | assumption) : p := of_decide_eq_true h
theorem eV {α : Type} {a b : α} (h : a = b := by first | rfl | (simp; done) | (simp [*]; done)) : a = b := h
theorem dR {w w' : World} (h : Drawn0 w w' := by repeat (first | exact Drawn0.refl _ | apply Drawn0.step)) : Drawn0 w w' := h
theorem cR {α : Type} {d : Kd α} {w0 w1 : World} {A : Option Addr} {n : Nat} {xs : List α} (h : Aside0 (d.C w0 A n xs)) (f : d.C w0 A n xs → d.C w1 A n xs := by (intro h; repeat (first | (with_reducible exact h) | (with_reducible refine Kd.C_alloc ?_ _) | (with_reducible refine Kd.C_drewN ?_ _) | (with_reducible refine Kd.C_drew ?_) | exact h))) : d.C w1 A n xs := f h.out
theorem iS {α : Type} {d : Kd α} {e : Nat} {w0 w1 : World} {base : Nat} {ok : Nat → Prop} {v : Value} {xs : List α} (h : Aside0 (Kd.S d e w0 base ok v xs)) (f : Kd.S d e w0 base ok v xs → Kd.S d e w1 base ok v xs := by (intro h; (with_reducible repeat (first | apply Kd.S_alloc | apply Kd.S_drewN | apply Kd.S_drew)); exact h)) : Kd.S d e w1 base ok v xs := f h.out
theorem iN {α : Type} {d : Kd α} {e : Nat} {w0 w1 : World} {base : Nat} {ok : Nat → Prop} {v : Value} {xs : List α} (h : Aside0 (Kd.N d e w0 base ok v xs)) (f : Kd.N d e w0 base ok v xs → Kd.N d e w1 base ok v xs := by (intro h; (with_reducible repeat (first | apply Kd.N_alloc | apply Kd.N_drewN | apply Kd.N_drew)); exact h)) : Kd.N d e w1 base ok v xs := f h.out
theorem iV {α : Type} {d : Kd α} {e : Nat} {w0 w1 : World} {base : Nat} {ok : Nat → Prop} {v : Value} {xs : List α} (h : Aside0 (Kd.V d e w0 base ok v xs)) (f : Kd.V d e w0 base ok v xs → Kd.V d e w1 base ok v xs := by (intro h; (with_reducible repeat (first | apply Kd.V_alloc | apply Kd.V_drewN | apply Kd.V_drew)); exact h)) : Kd.V d e w1 base ok v xs := f h.out
section
variable {P : Program} {ops : Array Oper} {Q : Exit → Act → World → Prop} {oi : Oper} {a : Act} {w : World} {md : Region.Mode} {S : World → Prop} {ds : List Nat} {fuel : Nat} {l l' : Array Bool} {T : Bool × List (List Nat × List Nat)} {B : List Nat}
theorem tw_ (i : Nat) (N : Option Tmp) (hT : Aside0 (rtab md ops = T)) (hW : Aside0 (waitsOk T.2 B = true)) (hS : S w) {v : Value} {a' : Act} (h : wpAnyLast P md ops Q S ds fuel l' a' w) (hl : l.setIfInBounds i true = l' := by (simp only [List.setIfInBounds_toArray, List.set_cons_zero, List.set_cons_succ]; rfl)) (hi : ops[i]? = some oi := by rfl) (hN : oi.dst = N := by rfl) (hc : takeW T B ds l.toList l'.toList i = true := by kernel_rfl)
    (hQ : ∀ c a w, Q (.panic c) (a.put oi.dst v) w → Q (.panic c) a w := by exact fun _ _ _ h => h) (hy : YieldsIf P ops S oi v a := by (refine Or.inl ⟨by rfl, ?_⟩; intro w' hs_; (try (repeat (obtain ⟨_, hs_⟩ := hs_))); go_simp; with_reducible rfl)) (ha : a.put N v = a' := by (simp only [Act.put, List.setIfInBounds_toArray, List.set_cons_zero, List.set_cons_succ, i64_w, i32_w]; rfl)) : wpAnyLast P md ops Q S ds (fuel + 1) l a w := by
  subst hl
  exact take_ _ hi hN (take_ofW hT.out hW.out hc) hQ hy hS ha h
end
end Go.Proofs.YtdaooagikacboaaW.PrintWords
