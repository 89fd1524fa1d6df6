/- Short names for the steps through a region that draws its order: which operations are done is reckoned, not told. Conditions: none. -/
import Derived.Test.YtdaooagikacboaaWN
import Derived.Test.YtdaooagikacboaaWLast
import Derived.Test.YtdaooagikacboaaWMore
import Derived.Test.YtdaooagikacboaaWTab
namespace Go.Proofs.YtdaooagikacboaaW.PrintWords
open Go.RowKit Go.Proofs.YtdaooagikacboaaW.PrintWords Go.Proofs.YtdaooagikacboaaW.PrintLast Go.Proofs.YtdaooagikacboaaW.PrintMore
variable {P : Program} {ops : Array Oper} {Q : Exit → Act → World → Prop} {oi : Oper} {a : Act} {w : World} {md : Region.Mode} {S : World → Prop} {ds : List Nat} {fuel : Nat} {l l' : Array Bool} {T : Bool × List (List Nat × List Nat)}
theorem pv_ (i : Nat) (N : Option Tmp) (hT : Aside0 (rtab md ops = T)) {v : Value} {a' : Act} (h : wpAnyLast P md ops Q S ds fuel l' a' w) (hl : l.setIfInBounds i true = l' := by (simp only [List.setIfInBounds_toArray, List.set_cons_zero, List.set_cons_succ]; rfl)) (hi : ops[i]? = some oi := by rfl) (hN : oi.dst = N := by rfl) (hc : anyT T l.toList l'.toList i = true := by kernel_rfl)
    (hQ : ∀ c a w, Q (.panic c) (a.put oi.dst v) w → Q (.panic c) a w := by exact fun _ _ _ h => h) (hy : Yields P ops oi v a := by (refine Or.inl ⟨by rfl, ?_⟩; intro w'; go_simp; with_reducible rfl)) (ha : a.put N v = a' := by (simp only [Act.put, List.setIfInBounds_toArray, List.set_cons_zero, List.set_cons_succ, i64_w, i32_w]; rfl)) : wpAnyLast P md ops Q S ds (fuel + 1) l a w := by
  subst hl
  exact pure_ _ hi hN (any_of hT.out hc) hQ hy ha h
theorem pn_ (i : Nat) (N : Option Tmp) (hT : Aside0 (rtab md ops = T)) {a' : Act} (h : wpAnyLast P md ops Q S ds fuel l' a' w) (hl : l.setIfInBounds i true = l' := by (simp only [List.setIfInBounds_toArray, List.set_cons_zero, List.set_cons_succ]; rfl)) (hi : ops[i]? = some oi := by rfl) (hN : oi.dst = N := by rfl) (hc : anyT T l.toList l'.toList i = true := by kernel_rfl)
    (hQ : ∀ c a w, Q (.panic c) (a.put oi.dst undef) w → Q (.panic c) a w := by exact fun _ _ _ h => h) (hy : Yields P ops oi undef a := by exact Or.inr ⟨by rfl, rfl⟩) (ha : a.put N undef = a' := by (simp only [Act.put, List.setIfInBounds_toArray, List.set_cons_zero, List.set_cons_succ, i64_w, i32_w]; rfl)) : wpAnyLast P md ops Q S ds (fuel + 1) l a w := by
  subst hl
  exact pure_ _ hi hN (any_of hT.out hc) hQ hy ha h
end Go.Proofs.YtdaooagikacboaaW.PrintWords
