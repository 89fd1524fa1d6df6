-- printed by this session's xprint.py: out of the translation, by the kit's print with additions; Lean checks it
import Derived.Test.YtmjigfoldeekmaaRows
import Derived.Test.YtmjigfoldeekmaaX25
import Derived.Test.YtmjigfoldeekmaaPureApparatusCollate
import Derived.WalkKit
import Derived.ProofKit
import Derived.OpenShut
import Derived.ShutString
import Derived.ChangeOld
import Derived.Below
import Derived.SizedLaws
import Derived.Test.YtmjigfoldeekmaaWSized
import Derived.Test.YtmjigfoldeekmaaXO
namespace Go.Proofs.Ytmjigfoldeekmaa.apparatusCollate
open Go.ChangeShapes Go.WideShapes Go.ChangeAt Go.RowKit
open Go.ChangeMaps (open_string shut_string)
set_option linter.unusedVariables false
theorem own : ownKnob Try.prog.godebug = none := by kernel_rfl
theorem laidOut : laidOutB Try.prog = true := by kernel_rfl
def IsRow (k : IntKind) (w : World) (a : Option Addr) (len cap : Nat) (zs : List Int) : Prop :=
  (a = none ∧ len = 0 ∧ cap = 0 ∧ zs = []) ∨
  ∃ x, a = some x ∧ len ≤ cap ∧ cap ≤ maxLen ∧ zs.length = cap ∧ (∀ i, i < zs.length → w.cell? (x.add i) = some (.int k (zs.getD i 0))) ∧ ∀ n ∈ zs, (Lit.int k n).wf = true
set_option maxRecDepth 100000 in
theorem lifted (os : Os) (started : os.Started) (H : Type) (enc : TypeId × Value → H) :
    ReturnsInHanded {} Try.checked os 5 .any (Rows.apparatusCollateSpec.pre6 enc Try.prog Try.f5 Rows.apparatusCollateRow.domain false) (Rows.apparatusCollateSpec.post enc Try.prog Try.f5 false true false false) := by
  refine returnsInHanded_of_change_sized (C := Try.checked) own started (by kernel_rfl) Try.func5
    (ChangeSpec.witness6 (enc := enc) (C := Try.checked) false ⟨#[], #[.slice none 0 0, .slice none 0 0], []⟩ 8 (by kernel_rfl) (by kernel_rfl) (by kernel_rfl) (by kernel_rfl)) ?_
  intro W base args ds gs before hval0 hW hcnd hsz0 _
  have hsz : (DataW.weightsEach Try.prog (Try.f5.params.toList ++ Rows.apparatusCollateSpec.plain.varTypes Try.prog) (ds ++ gs)).all (· ≤ reachBytes) = true := hsz0
  have hval : ∀ (j : Nat) t v, Try.f5.params[j]? = some t → args[j]? = some v → Value.okWide Try.prog W .any base t v := hval0
  have hW' := hW
  obtain ⟨p, q, hA0, hV, rfl, hfz, hnd⟩ := hW
  have hA : DataW.TrodAll enc Try.prog W 0 (fun _ => true) true Try.f5.params.toList args.toList ds p := hA0
  rw [Try.params5] at hA hval hsz
  obtain ⟨v0, vs0, d0, ds0, p0, q0, hargs, rfl, rfl, h0, r0⟩ := trodAll_cons hA
  obtain ⟨v1, vs1, d1, ds1, p1, q1, rfl, rfl, rfl, h1, r1⟩ := trodAll_cons r0
  obtain ⟨rfl, rfl, rfl⟩ := trodAll_nil r1
  obtain rfl : args = #[v0, v1] := by cases args; simp_all
  obtain ⟨rfl, rfl⟩ := trodVars_none hV
  obtain ⟨a0, len0, cap0, rfl⟩ := okWide_slice Try.underlying34 (hval 0 34 v0 rfl rfl)
  have k0 := h0
  have lt0 : ∀ x ∈ p0, x.block < W.heap.size := by obtain ⟨m, hm⟩ := k0; exact DataW.trod_lt m _ _ _ hm
  obtain ⟨l0, ko0, hm0, y0, hw0⟩ := Open.opens_arg (Open.opens_slice (d := Go.Proofs.YtmjigfoldeekmaaW.PrintWords.Kd.string) (B := 16) Try.underlying34 (by kernel_rfl) (by kernel_rfl) (Open.opens_string Try.underlying9)) hsz (j := 0) (t := 34) rfl rfl h0
  obtain ⟨A0, c0, e0, hc0, hr0⟩ := ko0
  simp [Value.cells] at e0
  obtain ⟨rfl, rfl, rfl⟩ := e0
  obtain ⟨a1, len1, cap1, rfl⟩ := okWide_slice Try.underlying37 (hval 1 37 v1 rfl rfl)
  have k1 := h1
  have lt1 : ∀ x ∈ p1, x.block < W.heap.size := by obtain ⟨m, hm⟩ := k1; exact DataW.trod_lt m _ _ _ hm
  obtain ⟨l1, ko1, hm1, y1, hw1⟩ := Open.opens_arg (Open.opens_slice (d := (Go.Proofs.YtmjigfoldeekmaaW.PrintWords.Kd.slice 9 Go.Proofs.YtmjigfoldeekmaaW.PrintWords.Kd.string)) (B := 24) Try.underlying37 (by kernel_rfl) (by kernel_rfl) (Open.opens_slice (d := Go.Proofs.YtmjigfoldeekmaaW.PrintWords.Kd.string) (B := 16) Try.underlying34 (by kernel_rfl) (by kernel_rfl) (Open.opens_string Try.underlying9))) hsz (j := 1) (t := 37) rfl rfl h1
  obtain ⟨A1, c1, e1, hc1, hr1⟩ := ko1
  simp [Value.cells] at e1
  obtain ⟨rfl, rfl, rfl⟩ := e1
  clear hA0 hval0 hsz0 hsz
  refine (X.ancepslaw57_ApparatusCollate.walk Pure.ApparatusCollate a0 cap0 l0 a1 cap1 l1 W hr0 hc0 hm0 y0 hw0 hr1 hc1 hm1 y1 hw1).mono fun e W' ⟨he, bel⟩ => ?_
  subst he
  exact ⟨_, rfl, _, _, _, [], _, [], hW', trodAll_mk1 (shut_bool Try.underlying4 _), (trodAll_cons_mk (Below.trod laidOut (by kernel_rfl) (of_decide_eq_true (by kernel_rfl)) k0 bel lt0) (trodAll_cons_mk (Below.trod laidOut (by kernel_rfl) (of_decide_eq_true (by kernel_rfl)) k1 bel lt1) trodAll_mk0)), rfl, bel.frame _, fun h => by cases h⟩
theorem over : Rows.apparatusCollateRow.holds Try.pinned (OpenSpec.ofChange Rows.apparatusCollateSpec) :=
  OpenClaim.holds_of_wide 5 Try.f5 rfl rfl rfl rfl rfl rfl rfl ⟨rfl, rfl, rfl, rfl, rfl⟩ rfl rfl rfl rfl rfl (by kernel_rfl) Try.func5 (by kernel_rfl)
    (of_decide_eq_true (by kernel_rfl)) (by unfold Func.isWrapper; first | (rw [if_pos (by decide +kernel)]; kernel_rfl) | (rw [if_neg (by decide +kernel)]; exact ⟨rfl, rfl⟩))
    (fun os started H enc _ => lifted os started H enc)
theorem proved : Rows.ApparatusCollateSaid := over
#print axioms proved
end Go.Proofs.Ytmjigfoldeekmaa.apparatusCollate
namespace Go.Proofs.Ytmjigfoldeekmaa
/-- The row, under a short name, for the claim. -/
theorem apparatusCollate_holds : Rows.ApparatusCollateSaid := apparatusCollate.proved
end Go.Proofs.Ytmjigfoldeekmaa
