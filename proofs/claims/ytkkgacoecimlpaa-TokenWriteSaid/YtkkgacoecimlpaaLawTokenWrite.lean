-- printed by this session's xprint.py: out of the translation, by the kit's print with additions; Lean checks it
import Derived.Test.YtkkgacoecimlpaaRows
import Derived.Test.YtkkgacoecimlpaaX26
import Derived.Test.YtkkgacoecimlpaaPureTokenWrite
import Derived.WalkKit
import Derived.ProofKit
import Derived.OpenShut
import Derived.ShutString
import Derived.ChangeOld
import Derived.Below
import Derived.SizedLaws
import Derived.Test.YtkkgacoecimlpaaWSized
import Derived.Test.YtkkgacoecimlpaaXO
namespace Go.Proofs.Ytkkgacoecimlpaa.tokenWrite
open Go.ChangeShapes Go.WideShapes Go.ChangeAt Go.RowKit
open Go.ChangeMaps (open_string shut_string)
set_option linter.unusedVariables false
theorem own : ownKnob Try.prog.godebug = none := by kernel_rfl
theorem laidOut : laidOutB Try.prog = true := by kernel_rfl
def IsRow (k : IntKind) (w : World) (a : Option Addr) (len cap : Nat) (zs : List Int) : Prop :=
  (a = none ∧ len = 0 ∧ cap = 0 ∧ zs = []) ∨
  ∃ x, a = some x ∧ len ≤ cap ∧ cap ≤ maxLen ∧ zs.length = cap ∧ (∀ i, i < zs.length → w.cell? (x.add i) = some (.int k (zs.getD i 0))) ∧ ∀ n ∈ zs, (Lit.int k n).wf = true
open Go.Proofs.Ytkkgacoecimlpaa.X (k31 S31)
theorem opens31 : Open.Opens Try.prog k31 31 (fun x => (Lit.int .i64 x.f0).wf = true ∧ x.f1.size ≤ 140737488351232 ∧ (Lit.int .i64 x.f2).wf = true) := by
  intro H enc w base spare held fuel cs x h hw
  obtain ⟨xs, n, rfl, rfl, hl, hs, hf⟩ := DataW.trod_struct Try.underlying31 h
  have hl : cs.length = 3 := hl.trans (by kernel_rfl)
  obtain ⟨c0, c1, c2, rfl⟩ : ∃ c0 c1 c2, cs = [c0, c1, c2] := by
    match cs, hl with
    | [c0, c1, c2], _ => exact ⟨c0, c1, c2, rfl⟩
  have hs : xs.length = 3 := hs.trans (by rfl)
  obtain ⟨x0, x1, x2, rfl⟩ : ∃ x0 x1 x2, xs = [x0, x1, x2] := by
    match xs, hs with
    | [x0, x1, x2], _ => exact ⟨x0, x1, x2, rfl⟩
  have e0 : DataW.trod enc Try.prog w base spare held n 3 [c0] = some x0 := hf 0 _ rfl
  obtain ⟨a0, q0, g0⟩ := (Open.opens_int Try.underlying3) H enc w base spare held n _ _ e0 (fun m hm => hw m (Open.weights_agg Try.underlying31 (j := 0) rfl rfl m hm))
  have e1 : DataW.trod enc Try.prog w base spare held n 9 [c1] = some x1 := hf 1 _ rfl
  obtain ⟨a1, q1, g1⟩ := (Open.opens_string Try.underlying9) H enc w base spare held n _ _ e1 (fun m hm => hw m (Open.weights_agg Try.underlying31 (j := 1) rfl rfl m hm))
  have e2 : DataW.trod enc Try.prog w base spare held n 3 [c2] = some x2 := hf 2 _ rfl
  obtain ⟨a2, q2, g2⟩ := (Open.opens_int Try.underlying3) H enc w base spare held n _ _ e2 (fun m hm => hw m (Open.weights_agg Try.underlying31 (j := 2) rfl rfl m hm))
  exact ⟨⟨a0, a1, a2⟩, ⟨[c0], [c1, c2], rfl, q0, ⟨[c1], [c2], rfl, q1, q2⟩⟩, g0, g1, g2⟩
set_option maxRecDepth 100000 in
theorem lifted (os : Os) (started : os.Started) (H : Type) (enc : TypeId × Value → H) :
    ReturnsInHanded {} Try.checked os 9 .any (Rows.tokenWriteSpec.pre6 enc Try.prog Try.f9 Rows.tokenWriteRow.domain false) (Rows.tokenWriteSpec.post enc Try.prog Try.f9 false true false false) := by
  refine returnsInHanded_of_change_sized (C := Try.checked) own started (by kernel_rfl) Try.func9
    (ChangeSpec.witness6 (enc := enc) (C := Try.checked) false ⟨#[], #[.slice none 0 0], []⟩ 8 (by kernel_rfl) (by kernel_rfl) (by kernel_rfl) (by kernel_rfl)) ?_
  intro W base args ds gs before hval0 hW hcnd hsz0 _
  have hsz : (DataW.weightsEach Try.prog (Try.f9.params.toList ++ Rows.tokenWriteSpec.plain.varTypes Try.prog) (ds ++ gs)).all (· ≤ reachBytes) = true := hsz0
  have hval : ∀ (j : Nat) t v, Try.f9.params[j]? = some t → args[j]? = some v → Value.okWide Try.prog W .any base t v := hval0
  have hW' := hW
  obtain ⟨p, q, hA0, hV, rfl, hfz, hnd⟩ := hW
  have hA : DataW.TrodAll enc Try.prog W 0 (fun _ => true) true Try.f9.params.toList args.toList ds p := hA0
  rw [Try.params9] at hA hval hsz
  obtain ⟨v0, vs0, d0, ds0, p0, q0, hargs, rfl, rfl, h0, r0⟩ := trodAll_cons hA
  obtain ⟨rfl, rfl, rfl⟩ := trodAll_nil r0
  obtain rfl : args = #[v0] := by cases args; simp_all
  obtain ⟨rfl, rfl⟩ := trodVars_none hV
  obtain ⟨a0, len0, cap0, rfl⟩ := okWide_slice Try.underlying26 (hval 0 26 v0 rfl rfl)
  have k0 := h0
  have lt0 : ∀ x ∈ p0, x.block < W.heap.size := by obtain ⟨m, hm⟩ := k0; exact DataW.trod_lt m _ _ _ hm
  obtain ⟨l0, ko0, hm0, y0, hw0⟩ := Open.opens_arg (Open.opens_slice (d := k31) (B := 32) Try.underlying26 (by kernel_rfl) (by kernel_rfl) opens31) hsz (j := 0) (t := 26) rfl rfl h0
  obtain ⟨A0, c0, e0, hc0, hr0⟩ := ko0
  simp [Value.cells] at e0
  obtain ⟨rfl, rfl, rfl⟩ := e0
  clear hA0 hval0 hsz0 hsz
  refine (X.ancepslaw05_TokenWrite.walk Pure.TokenWrite a0 cap0 l0 W hr0 hc0 hm0 y0 hw0).mono fun e W' ⟨he, bel⟩ => ?_
  subst he
  exact ⟨_, rfl, _, _, _, [], _, [], hW', trodAll_mk1 (shut_bool Try.underlying4 _), (trodAll_cons_mk (Below.trod laidOut (by kernel_rfl) (of_decide_eq_true (by kernel_rfl)) k0 bel lt0) trodAll_mk0), rfl, bel.frame _, fun h => by cases h⟩
theorem over : Rows.tokenWriteRow.holds Try.pinned (OpenSpec.ofChange Rows.tokenWriteSpec) :=
  OpenClaim.holds_of_wide 9 Try.f9 rfl rfl rfl rfl rfl rfl rfl ⟨rfl, rfl, rfl, rfl, rfl⟩ rfl rfl rfl rfl rfl (by kernel_rfl) Try.func9 (by kernel_rfl)
    (of_decide_eq_true (by kernel_rfl)) (by unfold Func.isWrapper; first | (rw [if_pos (by decide +kernel)]; kernel_rfl) | (rw [if_neg (by decide +kernel)]; exact ⟨rfl, rfl⟩))
    (fun os started H enc _ => lifted os started H enc)
theorem proved : Rows.TokenWriteSaid := over
#print axioms proved
end Go.Proofs.Ytkkgacoecimlpaa.tokenWrite
namespace Go.Proofs.Ytkkgacoecimlpaa
/-- The row, under a short name, for the claim. -/
theorem tokenWrite_holds : Rows.TokenWriteSaid := tokenWrite.proved
end Go.Proofs.Ytkkgacoecimlpaa
