-- printed by this session's xprint.py: out of the translation, by the kit's print with additions; Lean checks it
import Derived.Test.YtdaooagikacboaaRows
import Derived.Test.YtdaooagikacboaaX11
import Derived.Test.YtdaooagikacboaaPureWordlistTree
import Derived.WalkKit
import Derived.ProofKit
import Derived.OpenShut
import Derived.ShutString
import Derived.ChangeOld
import Derived.Below
import Derived.SizedLaws
import Derived.Test.YtdaooagikacboaaWSized
import Derived.Test.YtdaooagikacboaaXO
namespace Go.Proofs.Ytdaooagikacboaa.wordlistTree
open Go.ChangeShapes Go.WideShapes Go.ChangeAt Go.RowKit
open Go.ChangeMaps (open_string shut_string)
set_option linter.unusedVariables false
theorem own : ownKnob Try.prog.godebug = none := by kernel_rfl
theorem laidOut : laidOutB Try.prog = true := by kernel_rfl
def IsRow (k : IntKind) (w : World) (a : Option Addr) (len cap : Nat) (zs : List Int) : Prop :=
  (a = none ∧ len = 0 ∧ cap = 0 ∧ zs = []) ∨
  ∃ x, a = some x ∧ len ≤ cap ∧ cap ≤ maxLen ∧ zs.length = cap ∧ (∀ i, i < zs.length → w.cell? (x.add i) = some (.int k (zs.getD i 0))) ∧ ∀ n ∈ zs, (Lit.int k n).wf = true
structure S26 where
  f0 : List ByteArray
def k26 : Go.Proofs.YtdaooagikacboaaW.PrintWords.Kd S26 := Go.Proofs.YtdaooagikacboaaW.PrintWords.Kd.iso (Go.Proofs.YtdaooagikacboaaW.PrintWords.Kd.slice 9 Go.Proofs.YtdaooagikacboaaW.PrintWords.Kd.string) (fun x : S26 => x.f0)
theorem k26_open {w : World} {x : S26} {cs : List Value} (h : k26.K w x cs) : ∃ A0 c0, cs = [.slice A0 x.f0.length c0] ∧ x.f0.length ≤ c0 ∧ (Go.Proofs.YtdaooagikacboaaW.PrintWords.Kd.string).C w A0 x.f0.length x.f0 := by
  obtain ⟨A0, c0, rfl, l0, g0⟩ := h
  exact ⟨A0, c0, rfl, l0, g0⟩
set_option maxRecDepth 100000 in
theorem opens26 : Open.Opens Try.prog k26 26 (fun x => (x.f0.length ≤ maxLen ∧ x.f0.length * 16 ≤ 140737488351232 ∧ ∀ y0 ∈ x.f0, y0.size ≤ 140737488351232)) := by
  intro H enc w base spare held fuel cs x h hw
  obtain ⟨xs, n, rfl, rfl, hl, hs, hf⟩ := DataW.trod_struct Try.underlying26 h
  have hl : cs.length = 1 := hl.trans (by kernel_rfl)
  obtain ⟨c0, rfl⟩ : ∃ c0, cs = [c0] := by
    match cs, hl with
    | [c0], _ => exact ⟨c0, rfl⟩
  have hs : xs.length = 1 := hs.trans (by rfl)
  obtain ⟨x0, rfl⟩ : ∃ x0, xs = [x0] := by
    match xs, hs with
    | [x0], _ => exact ⟨x0, rfl⟩
  have e0 : DataW.trod enc Try.prog w base spare held n 24 [c0] = some x0 := hf 0 _ rfl
  obtain ⟨a0, q0, g0⟩ := (Open.opens_slice (d := Go.Proofs.YtdaooagikacboaaW.PrintWords.Kd.string) (B := 16) Try.underlying24 (by kernel_rfl) (by kernel_rfl) (Open.opens_string Try.underlying9)) H enc w base spare held n _ _ e0 (fun m hm => hw m (Open.weights_agg Try.underlying26 (j := 0) rfl rfl m hm))
  exact ⟨⟨a0⟩, q0, g0⟩
set_option maxRecDepth 100000 in
theorem lifted (os : Os) (started : os.Started) (H : Type) (enc : TypeId × Value → H) :
    ReturnsInHanded {} Try.checked os 5 .any (Rows.wordlistTreeSpec.pre6 enc Try.prog Try.f5 Rows.wordlistTreeRow.domain false) (Rows.wordlistTreeSpec.post enc Try.prog Try.f5 false true false false) := by
  refine returnsInHanded_of_change_sized (C := Try.checked) own started (by kernel_rfl) Try.func5
    (ChangeSpec.witness6 (enc := enc) (C := Try.checked) false ⟨#[], #[.agg #[.slice none 0 0]], []⟩ 8 (by kernel_rfl) (by kernel_rfl) (by kernel_rfl) (by kernel_rfl)) ?_
  intro W base args ds gs before hval0 hW hcnd hsz0 _
  have hsz : (DataW.weightsEach Try.prog (Try.f5.params.toList ++ Rows.wordlistTreeSpec.plain.varTypes Try.prog) (ds ++ gs)).all (· ≤ reachBytes) = true := hsz0
  have hval : ∀ (j : Nat) t v, Try.f5.params[j]? = some t → args[j]? = some v → Value.okWide Try.prog W .any base t v := hval0
  have hW' := hW
  obtain ⟨p, q, hA0, hV, rfl, hfz, hnd⟩ := hW
  have hA : DataW.TrodAll enc Try.prog W 0 (fun _ => true) true Try.f5.params.toList args.toList ds p := hA0
  rw [Try.params5] at hA hval hsz
  obtain ⟨v0, vs0, d0, ds0, p0, q0, hargs, rfl, rfl, h0, r0⟩ := trodAll_cons hA
  obtain ⟨rfl, rfl, rfl⟩ := trodAll_nil r0
  obtain rfl : args = #[v0] := by cases args; simp_all
  obtain ⟨rfl, rfl⟩ := trodVars_none hV
  obtain ⟨cs0, rfl, _⟩ := okWide_struct Try.underlying26 (hval 0 26 v0 rfl rfl)
  have k0 := h0
  have lt0 : ∀ x ∈ p0, x.block < W.heap.size := by obtain ⟨m, hm⟩ := k0; exact DataW.trod_lt m _ _ _ hm
  obtain ⟨s0, ko0, hw0⟩ := Open.opens_arg opens26 hsz (j := 0) (t := 26) rfl rfl h0
  obtain ⟨A0_0, c0_0, ek0, hc0_0, hr0_0⟩ := k26_open ko0
  obtain rfl : cs0 = #[.slice A0_0 s0.f0.length c0_0] := by (apply Array.ext'; simpa [Value.cells] using ek0)
  obtain ⟨hm0_0, y0_0, hw0_0⟩ := hw0
  clear hA0 hval0 hsz0 hsz
  refine (X.ancepslaw54_WordlistTree.walk Pure.WordlistTree A0_0 c0_0 s0.f0 W hr0_0 hc0_0 hm0_0 y0_0 hw0_0).mono fun e W' ⟨he, bel⟩ => ?_
  subst he
  exact ⟨_, rfl, _, _, _, [], _, [], hW', trodAll_mk1 (shut_bool Try.underlying4 _), (trodAll_cons_mk (Below.trod laidOut (by kernel_rfl) (of_decide_eq_true (by kernel_rfl)) k0 bel lt0) trodAll_mk0), rfl, bel.frame _, fun h => by cases h⟩
theorem over : Rows.wordlistTreeRow.holds Try.pinned (OpenSpec.ofChange Rows.wordlistTreeSpec) :=
  OpenClaim.holds_of_wide 5 Try.f5 rfl rfl rfl rfl rfl rfl rfl ⟨rfl, rfl, rfl, rfl, rfl⟩ rfl rfl rfl rfl rfl (by kernel_rfl) Try.func5 (by kernel_rfl)
    (of_decide_eq_true (by kernel_rfl)) (by unfold Func.isWrapper; first | (rw [if_pos (by decide +kernel)]; kernel_rfl) | (rw [if_neg (by decide +kernel)]; exact ⟨rfl, rfl⟩))
    (fun os started H enc _ => lifted os started H enc)
theorem proved : Rows.WordlistTreeSaid := over
#print axioms proved
end Go.Proofs.Ytdaooagikacboaa.wordlistTree
namespace Go.Proofs.Ytdaooagikacboaa
/-- The row, under a short name, for the claim. -/
theorem wordlistTree_holds : Rows.WordlistTreeSaid := wordlistTree.proved
end Go.Proofs.Ytdaooagikacboaa
