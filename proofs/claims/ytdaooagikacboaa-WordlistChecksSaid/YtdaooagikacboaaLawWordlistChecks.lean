-- printed by this session's xprint.py: out of the translation, by the kit's print with additions; Lean checks it
import Derived.Test.YtdaooagikacboaaRows
import Derived.Test.YtdaooagikacboaaX11
import Derived.Test.YtdaooagikacboaaPureWordlistChecks
import Derived.WalkKit
import Derived.ProofKit
import Derived.OpenShut
import Derived.ShutString
import Derived.ChangeOld
import Derived.Below
import Derived.SizedLaws
import Derived.Test.YtdaooagikacboaaWSized
import Derived.Test.YtdaooagikacboaaXO
namespace Go.Proofs.Ytdaooagikacboaa.wordlistChecks
open Go.ChangeShapes Go.WideShapes Go.ChangeAt Go.RowKit
open Go.ChangeMaps (open_string shut_string)
set_option linter.unusedVariables false
theorem own : ownKnob Try.prog.godebug = none := by kernel_rfl
theorem laidOut : laidOutB Try.prog = true := by kernel_rfl
def IsRow (k : IntKind) (w : World) (a : Option Addr) (len cap : Nat) (zs : List Int) : Prop :=
  (a = none ∧ len = 0 ∧ cap = 0 ∧ zs = []) ∨
  ∃ x, a = some x ∧ len ≤ cap ∧ cap ≤ maxLen ∧ zs.length = cap ∧ (∀ i, i < zs.length → w.cell? (x.add i) = some (.int k (zs.getD i 0))) ∧ ∀ n ∈ zs, (Lit.int k n).wf = true
open Go.Proofs.Ytdaooagikacboaa.X (k46 S46 k46_open)
structure S26 where
  f0 : List ByteArray
def k26 : Go.Proofs.YtdaooagikacboaaW.PrintWords.Kd S26 := Go.Proofs.YtdaooagikacboaaW.PrintWords.Kd.iso (Go.Proofs.YtdaooagikacboaaW.PrintWords.Kd.slice 9 Go.Proofs.YtdaooagikacboaaW.PrintWords.Kd.string) (fun x : S26 => x.f0)
theorem k26_open {w : World} {x : S26} {cs : List Value} (h : k26.K w x cs) : ∃ A0 c0, cs = [.slice A0 x.f0.length c0] ∧ x.f0.length ≤ c0 ∧ (Go.Proofs.YtdaooagikacboaaW.PrintWords.Kd.string).C w A0 x.f0.length x.f0 := by
  obtain ⟨A0, c0, rfl, l0, g0⟩ := h
  exact ⟨A0, c0, rfl, l0, g0⟩
set_option maxRecDepth 100000 in
theorem opens26 : Open.Opens Try.prog k26 26 (fun x => (x.f0.length ≤ maxLen ∧ x.f0.length * 16 ≤ 140737488351232 ∧ ∀ y0 ∈ x.f0, y0.size ≤ 140737488351232)) := by
  intro H enc w base spare held fuel cs x h hw
  obtain ⟨xs, n, rfl, rfl, hl, hs, hf⟩ := DataW.trod_struct Try.underlying26 h
  have hl : cs.length = 1 := hl.trans (by kernel_rfl)
  obtain ⟨c0, rfl⟩ : ∃ c0, cs = [c0] := by
    match cs, hl with
    | [c0], _ => exact ⟨c0, rfl⟩
  have hs : xs.length = 1 := hs.trans (by rfl)
  obtain ⟨x0, rfl⟩ : ∃ x0, xs = [x0] := by
    match xs, hs with
    | [x0], _ => exact ⟨x0, rfl⟩
  have e0 : DataW.trod enc Try.prog w base spare held n 24 [c0] = some x0 := hf 0 _ rfl
  obtain ⟨a0, q0, g0⟩ := (Open.opens_slice (d := Go.Proofs.YtdaooagikacboaaW.PrintWords.Kd.string) (B := 16) Try.underlying24 (by kernel_rfl) (by kernel_rfl) (Open.opens_string Try.underlying9)) H enc w base spare held n _ _ e0 (fun m hm => hw m (Open.weights_agg Try.underlying26 (j := 0) rfl rfl m hm))
  exact ⟨⟨a0⟩, q0, g0⟩
set_option maxRecDepth 100000 in
theorem opens46 : Open.Opens Try.prog k46 46 (fun x => (Lit.int .i64 x.f0).wf = true ∧ True ∧ (x.f2.length ≤ maxLen ∧ x.f2.length * 8 ≤ 140737488351232 ∧ ∀ y0 ∈ x.f2, (Lit.int .i64 y0).wf = true)) := by
  intro H enc w base spare held fuel cs x h hw
  obtain ⟨xs, n, rfl, rfl, hl, hs, hf⟩ := DataW.trod_struct Try.underlying46 h
  have hl : cs.length = 3 := hl.trans (by kernel_rfl)
  obtain ⟨c0, c1, c2, rfl⟩ : ∃ c0 c1 c2, cs = [c0, c1, c2] := by
    match cs, hl with
    | [c0, c1, c2], _ => exact ⟨c0, c1, c2, rfl⟩
  have hs : xs.length = 3 := hs.trans (by rfl)
  obtain ⟨x0, x1, x2, rfl⟩ : ∃ x0 x1 x2, xs = [x0, x1, x2] := by
    match xs, hs with
    | [x0, x1, x2], _ => exact ⟨x0, x1, x2, rfl⟩
  have e0 : DataW.trod enc Try.prog w base spare held n 3 [c0] = some x0 := hf 0 _ rfl
  obtain ⟨a0, q0, g0⟩ := (Open.opens_int Try.underlying3) H enc w base spare held n _ _ e0 (fun m hm => hw m (Open.weights_agg Try.underlying46 (j := 0) rfl rfl m hm))
  have e1 : DataW.trod enc Try.prog w base spare held n 4 [c1] = some x1 := hf 1 _ rfl
  obtain ⟨a1, q1, g1⟩ := (Open.opens_bool Try.underlying4) H enc w base spare held n _ _ e1 (fun m hm => hw m (Open.weights_agg Try.underlying46 (j := 1) rfl rfl m hm))
  have e2 : DataW.trod enc Try.prog w base spare held n 44 [c2] = some x2 := hf 2 _ rfl
  obtain ⟨a2, q2, g2⟩ := (Open.opens_slice (d := (Go.Proofs.YtdaooagikacboaaW.PrintWords.Kd.int .i64)) (B := 8) Try.underlying44 (by kernel_rfl) (by kernel_rfl) (Open.opens_int Try.underlying3)) H enc w base spare held n _ _ e2 (fun m hm => hw m (Open.weights_agg Try.underlying46 (j := 2) rfl rfl m hm))
  exact ⟨⟨a0, a1, a2⟩, ⟨[c0], [c1, c2], rfl, q0, ⟨[c1], [c2], rfl, q1, q2⟩⟩, g0, g1, g2⟩
set_option maxRecDepth 100000 in
theorem lifted (os : Os) (started : os.Started) (H : Type) (enc : TypeId × Value → H) :
    ReturnsInHanded {} Try.checked os 6 .any (Rows.wordlistChecksSpec.pre6 enc Try.prog Try.f6 Rows.wordlistChecksRow.domain false) (Rows.wordlistChecksSpec.post enc Try.prog Try.f6 false true false false) := by
  refine returnsInHanded_of_change_sized (C := Try.checked) own started (by kernel_rfl) Try.func6
    (ChangeSpec.witness6 (enc := enc) (C := Try.checked) false ⟨#[], #[.agg #[.slice none 0 0], .slice none 0 0], []⟩ 8 (by kernel_rfl) (by kernel_rfl) (by kernel_rfl) (by kernel_rfl)) ?_
  intro W base args ds gs before hval0 hW hcnd hsz0 _
  have hsz : (DataW.weightsEach Try.prog (Try.f6.params.toList ++ Rows.wordlistChecksSpec.plain.varTypes Try.prog) (ds ++ gs)).all (· ≤ reachBytes) = true := hsz0
  have hval : ∀ (j : Nat) t v, Try.f6.params[j]? = some t → args[j]? = some v → Value.okWide Try.prog W .any base t v := hval0
  have hW' := hW
  obtain ⟨p, q, hA0, hV, rfl, hfz, hnd⟩ := hW
  have hA : DataW.TrodAll enc Try.prog W 0 (fun _ => true) true Try.f6.params.toList args.toList ds p := hA0
  rw [Try.params6] at hA hval hsz
  obtain ⟨v0, vs0, d0, ds0, p0, q0, hargs, rfl, rfl, h0, r0⟩ := trodAll_cons hA
  obtain ⟨v1, vs1, d1, ds1, p1, q1, rfl, rfl, rfl, h1, r1⟩ := trodAll_cons r0
  obtain ⟨rfl, rfl, rfl⟩ := trodAll_nil r1
  obtain rfl : args = #[v0, v1] := by cases args; simp_all
  obtain ⟨rfl, rfl⟩ := trodVars_none hV
  obtain ⟨cs0, rfl, _⟩ := okWide_struct Try.underlying26 (hval 0 26 v0 rfl rfl)
  have k0 := h0
  have lt0 : ∀ x ∈ p0, x.block < W.heap.size := by obtain ⟨m, hm⟩ := k0; exact DataW.trod_lt m _ _ _ hm
  obtain ⟨s0, ko0, hw0⟩ := Open.opens_arg opens26 hsz (j := 0) (t := 26) rfl rfl h0
  obtain ⟨A0_0, c0_0, ek0, hc0_0, hr0_0⟩ := k26_open ko0
  obtain rfl : cs0 = #[.slice A0_0 s0.f0.length c0_0] := by (apply Array.ext'; simpa [Value.cells] using ek0)
  obtain ⟨hm0_0, y0_0, hw0_0⟩ := hw0
  obtain ⟨a1, len1, cap1, rfl⟩ := okWide_slice Try.underlying38 (hval 1 38 v1 rfl rfl)
  have k1 := h1
  have lt1 : ∀ x ∈ p1, x.block < W.heap.size := by obtain ⟨m, hm⟩ := k1; exact DataW.trod_lt m _ _ _ hm
  obtain ⟨l1, ko1, hm1, y1, hw1⟩ := Open.opens_arg (Open.opens_slice (d := k46) (B := 40) Try.underlying38 (by kernel_rfl) (by kernel_rfl) opens46) hsz (j := 1) (t := 38) rfl rfl h1
  obtain ⟨A1, c1, e1, hc1, hr1⟩ := ko1
  simp [Value.cells] at e1
  obtain ⟨rfl, rfl, rfl⟩ := e1
  clear hA0 hval0 hsz0 hsz
  refine (X.ancepslaw54_WordlistChecks.walk Pure.WordlistChecks A0_0 c0_0 s0.f0 a1 cap1 l1 W hr0_0 hc0_0 hm0_0 y0_0 hw0_0 hr1 hc1 hm1 y1 hw1).mono fun e W' ⟨he, bel⟩ => ?_
  subst he
  exact ⟨_, rfl, _, _, _, [], _, [], hW', trodAll_mk1 (shut_bool Try.underlying4 _), (trodAll_cons_mk (Below.trod laidOut (by kernel_rfl) (of_decide_eq_true (by kernel_rfl)) k0 bel lt0) (trodAll_cons_mk (Below.trod laidOut (by kernel_rfl) (of_decide_eq_true (by kernel_rfl)) k1 bel lt1) trodAll_mk0)), rfl, bel.frame _, fun h => by cases h⟩
theorem over : Rows.wordlistChecksRow.holds Try.pinned (OpenSpec.ofChange Rows.wordlistChecksSpec) :=
  OpenClaim.holds_of_wide 6 Try.f6 rfl rfl rfl rfl rfl rfl rfl ⟨rfl, rfl, rfl, rfl, rfl⟩ rfl rfl rfl rfl rfl (by kernel_rfl) Try.func6 (by kernel_rfl)
    (of_decide_eq_true (by kernel_rfl)) (by unfold Func.isWrapper; first | (rw [if_pos (by decide +kernel)]; kernel_rfl) | (rw [if_neg (by decide +kernel)]; exact ⟨rfl, rfl⟩))
    (fun os started H enc _ => lifted os started H enc)
theorem proved : Rows.WordlistChecksSaid := over
#print axioms proved
end Go.Proofs.Ytdaooagikacboaa.wordlistChecks
namespace Go.Proofs.Ytdaooagikacboaa
/-- The row, under a short name, for the claim. -/
theorem wordlistChecks_holds : Rows.WordlistChecksSaid := wordlistChecks.proved
end Go.Proofs.Ytdaooagikacboaa
