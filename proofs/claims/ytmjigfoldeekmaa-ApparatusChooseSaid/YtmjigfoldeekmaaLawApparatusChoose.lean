-- printed by this session's xprint.py: out of the translation, by the kit's print with additions; Lean checks it
import Derived.Test.YtmjigfoldeekmaaRows
import Derived.Test.YtmjigfoldeekmaaX20
import Derived.Test.YtmjigfoldeekmaaPureApparatusChoose
import Derived.WalkKit
import Derived.ProofKit
import Derived.OpenShut
import Derived.ShutString
import Derived.ChangeOld
import Derived.Below
import Derived.SizedLaws
import Derived.Test.YtmjigfoldeekmaaWSized
import Derived.Test.YtmjigfoldeekmaaXO
namespace Go.Proofs.Ytmjigfoldeekmaa.apparatusChoose
open Go.ChangeShapes Go.WideShapes Go.ChangeAt Go.RowKit
open Go.ChangeMaps (open_string shut_string)
set_option linter.unusedVariables false
theorem own : ownKnob Try.prog.godebug = none := by kernel_rfl
theorem laidOut : laidOutB Try.prog = true := by kernel_rfl
def IsRow (k : IntKind) (w : World) (a : Option Addr) (len cap : Nat) (zs : List Int) : Prop :=
  (a = none ∧ len = 0 ∧ cap = 0 ∧ zs = []) ∨
  ∃ x, a = some x ∧ len ≤ cap ∧ cap ≤ maxLen ∧ zs.length = cap ∧ (∀ i, i < zs.length → w.cell? (x.add i) = some (.int k (zs.getD i 0))) ∧ ∀ n ∈ zs, (Lit.int k n).wf = true
open Go.Proofs.Ytmjigfoldeekmaa.X (k67 S67 k67_open k65 S65 k65_open)
set_option maxRecDepth 100000 in
theorem opens67 : Open.Opens Try.prog k67 67 (fun x => x.f0.size ≤ 140737488351232 ∧ (Lit.int .i64 x.f1).wf = true) := by
  intro H enc w base spare held fuel cs x h hw
  obtain ⟨xs, n, rfl, rfl, hl, hs, hf⟩ := DataW.trod_struct Try.underlying67 h
  have hl : cs.length = 2 := hl.trans (by kernel_rfl)
  obtain ⟨c0, c1, rfl⟩ : ∃ c0 c1, cs = [c0, c1] := by
    match cs, hl with
    | [c0, c1], _ => exact ⟨c0, c1, rfl⟩
  have hs : xs.length = 2 := hs.trans (by rfl)
  obtain ⟨x0, x1, rfl⟩ : ∃ x0 x1, xs = [x0, x1] := by
    match xs, hs with
    | [x0, x1], _ => exact ⟨x0, x1, rfl⟩
  have e0 : DataW.trod enc Try.prog w base spare held n 9 [c0] = some x0 := hf 0 _ rfl
  obtain ⟨a0, q0, g0⟩ := (Open.opens_string Try.underlying9) H enc w base spare held n _ _ e0 (fun m hm => hw m (Open.weights_agg Try.underlying67 (j := 0) rfl rfl m hm))
  have e1 : DataW.trod enc Try.prog w base spare held n 3 [c1] = some x1 := hf 1 _ rfl
  obtain ⟨a1, q1, g1⟩ := (Open.opens_int Try.underlying3) H enc w base spare held n _ _ e1 (fun m hm => hw m (Open.weights_agg Try.underlying67 (j := 1) rfl rfl m hm))
  exact ⟨⟨a0, a1⟩, ⟨[c0], [c1], rfl, q0, q1⟩, g0, g1⟩
set_option maxRecDepth 100000 in
theorem opens65 : Open.Opens Try.prog k65 65 (fun x => x.f0.size ≤ 140737488351232 ∧ (x.f1.length ≤ maxLen ∧ x.f1.length * 24 ≤ 140737488351232 ∧ ∀ y0 ∈ x.f1, y0.f0.size ≤ 140737488351232 ∧ (Lit.int .i64 y0.f1).wf = true)) := by
  intro H enc w base spare held fuel cs x h hw
  obtain ⟨xs, n, rfl, rfl, hl, hs, hf⟩ := DataW.trod_struct Try.underlying65 h
  have hl : cs.length = 2 := hl.trans (by kernel_rfl)
  obtain ⟨c0, c1, rfl⟩ : ∃ c0 c1, cs = [c0, c1] := by
    match cs, hl with
    | [c0, c1], _ => exact ⟨c0, c1, rfl⟩
  have hs : xs.length = 2 := hs.trans (by rfl)
  obtain ⟨x0, x1, rfl⟩ : ∃ x0 x1, xs = [x0, x1] := by
    match xs, hs with
    | [x0, x1], _ => exact ⟨x0, x1, rfl⟩
  have e0 : DataW.trod enc Try.prog w base spare held n 9 [c0] = some x0 := hf 0 _ rfl
  obtain ⟨a0, q0, g0⟩ := (Open.opens_string Try.underlying9) H enc w base spare held n _ _ e0 (fun m hm => hw m (Open.weights_agg Try.underlying65 (j := 0) rfl rfl m hm))
  have e1 : DataW.trod enc Try.prog w base spare held n 63 [c1] = some x1 := hf 1 _ rfl
  obtain ⟨a1, q1, g1⟩ := (Open.opens_slice (d := k67) (B := 24) Try.underlying63 (by kernel_rfl) (by kernel_rfl) opens67) H enc w base spare held n _ _ e1 (fun m hm => hw m (Open.weights_agg Try.underlying65 (j := 1) rfl rfl m hm))
  exact ⟨⟨a0, a1⟩, ⟨[c0], [c1], rfl, q0, q1⟩, g0, g1⟩
structure S42 where
  f0 : List ByteArray
  f1 : List (S65)
def k42 : Go.Proofs.YtmjigfoldeekmaaW.PrintWords.Kd S42 := Go.Proofs.YtmjigfoldeekmaaW.PrintWords.Kd.iso (Go.Proofs.YtmjigfoldeekmaaW.PrintWords.Kd.pair (Go.Proofs.YtmjigfoldeekmaaW.PrintWords.Kd.slice 9 Go.Proofs.YtmjigfoldeekmaaW.PrintWords.Kd.string) (Go.Proofs.YtmjigfoldeekmaaW.PrintWords.Kd.slice 65 k65)) (fun x : S42 => (x.f0, x.f1))
theorem k42_open {w : World} {x : S42} {cs : List Value} (h : k42.K w x cs) : ∃ A0 c0 A1 c1, cs = [.slice A0 x.f0.length c0, .slice A1 x.f1.length c1] ∧ x.f0.length ≤ c0 ∧ (Go.Proofs.YtmjigfoldeekmaaW.PrintWords.Kd.string).C w A0 x.f0.length x.f0 ∧ x.f1.length ≤ c1 ∧ (k65).C w A1 x.f1.length x.f1 := by
  obtain ⟨_, _, rfl, ⟨A0, c0, rfl, l0, g0⟩, ⟨A1, c1, rfl, l1, g1⟩⟩ := h
  exact ⟨A0, c0, A1, c1, rfl, l0, g0, l1, g1⟩
set_option maxRecDepth 100000 in
theorem opens42 : Open.Opens Try.prog k42 42 (fun x => (x.f0.length ≤ maxLen ∧ x.f0.length * 16 ≤ 140737488351232 ∧ ∀ y0 ∈ x.f0, y0.size ≤ 140737488351232) ∧ (x.f1.length ≤ maxLen ∧ x.f1.length * 40 ≤ 140737488351232 ∧ ∀ y0 ∈ x.f1, y0.f0.size ≤ 140737488351232 ∧ (y0.f1.length ≤ maxLen ∧ y0.f1.length * 24 ≤ 140737488351232 ∧ ∀ y1 ∈ y0.f1, y1.f0.size ≤ 140737488351232 ∧ (Lit.int .i64 y1.f1).wf = true))) := by
  intro H enc w base spare held fuel cs x h hw
  obtain ⟨xs, n, rfl, rfl, hl, hs, hf⟩ := DataW.trod_struct Try.underlying42 h
  have hl : cs.length = 2 := hl.trans (by kernel_rfl)
  obtain ⟨c0, c1, rfl⟩ : ∃ c0 c1, cs = [c0, c1] := by
    match cs, hl with
    | [c0, c1], _ => exact ⟨c0, c1, rfl⟩
  have hs : xs.length = 2 := hs.trans (by rfl)
  obtain ⟨x0, x1, rfl⟩ : ∃ x0 x1, xs = [x0, x1] := by
    match xs, hs with
    | [x0, x1], _ => exact ⟨x0, x1, rfl⟩
  have e0 : DataW.trod enc Try.prog w base spare held n 34 [c0] = some x0 := hf 0 _ rfl
  obtain ⟨a0, q0, g0⟩ := (Open.opens_slice (d := Go.Proofs.YtmjigfoldeekmaaW.PrintWords.Kd.string) (B := 16) Try.underlying34 (by kernel_rfl) (by kernel_rfl) (Open.opens_string Try.underlying9)) H enc w base spare held n _ _ e0 (fun m hm => hw m (Open.weights_agg Try.underlying42 (j := 0) rfl rfl m hm))
  have e1 : DataW.trod enc Try.prog w base spare held n 40 [c1] = some x1 := hf 1 _ rfl
  obtain ⟨a1, q1, g1⟩ := (Open.opens_slice (d := k65) (B := 40) Try.underlying40 (by kernel_rfl) (by kernel_rfl) opens65) H enc w base spare held n _ _ e1 (fun m hm => hw m (Open.weights_agg Try.underlying42 (j := 1) rfl rfl m hm))
  exact ⟨⟨a0, a1⟩, ⟨[c0], [c1], rfl, q0, q1⟩, g0, g1⟩
set_option maxRecDepth 100000 in
theorem lifted (os : Os) (started : os.Started) (H : Type) (enc : TypeId × Value → H) :
    ReturnsInHanded {} Try.checked os 7 .any (Rows.apparatusChooseSpec.pre6 enc Try.prog Try.f7 Rows.apparatusChooseRow.domain false) (Rows.apparatusChooseSpec.post enc Try.prog Try.f7 false true false false) := by
  refine returnsInHanded_of_change_sized (C := Try.checked) own started (by kernel_rfl) Try.func7
    (ChangeSpec.witness6 (enc := enc) (C := Try.checked) false ⟨#[], #[.agg #[.slice none 0 0, .slice none 0 0], .int .i64 0, .int .i64 0], []⟩ 8 (by kernel_rfl) (by kernel_rfl) (by kernel_rfl) (by kernel_rfl)) ?_
  intro W base args ds gs before hval0 hW hcnd hsz0 _
  have hsz : (DataW.weightsEach Try.prog (Try.f7.params.toList ++ Rows.apparatusChooseSpec.plain.varTypes Try.prog) (ds ++ gs)).all (· ≤ reachBytes) = true := hsz0
  have hval : ∀ (j : Nat) t v, Try.f7.params[j]? = some t → args[j]? = some v → Value.okWide Try.prog W .any base t v := hval0
  have hW' := hW
  obtain ⟨p, q, hA0, hV, rfl, hfz, hnd⟩ := hW
  have hA : DataW.TrodAll enc Try.prog W 0 (fun _ => true) true Try.f7.params.toList args.toList ds p := hA0
  rw [Try.params7] at hA hval hsz
  obtain ⟨v0, vs0, d0, ds0, p0, q0, hargs, rfl, rfl, h0, r0⟩ := trodAll_cons hA
  obtain ⟨v1, vs1, d1, ds1, p1, q1, rfl, rfl, rfl, h1, r1⟩ := trodAll_cons r0
  obtain ⟨v2, vs2, d2, ds2, p2, q2, rfl, rfl, rfl, h2, r2⟩ := trodAll_cons r1
  obtain ⟨rfl, rfl, rfl⟩ := trodAll_nil r2
  obtain rfl : args = #[v0, v1, v2] := by cases args; simp_all
  obtain ⟨rfl, rfl⟩ := trodVars_none hV
  obtain ⟨cs0, rfl, _⟩ := okWide_struct Try.underlying42 (hval 0 42 v0 rfl rfl)
  have k0 := h0
  have lt0 : ∀ x ∈ p0, x.block < W.heap.size := by obtain ⟨m, hm⟩ := k0; exact DataW.trod_lt m _ _ _ hm
  obtain ⟨s0, ko0, hw0⟩ := Open.opens_arg opens42 hsz (j := 0) (t := 42) rfl rfl h0
  obtain ⟨A0_0, c0_0, A0_1, c0_1, ek0, hc0_0, hr0_0, hc0_1, hr0_1⟩ := k42_open ko0
  obtain rfl : cs0 = #[.slice A0_0 s0.f0.length c0_0, .slice A0_1 s0.f1.length c0_1] := by (apply Array.ext'; simpa [Value.cells] using ek0)
  obtain ⟨⟨hm0_0, y0_0, hw0_0⟩, ⟨hm0_1, y0_1, hw0_1⟩⟩ := hw0
  obtain ⟨a1, rfl, rfl, rfl, w1⟩ := open_int Try.underlying3 (hval 1 3 v1 rfl rfl) h1
  obtain ⟨a2, rfl, rfl, rfl, w2⟩ := open_int Try.underlying3 (hval 2 3 v2 rfl rfl) h2
  clear hA0 hval0 hsz0 hsz
  refine (X.ancepslaw57_ApparatusChoose.walk Pure.ApparatusChoose A0_0 c0_0 s0.f0 A0_1 c0_1 s0.f1 a1 a2 W hr0_0 hc0_0 hm0_0 y0_0 hw0_0 hr0_1 hc0_1 hm0_1 y0_1 hw0_1 w1 w2).mono fun e W' ⟨he, bel⟩ => ?_
  subst he
  exact ⟨_, rfl, _, _, _, [], _, [], hW', trodAll_mk1 (shut_bool Try.underlying4 _), (trodAll_cons_mk (Below.trod laidOut (by kernel_rfl) (of_decide_eq_true (by kernel_rfl)) k0 bel lt0) (trodAll_cons_mk (shut_int Try.underlying3 w1) (trodAll_cons_mk (shut_int Try.underlying3 w2) trodAll_mk0))), rfl, bel.frame _, fun h => by cases h⟩
theorem over : Rows.apparatusChooseRow.holds Try.pinned (OpenSpec.ofChange Rows.apparatusChooseSpec) :=
  OpenClaim.holds_of_wide 7 Try.f7 rfl rfl rfl rfl rfl rfl rfl ⟨rfl, rfl, rfl, rfl, rfl⟩ rfl rfl rfl rfl rfl (by kernel_rfl) Try.func7 (by kernel_rfl)
    (of_decide_eq_true (by kernel_rfl)) (by unfold Func.isWrapper; first | (rw [if_pos (by decide +kernel)]; kernel_rfl) | (rw [if_neg (by decide +kernel)]; exact ⟨rfl, rfl⟩))
    (fun os started H enc _ => lifted os started H enc)
theorem proved : Rows.ApparatusChooseSaid := over
#print axioms proved
end Go.Proofs.Ytmjigfoldeekmaa.apparatusChoose
namespace Go.Proofs.Ytmjigfoldeekmaa
/-- The row, under a short name, for the claim. -/
theorem apparatusChoose_holds : Rows.ApparatusChooseSaid := apparatusChoose.proved
end Go.Proofs.Ytmjigfoldeekmaa
