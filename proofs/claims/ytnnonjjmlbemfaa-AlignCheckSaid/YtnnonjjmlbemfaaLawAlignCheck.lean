-- printed by this session's xprint.py: out of the translation, by the kit's print with additions; Lean checks it
import Derived.Test.YtnnonjjmlbemfaaRows
import Derived.Test.YtnnonjjmlbemfaaXK
import Derived.Test.YtnnonjjmlbemfaaXO
import Derived.Test.YtnnonjjmlbemfaaPureAlignCheck
import Derived.WalkKit
import Derived.ProofKit
import Derived.OpenShut
import Derived.ShutString
import Derived.ChangeOld
import Derived.Below
import Derived.SizedLaws
import Derived.Test.YtnnonjjmlbemfaaWSized
namespace Go.Proofs.Ytnnonjjmlbemfaa.alignCheck
open Go.ChangeShapes Go.WideShapes Go.ChangeAt Go.RowKit
open Go.ChangeMaps (open_string shut_string)
set_option linter.unusedVariables false
theorem own : ownKnob Try.prog.godebug = none := by kernel_rfl
theorem laidOut : laidOutB Try.prog = true := by kernel_rfl
def IsRow (k : IntKind) (w : World) (a : Option Addr) (len cap : Nat) (zs : List Int) : Prop :=
  (a = none ∧ len = 0 ∧ cap = 0 ∧ zs = []) ∨
  ∃ x, a = some x ∧ len ≤ cap ∧ cap ≤ maxLen ∧ zs.length = cap ∧ (∀ i, i < zs.length → w.cell? (x.add i) = some (.int k (zs.getD i 0))) ∧ ∀ n ∈ zs, (Lit.int k n).wf = true
theorem okWide_array {P : Program} {w : World} {r : Reach} {base : Nat} {t e : TypeId} {n : Nat} {v : Value} (ht : P.underlying t = some (.array n e)) (h : Value.okWide P w r base t v) : ∃ cs, v = .agg cs := by
  simp only [Value.okWide, ht] at h
  obtain ⟨cs, h1, _⟩ := h
  exact ⟨cs, h1⟩
set_option maxRecDepth 100000 in
/-- two strings, opened -/
theorem open_two {H : Type} {enc : TypeId × Value → H} {w : World} {base : Nat} {spare : Nat → Bool} {held : Bool} {fuel : Nat} {cs : List Value} {x : DataW H × List MemPlace}
    (h : DataW.trod enc Try.prog w base spare held fuel 30 cs = some x) (hw : ∀ n ∈ x.1.weights Try.prog 30, n ≤ reachBytes) : ∃ p q : ByteArray, cs = [.string p, .string q] ∧ p.size ≤ 140737488351232 ∧ q.size ≤ 140737488351232 := by
  obtain ⟨xs, m, rfl, rfl, hl, hs, hf⟩ := DataW.trod_array Try.underlying30 h
  have hl : cs.length = 2 := hl.trans (by kernel_rfl)
  obtain ⟨c0, c1, rfl⟩ : ∃ c0 c1, cs = [c0, c1] := by
    match cs, hl with
    | [c0, c1], _ => exact ⟨c0, c1, rfl⟩
  obtain ⟨x0, x1, rfl⟩ : ∃ x0 x1, xs = [x0, x1] := by
    match xs, hs with
    | [x0, x1], _ => exact ⟨x0, x1, rfl⟩
  have hc : Try.prog.cellsOf 9 = 1 := by kernel_rfl
  simp only [DataW.weights, Try.underlying30] at hw
  have e0 := hf 0 (by decide)
  have e1 := hf 1 (by decide)
  rw [hc] at e0 e1
  obtain ⟨p, q0, g0⟩ := (Open.opens_string Try.underlying9) H enc w base spare held m _ _ (show DataW.trod enc Try.prog w base spare held m 9 [c0] = some x0 from e0) (fun m hm => hw m (Open.weights_all hm (by simp)))
  obtain ⟨q, q1, g1⟩ := (Open.opens_string Try.underlying9) H enc w base spare held m _ _ (show DataW.trod enc Try.prog w base spare held m 9 [c1] = some x1 from e1) (fun m hm => hw m (Open.weights_all hm (by simp)))
  have q0 : [c0] = [.string p] := q0
  have q1 : [c1] = [.string q] := q1
  obtain rfl : c0 = .string p := by simpa using q0
  obtain rfl : c1 = .string q := by simpa using q1
  exact ⟨p, q, rfl, g0, g1⟩
set_option maxRecDepth 100000 in
theorem lifted (os : Os) (started : os.Started) (H : Type) (enc : TypeId × Value → H) :
    ReturnsInHanded {} Try.checked os 5 .any (Rows.alignCheckSpec.pre6 enc Try.prog Try.f5 Rows.alignCheckRow.domain false) (Rows.alignCheckSpec.post enc Try.prog Try.f5 false true false false) := by
  refine returnsInHanded_of_change_sized (C := Try.checked) own started (by kernel_rfl) Try.func5
    (ChangeSpec.witness6 (enc := enc) (C := Try.checked) false ⟨#[], #[.agg #[.string ByteArray.empty, .string ByteArray.empty], .slice none 0 0, .slice none 0 0], []⟩ 8 (by kernel_rfl) (by kernel_rfl) (by kernel_rfl) (by kernel_rfl)) ?_
  intro W base args ds gs before hval0 hW hcnd hsz0 _
  have hsz : (DataW.weightsEach Try.prog (Try.f5.params.toList ++ Rows.alignCheckSpec.plain.varTypes Try.prog) (ds ++ gs)).all (· ≤ reachBytes) = true := hsz0
  have hval : ∀ (j : Nat) t v, Try.f5.params[j]? = some t → args[j]? = some v → Value.okWide Try.prog W .any base t v := hval0
  have hW' := hW
  obtain ⟨p, q, hA0, hV, rfl, hfz, hnd⟩ := hW
  have hA : DataW.TrodAll enc Try.prog W 0 (fun _ => true) true Try.f5.params.toList args.toList ds p := hA0
  rw [Try.params5] at hA hval hsz
  obtain ⟨v0, vs0, d0, ds0, p0, q0, hargs, rfl, rfl, h0, r0⟩ := trodAll_cons hA
  obtain ⟨v1, vs1, d1, ds1, p1, q1, rfl, rfl, rfl, h1, r1⟩ := trodAll_cons r0
  obtain ⟨v2, vs2, d2, ds2, p2, q2, rfl, rfl, rfl, h2, r2⟩ := trodAll_cons r1
  obtain ⟨rfl, rfl, rfl⟩ := trodAll_nil r2
  obtain rfl : args = #[v0, v1, v2] := by cases args; simp_all
  obtain ⟨rfl, rfl⟩ := trodVars_none hV
  obtain ⟨cs0, rfl⟩ := okWide_array Try.underlying30 (hval 0 30 v0 rfl rfl)
  have k0 := h0
  have lt0 : ∀ x ∈ p0, x.block < W.heap.size := by obtain ⟨m, hm⟩ := k0; exact DataW.trod_lt m _ _ _ hm
  obtain ⟨s1, s2, es, g1, g2⟩ : ∃ p q : ByteArray, (Value.agg cs0).cells.toList = [.string p, .string q] ∧ p.size ≤ 140737488351232 ∧ q.size ≤ 140737488351232 := by
    obtain ⟨m, hm⟩ := k0
    exact open_two hm (fun n hn => by
      simpa using List.all_eq_true.1 hsz n (DataW.weights_mem_each (j := 0) (t := 30) (d := d0) rfl rfl n hn))
  obtain rfl : cs0 = #[.string s1, .string s2] := by apply Array.ext'; simpa [Value.cells] using es
  obtain ⟨a1, len1, cap1, rfl⟩ := okWide_slice Try.underlying31 (hval 1 31 v1 rfl rfl)
  have k1 := h1
  have lt1 : ∀ x ∈ p1, x.block < W.heap.size := by obtain ⟨m, hm⟩ := k1; exact DataW.trod_lt m _ _ _ hm
  obtain ⟨l1, ko1, hm1, y1, hw1⟩ := Open.opens_arg (Open.opens_slice (d := Go.Proofs.YtnnonjjmlbemfaaW.PrintWords.Kd.int .i64) (B := 8) Try.underlying31 (by kernel_rfl) (by kernel_rfl) (Open.opens_int Try.underlying3)) hsz (j := 1) (t := 31) rfl rfl h1
  obtain ⟨A1, c1, e1, hc1, hr1⟩ := ko1
  simp [Value.cells] at e1
  obtain ⟨rfl, rfl, rfl⟩ := e1
  obtain ⟨a2, len2, cap2, rfl⟩ := okWide_slice Try.underlying32 (hval 2 32 v2 rfl rfl)
  have k2 := h2
  have lt2 : ∀ x ∈ p2, x.block < W.heap.size := by obtain ⟨m, hm⟩ := k2; exact DataW.trod_lt m _ _ _ hm
  obtain ⟨l2, ko2, hm2, y2, hw2⟩ := Open.opens_arg (Open.opens_slice (d := Go.Proofs.YtnnonjjmlbemfaaW.PrintWords.Kd.slice 3 (Go.Proofs.YtnnonjjmlbemfaaW.PrintWords.Kd.int .i64)) (B := 24) Try.underlying32 (by kernel_rfl) (by kernel_rfl) (Open.opens_slice (d := Go.Proofs.YtnnonjjmlbemfaaW.PrintWords.Kd.int .i64) (B := 8) Try.underlying31 (by kernel_rfl) (by kernel_rfl) (Open.opens_int Try.underlying3))) hsz (j := 2) (t := 32) rfl rfl h2
  obtain ⟨A2, c2, e2, hc2, hr2⟩ := ko2
  simp [Value.cells] at e2
  obtain ⟨rfl, rfl, rfl⟩ := e2
  clear hA0 hval0 hsz0 hsz
  refine (X.ancepslaw45_AlignCheck.walk Pure.AlignCheck s1 s2 a1 cap1 l1 a2 cap2 l2 W hr1 hc1 hr2 hc2).mono fun e W' ⟨he, bel⟩ => ?_
  subst he
  exact ⟨_, rfl, _, _, _, [], _, [], hW', trodAll_mk1 (shut_bool Try.underlying4 _), (trodAll_cons_mk (Below.trod laidOut (by kernel_rfl) (of_decide_eq_true (by kernel_rfl)) k0 bel lt0) (trodAll_cons_mk (Below.trod laidOut (by kernel_rfl) (of_decide_eq_true (by kernel_rfl)) k1 bel lt1) (trodAll_cons_mk (Below.trod laidOut (by kernel_rfl) (of_decide_eq_true (by kernel_rfl)) k2 bel lt2) trodAll_mk0))), rfl, bel.frame _, fun h => by cases h⟩
theorem over : Rows.alignCheckRow.holds Try.pinned (OpenSpec.ofChange Rows.alignCheckSpec) :=
  OpenClaim.holds_of_wide 5 Try.f5 rfl rfl rfl rfl rfl rfl rfl ⟨rfl, rfl, rfl, rfl, rfl⟩ rfl rfl rfl rfl rfl (by kernel_rfl) Try.func5 (by kernel_rfl)
    (of_decide_eq_true (by kernel_rfl)) (by unfold Func.isWrapper; first | (rw [if_pos (by decide +kernel)]; kernel_rfl) | (rw [if_neg (by decide +kernel)]; exact ⟨rfl, rfl⟩))
    (fun os started H enc _ => lifted os started H enc)
theorem proved : Rows.AlignCheckSaid := over
#print axioms proved
end Go.Proofs.Ytnnonjjmlbemfaa.alignCheck
namespace Go.Proofs.Ytnnonjjmlbemfaa
/-- The row, under a short name, for the claim. -/
theorem alignCheck_holds : Rows.AlignCheckSaid := alignCheck.proved
end Go.Proofs.Ytnnonjjmlbemfaa
