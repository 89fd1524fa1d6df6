-- printed by this session's xprint.py: out of the translation, by the kit's print with additions; Lean checks it
import Derived.Test.YtdaooagikacboaaDoorRows
import Derived.Test.YtdaooagikacboaaDoorX9
import Derived.Test.YtdaooagikacboaaDoorPureWordlistTexts
import Derived.Test.YtdaooagikacboaaDoorTie
import Derived.Test.YtdaooagikacboaaDoorCards
import Derived.Handed
import Derived.Lay
import Derived.LaidOnce
import Derived.SevenTiedAt
import Derived.Stop.Joined
import Derived.WalkKit
import Derived.ProofKit
import Derived.OpenShut
import Derived.ShutString
import Derived.ChangeOld
import Derived.Below
import Derived.SizedLaws
import Derived.Test.YtdaooagikacboaaDoorWSized
import Derived.Test.YtdaooagikacboaaDoorXO
namespace Go.Proofs.YtdaooagikacboaaDoor.wordlistTexts
open Go.ChangeShapes Go.WideShapes Go.ChangeAt Go.RowKit
open Go.ChangeMaps (open_string shut_string)
set_option linter.unusedVariables false
theorem own : ownKnob Tryd.prog.godebug = none := by kernel_rfl
theorem laidOut : laidOutB Tryd.prog = true := by kernel_rfl
def IsRow (k : IntKind) (w : World) (a : Option Addr) (len cap : Nat) (zs : List Int) : Prop :=
  (a = none ∧ len = 0 ∧ cap = 0 ∧ zs = []) ∨
  ∃ x, a = some x ∧ len ≤ cap ∧ cap ≤ maxLen ∧ zs.length = cap ∧ (∀ i, i < zs.length → w.cell? (x.add i) = some (.int k (zs.getD i 0))) ∧ ∀ n ∈ zs, (Lit.int k n).wf = true
structure S25 where
  f0 : List ByteArray
def k25 : Go.Proofs.YtdaooagikacboaaDoorW.PrintWords.Kd S25 := Go.Proofs.YtdaooagikacboaaDoorW.PrintWords.Kd.iso (Go.Proofs.YtdaooagikacboaaDoorW.PrintWords.Kd.slice 9 Go.Proofs.YtdaooagikacboaaDoorW.PrintWords.Kd.string) (fun x : S25 => x.f0)
theorem k25_open {w : World} {x : S25} {cs : List Value} (h : k25.K w x cs) : ∃ A0 c0, cs = [.slice A0 x.f0.length c0] ∧ x.f0.length ≤ c0 ∧ (Go.Proofs.YtdaooagikacboaaDoorW.PrintWords.Kd.string).C w A0 x.f0.length x.f0 := by
  obtain ⟨A0, c0, rfl, l0, g0⟩ := h
  exact ⟨A0, c0, rfl, l0, g0⟩
set_option maxRecDepth 100000 in
theorem opens25 : Open.Opens Tryd.prog k25 25 (fun x => (x.f0.length ≤ maxLen ∧ x.f0.length * 16 ≤ 140737488351232 ∧ ∀ y0 ∈ x.f0, y0.size ≤ 140737488351232)) := by
  intro H enc w base spare held fuel cs x h hw
  obtain ⟨xs, n, rfl, rfl, hl, hs, hf⟩ := DataW.trod_struct Tryd.underlying25 h
  have hl : cs.length = 1 := hl.trans (by kernel_rfl)
  obtain ⟨c0, rfl⟩ : ∃ c0, cs = [c0] := by
    match cs, hl with
    | [c0], _ => exact ⟨c0, rfl⟩
  have hs : xs.length = 1 := hs.trans (by rfl)
  obtain ⟨x0, rfl⟩ : ∃ x0, xs = [x0] := by
    match xs, hs with
    | [x0], _ => exact ⟨x0, rfl⟩
  have e0 : DataW.trod enc Tryd.prog w base spare held n 23 [c0] = some x0 := hf 0 _ rfl
  obtain ⟨a0, q0, g0⟩ := (Open.opens_slice (d := Go.Proofs.YtdaooagikacboaaDoorW.PrintWords.Kd.string) (B := 16) Tryd.underlying23 (by kernel_rfl) (by kernel_rfl) (Open.opens_string Tryd.underlying9)) H enc w base spare held n _ _ e0 (fun m hm => hw m (Open.weights_agg Tryd.underlying25 (j := 0) rfl rfl m hm))
  exact ⟨⟨a0⟩, q0, g0⟩
set_option maxRecDepth 100000 in
theorem lifted (os : Os) (started : os.Started) (H : Type) (enc : TypeId × Value → H) :
    ReturnsInHanded {} Tryd.checked os 4 .any (fun w args => (Rows.wordlistTextsSpec.pre enc Tryd.prog Tryd.f4 [] false w args ∧ laidMetH Tryd.prog Rows.wordlistTextsRow.laid w) ∧ sizedMet enc Tryd.prog Tryd.f4 (OpenSpec.ofChange Rows.wordlistTextsSpec) false w args) (Rows.wordlistTextsSpec.post enc Tryd.prog Tryd.f4 false true false false) := by
  refine returnsInHanded_of_change_and (C := Tryd.checked) (X := (fun w _ => laidMetH Tryd.prog Rows.wordlistTextsRow.laid w)) (fun _ _ _ hh h => h.of_heap hh) own started (by kernel_rfl) Tryd.func4
    (ChangeSpec.witness_shaped (enc := enc) (C := Tryd.checked) (os := os) (X := (fun w _ => laidMetH Tryd.prog Rows.wordlistTextsRow.laid w)) false (World.laidAll Tryd.prog os Rows.wordlistTextsRow.laid) #[.agg #[.slice none 0 0]] 8 (World.laidAll_os _ _ _)
      (World.shaped_of_ZipB (by kernel_rfl) (by kernel_rfl)) (by kernel_rfl) (by kernel_rfl) (by kernel_rfl)
      (by rw [MakeChecks.laidMetH_plain _ _ _ (by kernel_rfl)]; exact laidMet_laidAll _ (by kernel_rfl) (by kernel_rfl))) ?_
  intro W base args ds gs before hval0 hW hcnd hsz0 hL_ _
  have hsz : (DataW.weightsEach Tryd.prog (Tryd.f4.params.toList ++ Rows.wordlistTextsSpec.plain.varTypes Tryd.prog) (ds ++ gs)).all (· ≤ reachBytes) = true := hsz0
  have hval : ∀ (j : Nat) t v, Tryd.f4.params[j]? = some t → args[j]? = some v → Value.okWide Tryd.prog W .any base t v := hval0
  have hW' := hW
  obtain ⟨p, q, hA0, hV, rfl, hfz, hnd⟩ := hW
  have hA : DataW.TrodAll enc Tryd.prog W 0 (fun _ => true) true Tryd.f4.params.toList args.toList ds p := hA0
  rw [Tryd.params4] at hA hval hsz
  obtain ⟨v0, vs0, d0, ds0, p0, q0, hargs, rfl, rfl, h0, r0⟩ := trodAll_cons hA
  obtain ⟨rfl, rfl, rfl⟩ := trodAll_nil r0
  obtain rfl : args = #[v0] := by cases args; simp_all
  obtain ⟨rfl, rfl⟩ := trodVars_none hV
  obtain ⟨cs0, rfl, _⟩ := okWide_struct Tryd.underlying25 (hval 0 25 v0 rfl rfl)
  have k0 := h0
  have lt0 : ∀ x ∈ p0, x.block < W.heap.size := by obtain ⟨m, hm⟩ := k0; exact DataW.trod_lt m _ _ _ hm
  obtain ⟨s0, ko0, hw0⟩ := Open.opens_arg opens25 hsz (j := 0) (t := 25) rfl rfl h0
  obtain ⟨A0_0, c0_0, ek0, hc0_0, hr0_0⟩ := k25_open ko0
  obtain rfl : cs0 = #[.slice A0_0 s0.f0.length c0_0] := by (apply Array.ext'; simpa [Value.cells] using ek0)
  obtain ⟨hm0_0, y0_0, hw0_0⟩ := hw0
  clear hA0 hval0 hsz0 hsz
  refine (X.ancepslaw54_WordlistTexts.walk Pure.WordlistTexts A0_0 c0_0 s0.f0 W hr0_0 hc0_0 hm0_0 y0_0 hw0_0).mono fun e W' ⟨he, bel⟩ => ?_
  subst he
  exact ⟨_, rfl, _, _, _, [], _, [], hW', trodAll_mk1 (shut_bool Tryd.underlying4 _), (trodAll_cons_mk (Below.trod laidOut (by kernel_rfl) (of_decide_eq_true (by kernel_rfl)) k0 bel lt0) trodAll_mk0), rfl, bel.frame _, fun h => by cases h⟩
theorem over : Rows.wordlistTextsRow.holds Tryd.pinned (OpenSpec.ofChange Rows.wordlistTextsSpec) :=
  OpenClaim.holds_of_wide 4 Tryd.f4 rfl rfl rfl rfl rfl rfl rfl ⟨rfl, rfl, rfl, rfl, rfl⟩ rfl rfl rfl rfl rfl (by kernel_rfl) Tryd.func4 (by kernel_rfl)
    (of_decide_eq_true (by kernel_rfl)) (by unfold Func.isWrapper; first | (rw [if_pos (by decide +kernel)]; kernel_rfl) | (rw [if_neg (by decide +kernel)]; exact ⟨rfl, rfl⟩))
    (fun os started H enc _ => lifted os started H enc)
theorem proved : Rows.WordlistTextsCardSaid :=
  Claim7.holds_tied_plain_at .later [] [.data, .pinned] true (true, "67659bbb37146ae43e6064d6d74af92f7fe52f673644cca1a83ccaf028fa8650") false
    over (fun _ h => by cases h) (by kernel_rfl) (fun _ h => by cases h) wordlistTexts_row_tie rfl ⟨rfl, rfl⟩ (by kernel_rfl) rfl
    (fun f fn hf hfn => by
      obtain rfl : f = 4 := Option.some.inj ((show Tryd.prog.funcNamed Rows.wordlistTextsRow.func = some 4 by kernel_rfl).symm.trans hf) |>.symm
      obtain rfl : fn = Tryd.f4 := (Option.some.inj (Tryd.func4.symm.trans hfn)).symm
      exact ⟨by kernel_rfl, fun j t ht => by
        rw [Tryd.params4] at ht
        have hm : t ∈ [25] := by simpa using Array.mem_of_getElem? ht
        have hall : ([25].all fun u => !Tryd.prog.wantsStandIn u) = true := by kernel_rfl
        exact (show Tryd.prog.wantsStandIn t = false by simpa using List.all_eq_true.1 hall t hm)⟩)
    (by kernel_rfl)
#print axioms proved
end Go.Proofs.YtdaooagikacboaaDoor.wordlistTexts
namespace Go.Proofs.YtdaooagikacboaaDoor
/-- The row, under a short name, for the claim. -/
theorem wordlistTexts_holds : Rows.WordlistTextsCardSaid := wordlistTexts.proved
end Go.Proofs.YtdaooagikacboaaDoor
