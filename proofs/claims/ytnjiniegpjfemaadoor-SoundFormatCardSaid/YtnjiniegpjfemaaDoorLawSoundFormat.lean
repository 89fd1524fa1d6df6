-- printed by this session's xprint.py: out of the translation, by the kit's print with additions; Lean checks it
import Derived.Test.YtnjiniegpjfemaaDoorRows
import Derived.Test.YtnjiniegpjfemaaDoorX25
import Derived.Test.YtnjiniegpjfemaaDoorPureSoundFormat
import Derived.Test.YtnjiniegpjfemaaDoorTie
import Derived.Test.YtnjiniegpjfemaaDoorCards
import Derived.Handed
import Derived.Lay
import Derived.LaidOnce
import Derived.SevenTiedAt
import Derived.Stop.Joined
import Derived.WalkKit
import Derived.ProofKit
import Derived.OpenShut
import Derived.ShutString
import Derived.ChangeOld
import Derived.Below
import Derived.SizedLaws
import Derived.Test.YtnjiniegpjfemaaDoorWSized
import Derived.Test.YtnjiniegpjfemaaDoorXO
namespace Go.Proofs.YtnjiniegpjfemaaDoor.soundFormat
open Go.ChangeShapes Go.WideShapes Go.ChangeAt Go.RowKit
open Go.ChangeMaps (open_string shut_string)
set_option linter.unusedVariables false
theorem own : ownKnob Tryd.prog.godebug = none := by kernel_rfl
theorem laidOut : laidOutB Tryd.prog = true := by kernel_rfl
def IsRow (k : IntKind) (w : World) (a : Option Addr) (len cap : Nat) (zs : List Int) : Prop :=
  (a = none ∧ len = 0 ∧ cap = 0 ∧ zs = []) ∨
  ∃ x, a = some x ∧ len ≤ cap ∧ cap ≤ maxLen ∧ zs.length = cap ∧ (∀ i, i < zs.length → w.cell? (x.add i) = some (.int k (zs.getD i 0))) ∧ ∀ n ∈ zs, (Lit.int k n).wf = true
open Go.Proofs.YtnjiniegpjfemaaDoor.X (k23 S23 k23_open)
set_option maxRecDepth 100000 in
theorem opens23 : Open.Opens Tryd.prog k23 23 (fun x => (Lit.int .i64 x.f0).wf = true ∧ (Lit.int .i64 x.f1).wf = true ∧ x.f2.size ≤ 140737488351232) := by
  intro H enc w base spare held fuel cs x h hw
  obtain ⟨xs, n, rfl, rfl, hl, hs, hf⟩ := DataW.trod_struct Tryd.underlying23 h
  have hl : cs.length = 3 := hl.trans (by kernel_rfl)
  obtain ⟨c0, c1, c2, rfl⟩ : ∃ c0 c1 c2, cs = [c0, c1, c2] := by
    match cs, hl with
    | [c0, c1, c2], _ => exact ⟨c0, c1, c2, rfl⟩
  have hs : xs.length = 3 := hs.trans (by rfl)
  obtain ⟨x0, x1, x2, rfl⟩ : ∃ x0 x1 x2, xs = [x0, x1, x2] := by
    match xs, hs with
    | [x0, x1, x2], _ => exact ⟨x0, x1, x2, rfl⟩
  have e0 : DataW.trod enc Tryd.prog w base spare held n 3 [c0] = some x0 := hf 0 _ rfl
  obtain ⟨a0, q0, g0⟩ := (Open.opens_int Tryd.underlying3) H enc w base spare held n _ _ e0 (fun m hm => hw m (Open.weights_agg Tryd.underlying23 (j := 0) rfl rfl m hm))
  have e1 : DataW.trod enc Tryd.prog w base spare held n 3 [c1] = some x1 := hf 1 _ rfl
  obtain ⟨a1, q1, g1⟩ := (Open.opens_int Tryd.underlying3) H enc w base spare held n _ _ e1 (fun m hm => hw m (Open.weights_agg Tryd.underlying23 (j := 1) rfl rfl m hm))
  have e2 : DataW.trod enc Tryd.prog w base spare held n 9 [c2] = some x2 := hf 2 _ rfl
  obtain ⟨a2, q2, g2⟩ := (Open.opens_string Tryd.underlying9) H enc w base spare held n _ _ e2 (fun m hm => hw m (Open.weights_agg Tryd.underlying23 (j := 2) rfl rfl m hm))
  exact ⟨⟨a0, a1, a2⟩, ⟨[c0], [c1, c2], rfl, q0, ⟨[c1], [c2], rfl, q1, q2⟩⟩, g0, g1, g2⟩
set_option maxRecDepth 100000 in
theorem lifted (os : Os) (started : os.Started) (H : Type) (enc : TypeId × Value → H) :
    ReturnsInHanded {} Tryd.checked os 9 .any (fun w args => (Rows.soundFormatSpec.pre enc Tryd.prog Tryd.f9 [] false w args ∧ laidMetH Tryd.prog Rows.soundFormatRow.laid w) ∧ sizedMet enc Tryd.prog Tryd.f9 (OpenSpec.ofChange Rows.soundFormatSpec) false w args) (Rows.soundFormatSpec.post enc Tryd.prog Tryd.f9 false true false false) := by
  refine returnsInHanded_of_change_and (C := Tryd.checked) (X := (fun w _ => laidMetH Tryd.prog Rows.soundFormatRow.laid w)) (fun _ _ _ hh h => h.of_heap hh) own started (by kernel_rfl) Tryd.func9
    (ChangeSpec.witness_shaped (enc := enc) (C := Tryd.checked) (os := os) (X := (fun w _ => laidMetH Tryd.prog Rows.soundFormatRow.laid w)) false (World.laidAll Tryd.prog os Rows.soundFormatRow.laid) #[.slice none 0 0] 8 (World.laidAll_os _ _ _)
      (World.shaped_of_ZipB (by kernel_rfl) (by kernel_rfl)) (by kernel_rfl) (by kernel_rfl) (by kernel_rfl)
      (by rw [MakeChecks.laidMetH_plain _ _ _ (by kernel_rfl)]; exact laidMet_laidAll _ (by kernel_rfl) (by kernel_rfl))) ?_
  intro W base args ds gs before hval0 hW hcnd hsz0 hL_ _
  have hsz : (DataW.weightsEach Tryd.prog (Tryd.f9.params.toList ++ Rows.soundFormatSpec.plain.varTypes Tryd.prog) (ds ++ gs)).all (· ≤ reachBytes) = true := hsz0
  have hval : ∀ (j : Nat) t v, Tryd.f9.params[j]? = some t → args[j]? = some v → Value.okWide Tryd.prog W .any base t v := hval0
  have hW' := hW
  obtain ⟨p, q, hA0, hV, rfl, hfz, hnd⟩ := hW
  have hA : DataW.TrodAll enc Tryd.prog W 0 (fun _ => true) true Tryd.f9.params.toList args.toList ds p := hA0
  rw [Tryd.params9] at hA hval hsz
  obtain ⟨v0, vs0, d0, ds0, p0, q0, hargs, rfl, rfl, h0, r0⟩ := trodAll_cons hA
  obtain ⟨rfl, rfl, rfl⟩ := trodAll_nil r0
  obtain rfl : args = #[v0] := by cases args; simp_all
  obtain ⟨rfl, rfl⟩ := trodVars_none hV
  obtain ⟨a0, len0, cap0, rfl⟩ := okWide_slice Tryd.underlying26 (hval 0 26 v0 rfl rfl)
  have k0 := h0
  have lt0 : ∀ x ∈ p0, x.block < W.heap.size := by obtain ⟨m, hm⟩ := k0; exact DataW.trod_lt m _ _ _ hm
  obtain ⟨l0, ko0, hm0, y0, hw0⟩ := Open.opens_arg (Open.opens_slice (d := k23) (B := 32) Tryd.underlying26 (by kernel_rfl) (by kernel_rfl) opens23) hsz (j := 0) (t := 26) rfl rfl h0
  obtain ⟨A0, c0, e0, hc0, hr0⟩ := ko0
  simp [Value.cells] at e0
  obtain ⟨rfl, rfl, rfl⟩ := e0
  clear hA0 hval0 hsz0 hsz
  refine (X.ancepslaw11_SoundFormat.walk Pure.SoundFormat a0 cap0 l0 W hr0 hc0 hm0 y0 hw0).mono fun e W' ⟨he, bel⟩ => ?_
  subst he
  exact ⟨_, rfl, _, _, _, [], _, [], hW', trodAll_mk1 (shut_bool Tryd.underlying4 _), (trodAll_cons_mk (Below.trod laidOut (by kernel_rfl) (of_decide_eq_true (by kernel_rfl)) k0 bel lt0) trodAll_mk0), rfl, bel.frame _, fun h => by cases h⟩
theorem over : Rows.soundFormatRow.holds Tryd.pinned (OpenSpec.ofChange Rows.soundFormatSpec) :=
  OpenClaim.holds_of_wide 9 Tryd.f9 rfl rfl rfl rfl rfl rfl rfl ⟨rfl, rfl, rfl, rfl, rfl⟩ rfl rfl rfl rfl rfl (by kernel_rfl) Tryd.func9 (by kernel_rfl)
    (of_decide_eq_true (by kernel_rfl)) (by unfold Func.isWrapper; first | (rw [if_pos (by decide +kernel)]; kernel_rfl) | (rw [if_neg (by decide +kernel)]; exact ⟨rfl, rfl⟩))
    (fun os started H enc _ => lifted os started H enc)
theorem proved : Rows.SoundFormatCardSaid :=
  Claim7.holds_tied_plain_at .later [] [.data, .pinned] true (true, "a091b1bacba716e84970cf209674be53f1e627ff356617b79c32fc3fb61a7ffe") false
    over (fun _ h => by cases h) (by kernel_rfl) (fun _ h => by cases h) soundFormat_row_tie rfl ⟨rfl, rfl⟩ (by kernel_rfl) rfl
    (fun f fn hf hfn => by
      obtain rfl : f = 9 := Option.some.inj ((show Tryd.prog.funcNamed Rows.soundFormatRow.func = some 9 by kernel_rfl).symm.trans hf) |>.symm
      obtain rfl : fn = Tryd.f9 := (Option.some.inj (Tryd.func9.symm.trans hfn)).symm
      exact ⟨by kernel_rfl, fun j t ht => by
        rw [Tryd.params9] at ht
        have hm : t ∈ [26] := by simpa using Array.mem_of_getElem? ht
        have hall : ([26].all fun u => !Tryd.prog.wantsStandIn u) = true := by kernel_rfl
        exact (show Tryd.prog.wantsStandIn t = false by simpa using List.all_eq_true.1 hall t hm)⟩)
    (by kernel_rfl)
#print axioms proved
end Go.Proofs.YtnjiniegpjfemaaDoor.soundFormat
namespace Go.Proofs.YtnjiniegpjfemaaDoor
/-- The row, under a short name, for the claim. -/
theorem soundFormat_holds : Rows.SoundFormatCardSaid := soundFormat.proved
end Go.Proofs.YtnjiniegpjfemaaDoor
