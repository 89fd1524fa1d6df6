/- Write of package token gives the text of any tokens (up to 400 of together 3000 bytes, by the law's own guard), or the error, as the reference's Write does; Tokens leads back to them. -/
import Derived.Test.YtkkgacoecimlpaaLemW
import Derived.Test.YtkkgacoecimlpaaLemR
import Derived.Test.YtkkgacoecimlpaaLemF
import Derived.Test.YtkkgacoecimlpaaX26
namespace Go.Proofs.Ytkkgacoecimlpaa.Pure
open Go.RowKit Go.Proofs.Ytkkgacoecimlpaa.X Go.Proofs.Ytkkgacoecimlpaa.Lem Go.Proofs.YtkkgacoecimlpaaW.PrintWords Go.Proofs.YtkkgacoecimlpaaW.PrintLast
theorem lines_loop (ts m : List S31) (hm : m = ts.map (at1 1)) (hl : ts.length ≤ 400) (d : Nat) : ∀ i : Nat, i + d = m.length → Ev (fun k => ancepslaw05_TokenWrite.l0 k ts m 0 m (m.length : Int) (i : Int)) true := by
  have hlen : m.length = ts.length := by rw [hm, List.length_map]
  induction d with
  | zero =>
    intro i hi
    refine Ev.step (fun k => ancepslaw05_TokenWrite.l0.eq_2 _ _ _ _ _ _ _) (Ev.neg (by omega) (Ev.pos rfl (Ev.bind (rsame_ev ts m (by omega)) (Ev.val ?_))))
    rw [hm]; exact same_at1 ts
  | succ d ih =>
    intro i hi
    have hlt : i < m.length := by omega
    refine Ev.step (fun k => ancepslaw05_TokenWrite.l0.eq_2 _ _ _ _ _ _ _) (Ev.pos (by omega) (Ev.pos (by omega) (Ev.pos (by omega) (Ev.pos ?_ ?_))))
    · rw [rd_T31_nat, getD_lt _ _ hlt]
      subst hm
      rw [List.getElem_map]; rfl
    · rw [w64 (by omega) (by omega)]; exact ih (i + 1) (by omega)
theorem write_j0 (ts : List S31) (b : Bool) (hb : b = false → ts.length ≤ 400 ∧ sumS ts ≤ 3000) : Ev (fun k => ancepslaw05_TokenWrite.j0 k ts b) true := by
  refine Ev.step (fun k => ancepslaw05_TokenWrite.j0.eq_2 _ _ _) (Ev.cond (fun h => Ev.bind awake_ev (Ev.now _)) (fun h => ?_))
  obtain ⟨h1, h2⟩ := hb (by simpa using h)
  have hj := join_len ts
  have hw := weight_sum ts
  have hsz : ∀ t ∈ ts, t.f1.size ≤ 1000000000 := fun t ht => by have := sum_mem ht; omega
  refine Ev.bind (a := ts) (Ev.now' ?_) ?_
  · unfold api_Token_28.f
    rw [Option.bind_some, if_pos (by simp; omega)]; rfl
  have hww : rwriteS ts = writeS ts := rfl
  refine Ev.bind (write_ev ts (by omega) (fun _ => by omega) hsz) (Ev.bind (a := writeS ts) (by rw [← hww]; exact rwrite_ev ts (by omega) (fun _ => by omega) hsz) (Ev.pos rfl (Ev.pos rfl ?_)))
  unfold writeS
  by_cases hall : ts.all rightT = true
  · rw [if_pos hall, if_neg (by omega)]
    refine Ev.step (fun k => ancepslaw05_TokenWrite.j1.eq_2 _ _ _ _ _ _ _) (Ev.neg (show ¬ ((0 : Int) != 0) = true by decide) (Ev.bind (tokens_ev (strOfNums (joinL ts))) ?_))
    rw [tokens_join ts (List.all_eq_true.1 hall) (by omega)]
    exact lines_loop ts _ rfl h1 (ts.map (at1 1)).length 0 (by omega)
  · rw [if_neg hall]
    exact Ev.step (fun k => ancepslaw05_TokenWrite.j1.eq_2 _ _ _ _ _ _ _) (Ev.pos (by decide) (Ev.pos rfl (Ev.val (by simp))))
theorem TokenWrite : ancepslaw05_TokenWrite.Pure := by
  intro ts _ hl hx
  refine Ev.rounds ?_
  unfold ancepslaw05_TokenWrite.f
  refine Ev.bind awake_ev (Ev.pos rfl (Ev.bind (few_ev ts (by omega) (fun t h => (hx t h).2.1)) (write_j0 ts _ (fun h => ?_))))
  exact few_ok (by simpa using h)
end Go.Proofs.Ytkkgacoecimlpaa.Pure
