/- The reference's Cost in plain words. -/
import Derived.Test.YtnnonjjmlbemfaaR1
import Derived.Test.YtnnonjjmlbemfaaM2
import Derived.Test.YtnnonjjmlbemfaaX19
set_option linter.unusedVariables false
namespace Go.Proofs.Ytnnonjjmlbemfaa.Lem
open Go.RowKit Go.Proofs.Ytnnonjjmlbemfaa.X Go.Proofs.Ytnnonjjmlbemfaa.Al Go.Proofs.YtnnonjjmlbemfaaW.PrintWords Go.Proofs.YtnnonjjmlbemfaaW.PrintLast
theorem drop_rd (l : List Int) (n : Nat) (h : n < l.length) : l.drop n = rd l (n : Int) :: l.drop (n + 1) := by
  rw [List.drop_eq_getElem_cons h]
  unfold rd
  rw [Int.toNat_natCast, List.getD_eq_getElem?_getD, List.getElem?_eq_getElem h]; rfl
theorem drop_nil' {s : ByteArray} {i : Nat} (hi : i ≤ s.size) : (bytesOf s).drop i = [] ↔ i = s.size := by
  rw [← List.length_eq_zero_iff, drop_len]; omega
theorem cost_loop {p q : ByteArray} (G : Gv p q) (l : List Int) (hl : l.length ≤ 100) (d : Nat) : ∀ (n i j : Nat) (sum : Int), n + d = l.length → i ≤ p.size → j ≤ q.size → 0 ≤ sum → sum ≤ 4 * n →
    ∃ (c : Int) (ok : Bool), Ev (fun k => ancepsref45_Cost.l0 k p q l (i : Int) (j : Int) sum (n : Int)) (c, ok) ∧ (ok = true → ∃ c', co ((bytesOf p).drop i) ((bytesOf q).drop j) (l.drop n) = some c' ∧ c = sum + c') ∧ (ok = false → co ((bytesOf p).drop i) ((bytesOf q).drop j) (l.drop n) = none) := by
  induction d with
  | zero =>
    intro n i j sum hn hi hj h0 h1
    rw [List.drop_eq_nil_of_le (show l.length ≤ n by omega)]
    refine ⟨sum, decide (i = p.size) && decide (j = q.size), Ev.step (fun k => ancepsref45_Cost.l0.eq_2 _ _ _ _ _ _ _ _) (Ev.neg (by omega) (Ev.cond (fun h => Ev.val ?_) (fun h => Ev.val ?_))), fun h => ⟨0, ?_, by omega⟩, fun h => ?_⟩
    · rw [decide_eq_true (show i = p.size by omega), Bool.true_and]
      congr 1
      rw [Bool.eq_iff_iff, beq_iff_eq, decide_eq_true_eq]; omega
    · rw [decide_eq_false (show ¬ i = p.size by omega)]; rfl
    · simp only [Bool.and_eq_true, decide_eq_true_eq] at h
      unfold co
      rw [if_pos ⟨(drop_nil' hi).2 h.1, (drop_nil' hj).2 h.2⟩]
    · unfold co
      rw [if_neg]
      rintro ⟨a, b⟩
      rw [decide_eq_true ((drop_nil' hi).1 a), decide_eq_true ((drop_nil' hj).1 b)] at h
      cases h
  | succ d ih =>
    intro n i j sum hn hi hj h0 h1
    rw [drop_rd l n (by omega)]
    unfold co
    rcases rstep_ev G hi hj (rd l (n : Int)) with ⟨i', j', c, a1, a2, a3, a4, a5, a6, a7⟩ | ⟨a1, x, y, z, a2⟩
    · have hc := st_cost a6
      obtain ⟨r, ok, b1, b2, b3⟩ := ih (n + 1) i' j' (sum + c) (by omega) a3 a4 (by omega) (by omega)
      rw [a6]
      refine ⟨r, ok, Ev.step (fun k => ancepsref45_Cost.l0.eq_2 _ _ _ _ _ _ _ _) (Ev.pos (by omega) (Ev.pos (by omega) (Ev.bind a7 (Ev.pos rfl ?_)))), fun h => ?_, fun h => ?_⟩
      · show Ev (fun k => ancepsref45_Cost.l0 k p q l (i' : Int) (j' : Int) (wrap64 (sum + c)) (wrap64 ((n : Int) + 1))) (r, ok)
        rw [w64 (by omega) (by omega), w64 (by omega) (by omega)]
        exact b1
      · obtain ⟨c', e1, e2⟩ := b2 h
        exact ⟨c + c', by simp only [e1, Option.map_some], by omega⟩
      · simp only [b3 h, Option.map_none]
    · rw [a1]
      refine ⟨0, false, Ev.step (fun k => ancepsref45_Cost.l0.eq_2 _ _ _ _ _ _ _ _) (Ev.pos (by omega) (Ev.pos (by omega) (Ev.bind a2 (Ev.neg Bool.false_ne_true (Ev.now _))))), (fun h => absurd h (by decide)), (fun _ => rfl)⟩
theorem cost_ev {p q : ByteArray} (G : Gv p q) (l : List Int) (hl : l.length ≤ 100) :
    ∃ (c : Int) (ok : Bool), Ev (fun k => ancepsref45_Cost.f k p q l) (c, ok) ∧ (ok = true → co (bytesOf p) (bytesOf q) l = some c) ∧ (ok = false → co (bytesOf p) (bytesOf q) l = none) := by
  obtain ⟨c, ok, h1, h2, h3⟩ := cost_loop G l hl l.length 0 0 0 0 (by omega) (Nat.zero_le _) (Nat.zero_le _) (by decide) (by decide)
  refine ⟨c, ok, h1, fun h => ?_, h3⟩
  obtain ⟨c', e1, e2⟩ := h2 h
  rw [e2, Int.zero_add]
  exact e1
end Go.Proofs.Ytnnonjjmlbemfaa.Lem
