/- No alignment is cheaper than the best one, and of the cheapest ones none comes before it: for any two strings and any steps (strings over 70 bytes and more than 100 steps are left out by the law's own guard). -/
import Derived.Test.YtnnonjjmlbemfaaA3
import Derived.Test.YtnnonjjmlbemfaaR3
import Derived.Test.YtnnonjjmlbemfaaX20
set_option linter.unusedVariables false
namespace Go.Proofs.Ytnnonjjmlbemfaa.Pure
open Go.RowKit Go.Proofs.Ytnnonjjmlbemfaa.X Go.Proofs.Ytnnonjjmlbemfaa.Lem Go.Proofs.Ytnnonjjmlbemfaa.Al Go.Proofs.YtnnonjjmlbemfaaW.PrintWords Go.Proofs.YtnnonjjmlbemfaaW.PrintLast
theorem cmp_int (a b : Int) : cmp_Compare_int.f a b = some (if a < b then -1 else if a > b then 1 else 0) := by
  have e : ∀ x : Int, (x != x) = false := fun x => by simp
  unfold cmp_Compare_int.f cmp_isNaN_int.f
  rw [Option.bind_some, Option.bind_some, e, e, if_neg (by decide), if_neg (by decide)]
  split
  · rfl
  · split <;> rfl
theorem compare_loop (l m : List Int) (hl : l.length ≤ 1000) (hm : m.length ≤ 1000) (d : Nat) : ∀ i : Nat, i + d = l.length → i ≤ m.length → Ev (fun k => slices_Compare_int_int.l0 k l m l (l.length : Int) (i : Int)) (cmpL (l.drop i) (m.drop i)) := by
  induction d with
  | zero =>
    intro i hi him
    rw [List.drop_eq_nil_of_le (show l.length ≤ i by omega)]
    refine Ev.step (fun k => slices_Compare_int_int.l0.eq_2 _ _ _ _ _ _) (Ev.neg (by omega) (Ev.cond (fun h => ?_) (fun h => ?_)))
    · rw [drop_rd m i (by omega)]; exact Ev.now _
    · rw [List.drop_eq_nil_of_le (show m.length ≤ i by omega)]; exact Ev.now _
  | succ d ih =>
    intro i hi him
    refine Ev.step (fun k => slices_Compare_int_int.l0.eq_2 _ _ _ _ _ _) (Ev.pos (by omega) (Ev.pos (by omega) (Ev.pos (by omega) ?_)))
    rw [drop_rd l i (by omega)]
    refine Ev.cond (fun h => ?_) (fun h => ?_)
    · rw [List.drop_eq_nil_of_le (show m.length ≤ i by omega)]; exact Ev.now _
    · rw [drop_rd m i (by omega), cmp_int]
      refine Ev.pos (by omega) (Ev.just ?_)
      unfold cmpL
      by_cases h1 : rd l (i : Int) < rd m (i : Int)
      · rw [if_pos h1, if_pos h1]; exact Ev.neg (by decide) (Ev.now _)
      · rw [if_neg h1, if_neg h1]
        by_cases h2 : rd l (i : Int) > rd m (i : Int)
        · rw [if_pos h2, if_pos h2]; exact Ev.neg (by decide) (Ev.now _)
        · rw [if_neg h2, if_neg h2]
          refine Ev.pos rfl ?_
          rw [w64 (by omega) (by omega)]
          exact ih (i + 1) (by omega) (by omega)
theorem compare_ev (l m : List Int) (hl : l.length ≤ 1000) (hm : m.length ≤ 1000) : Ev (fun k => slices_Compare_int_int.f k l m) (cmpL l m) := by
  have := compare_loop l m hl hm l.length 0 (by omega) (Nat.zero_le _)
  rw [List.drop_zero, List.drop_zero] at this
  exact this
theorem AlignBound : ancepslaw45_AlignBound.Pure := by
  intro p q steps _ _ _ _ _
  refine Ev.rounds ?_
  unfold ancepslaw45_AlignBound.f
  have out : Ev (fun k => ancepslaw45_AlignBound.j0 k p q steps true) true := Ev.step (fun k => ancepslaw45_AlignBound.j0.eq_2 _ _ _ _ _) (Ev.pos rfl (Ev.bind awake_ev (Ev.now _)))
  obtain ⟨b, hb⟩ := short_f p q
  refine Ev.bind awake_ev (Ev.pos rfl ?_)
  rw [hb]
  refine Ev.just (Ev.cond (fun _ => Ev.cond (fun _ => out) (fun hs => ?_)) (fun _ => out))
  refine Ev.bind (rgiven_ev p q) ?_
  by_cases hg : givS p q = 0
  · rw [hg]
    have G := giv_ok hg
    obtain ⟨l, h1, h2⟩ := bs_of G
    obtain ⟨c, ok, c1, c2, c3⟩ := cost_ev G steps (by omega)
    refine Ev.step (fun k => ancepslaw45_AlignBound.j0.eq_2 _ _ _ _ _) (Ev.neg (by decide) (Ev.bind (best_f G h1 h2) (Ev.bind c1 ?_)))
    cases ok with
    | false => exact Ev.neg Bool.false_ne_true (Ev.now _)
    | true =>
      have hc := c2 rfl
      have hle := D_le (co_al hc)
      refine Ev.pos rfl (Ev.pos rfl (Ev.pos hle (Ev.cond (fun _ => Ev.now _) (fun hgt => ?_))))
      have he : c = D (bytesOf p) (bytesOf q) := by
        have h3 : ¬ c > D (bytesOf p) (bytesOf q) := hgt
        omega
      refine Ev.bind (compare_ev l steps (by omega) (by omega)) (Ev.val (decide_eq_true (Bs_first h1 steps (he ▸ hc))))
  · rw [show (givS p q != 0) = true by rw [bne_iff_ne]; exact hg]
    exact out
end Go.Proofs.Ytnnonjjmlbemfaa.Pure
