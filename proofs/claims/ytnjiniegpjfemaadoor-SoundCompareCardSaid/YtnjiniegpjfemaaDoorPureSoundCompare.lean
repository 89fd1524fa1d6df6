/- Compare gives the order of any two sounds as the reference does; it is a total order. -/
import Derived.Test.YtnjiniegpjfemaaDoorS2
import Derived.Test.YtnjiniegpjfemaaDoorX17
import Derived.Test.YtnjiniegpjfemaaDoorX18
namespace Go.Proofs.YtnjiniegpjfemaaDoor.Pure
open Go.RowKit Go.Proofs.YtnjiniegpjfemaaDoor.X Go.Proofs.YtnjiniegpjfemaaDoor.Lem Go.Proofs.YtnjiniegpjfemaaDoorW.PrintWords Go.Proofs.YtnjiniegpjfemaaDoorW.PrintLast
theorem or_ev (x y z : Int) (hx : x = -1 ∨ x = 0 ∨ x = 1) (hy : y = -1 ∨ y = 0 ∨ y = 1) (hz : z = -1 ∨ z = 0 ∨ z = 1) : Ev (fun k => cmp_Or_int.f k [x, y, z]) (if x = 0 then (if y = 0 then z else y) else x) := by
  rcases hx with rfl | rfl | rfl <;> rcases hy with rfl | rfl | rfl <;> rcases hz with rfl | rfl | rfl <;> exact Ev.of (fun k => cmp_Or_int.mono _ k) (k := 8) (by kernel_rfl)
theorem cmpI_f (a b : Int) : cmp_Compare_int.f a b = some (ordI a b) := by
  unfold cmp_Compare_int.f cmp_isNaN_int.f ordI
  simp only [Option.bind_some, bne_self_eq_false, Bool.false_eq_true, if_false]
  repeat' split
  all_goals simp_all
theorem cmpS_f (a b : ByteArray) : cmp_Compare_string.f a b = some (ordS a b) := by
  unfold cmp_Compare_string.f cmp_isNaN_string.f ordS
  simp only [Option.bind_some, bne_self_eq_false, Bool.false_eq_true, if_false]
  repeat' split
  all_goals simp_all
theorem compare_ev (x y : S23) : Ev (fun k => sound_Compare.f k x.f0 x.f1 x.f2 y.f0 y.f1 y.f2) (compS x y) := by
  unfold sound_Compare.f
  exact Ev.bind (Ev.now' (cmpI_f _ _)) (Ev.bind (Ev.now' (cmpI_f _ _)) (Ev.bind (Ev.now' (cmpS_f _ _)) (Ev.bind (or_ev _ _ _ (ordI_three _ _) (ordI_three _ _) (ordS_three _ _)) (Ev.now _))))
theorem ordI_neg (a b : Int) : ordI b a = - ordI a b := by unfold ordI; repeat' split <;> omega
theorem ordS_neg (x y : ByteArray) : ordS y x = - ordS x y := by
  rw [ordS_lt, ordS_lt]
  by_cases h1 : x.toList < y.toList
  · rw [if_pos h1, if_neg (List.not_lt.2 (List.le_of_lt h1)), if_pos h1]; rfl
  · rw [if_neg h1]
    by_cases h2 : y.toList < x.toList
    · rw [if_pos h2, if_neg h1, if_pos h2]
    · rw [if_neg h2, if_neg h2, if_neg h1]; rfl
theorem compS_neg (x y : S23) : compS y x = - compS x y := by
  unfold compS
  rw [ordI_neg x.f0, ordI_neg x.f1, ordS_neg x.f2]
  have h0 := ordI_three x.f0 y.f0
  have h1 := ordI_three x.f1 y.f1
  repeat' split
  all_goals omega
theorem ordS_trans {x y z : ByteArray} (h1 : ordS x y ≤ 0) (h2 : ordS y z ≤ 0) : ordS x z ≤ 0 ∧ (ordS x z = 0 → ordS x y = 0 ∧ ordS y z = 0) := by
  have a1 : x.toList ≤ y.toList := by
    rw [ordS_lt] at h1
    by_cases g : x.toList < y.toList
    · exact List.le_of_lt g
    · rw [if_neg g] at h1
      by_cases g2 : y.toList < x.toList
      · rw [if_pos g2] at h1; omega
      · exact List.not_lt.1 g2
  have a2 : y.toList ≤ z.toList := by
    rw [ordS_lt] at h2
    by_cases g : y.toList < z.toList
    · exact List.le_of_lt g
    · rw [if_neg g] at h2
      by_cases g2 : z.toList < y.toList
      · rw [if_pos g2] at h2; omega
      · exact List.not_lt.1 g2
  have a3 := List.le_trans a1 a2
  constructor
  · rw [ordS_lt]
    by_cases g : x.toList < z.toList
    · rw [if_pos g]; decide
    · rw [if_neg g, if_neg (List.not_lt.2 a3)]; decide
  · intro h
    obtain rfl := ordS_zero.1 h
    have e : x.toList = y.toList := List.le_antisymm a1 a2
    obtain rfl := bytes_ext.1 e
    exact ⟨h, h⟩
theorem ordI_trans {x y z : Int} (h1 : ordI x y ≤ 0) (h2 : ordI y z ≤ 0) : ordI x z ≤ 0 ∧ (ordI x z = 0 → ordI x y = 0 ∧ ordI y z = 0) := by
  revert h1 h2
  unfold ordI
  repeat' split
  all_goals omega
theorem lex_le {a b : Int} (h : (if a = 0 then b else a) ≤ 0) : a ≤ 0 ∧ (a = 0 → b ≤ 0) := by
  split at h
  · exact ⟨by omega, fun _ => h⟩
  · exact ⟨h, fun z => by omega⟩
theorem compS_trans {x y z : S23} (h1 : compS x y ≤ 0) (h2 : compS y z ≤ 0) : compS x z ≤ 0 := by
  unfold compS at *
  obtain ⟨a1, b1⟩ := lex_le h1
  obtain ⟨a2, b2⟩ := lex_le h2
  obtain ⟨c1, c2⟩ := ordI_trans a1 a2
  split
  · rename_i h0
    obtain ⟨e1, e2⟩ := c2 h0
    obtain ⟨a3, b3⟩ := lex_le (b1 e1)
    obtain ⟨a4, b4⟩ := lex_le (b2 e2)
    obtain ⟨c3, c4⟩ := ordI_trans a3 a4
    split
    · rename_i h3
      obtain ⟨e3, e4⟩ := c4 h3
      exact (ordS_trans (b3 e3) (b4 e4)).1
    · exact c3
  · exact c1
theorem eq_parts (x y : S23) : (x.f0 == y.f0 && (x.f1 == y.f1 && (x.f2.toList == y.f2.toList))) = (compS x y == 0) := by
  rw [Bool.eq_iff_iff]
  simp only [Bool.and_eq_true, beq_iff_eq]
  rw [compS_zero]
  constructor
  · rintro ⟨h0, h1, h2⟩; exact S23_ext h0 h1 (bytes_ext.1 h2)
  · rintro rfl; exact ⟨rfl, rfl, rfl⟩
theorem compare_j0 (a b c : S23) (x : Bool) : Ev (fun k => ancepslaw11_SoundCompare.j0 k x a.f0 a.f1 a.f2 b.f0 b.f1 b.f2 c.f0 c.f1 c.f2) true := by
  refine Ev.step (fun k => rfl) (Ev.cond (fun h => Ev.bind awake_ev (Ev.now _)) (fun h => ?_))
  refine Ev.bind (compare_ev a b) (Ev.bind (compare_ev b c) (Ev.bind (compare_ev a c) (Ev.bind (Ev.now' (rCompare_f a b)) (Ev.pos rfl (Ev.bind (Ev.now' (rCompare_f b c)) (Ev.pos rfl (Ev.bind (Ev.now' (rCompare_f a c)) (Ev.pos rfl (Ev.bind (compare_ev b a) ?_)))))))))
  have h3 := compS_three a b
  refine Ev.pos (by rw [compS_neg a b, w64 (by omega) (by omega)]) (Ev.pos (by rw [eq_parts]; simp) ?_)
  refine Ev.cond (fun _ => Ev.now _) (fun h1 => Ev.cond (fun _ => Ev.now _) (fun h2 => Ev.val (decide_eq_true (compS_trans (y := b) (by omega) (by omega)))))
theorem SoundCompare : ancepslaw11_SoundCompare.Pure := by
  intro a0 a1 a2 b0 b1 b2 c0 c1 c2 _ _ _ _ _ _ _ _ _
  refine Ev.rounds ?_
  unfold ancepslaw11_SoundCompare.f
  refine Ev.bind awake_ev (Ev.pos rfl ?_)
  obtain ⟨r, h1, _⟩ := few_ev [⟨a0, a1, a2⟩, ⟨b0, b1, b2⟩, ⟨c0, c1, c2⟩] 3 (by omega)
  exact Ev.bind h1 (compare_j0 ⟨a0, a1, a2⟩ ⟨b0, b1, b2⟩ ⟨c0, c1, c2⟩ _)
end Go.Proofs.YtnjiniegpjfemaaDoor.Pure
