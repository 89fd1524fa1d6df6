/- Plain lemmas of the sounds' chapter: two lists, one behind the other. -/
import Derived.Test.YtnjiniegpjfemaaDoorS3
import Derived.Test.YtnjiniegpjfemaaDoorS5
import Derived.Test.YtnjiniegpjfemaaDoorS6
namespace Go.Proofs.YtnjiniegpjfemaaDoor.Lem
open Go.RowKit Go.Proofs.YtnjiniegpjfemaaDoor.X Go.Proofs.YtnjiniegpjfemaaDoorW.PrintWords Go.Proofs.YtnjiniegpjfemaaDoorW.PrintLast
theorem nucI_shift : ∀ (l : List S23) (i j : Nat), (nucI i l).length = (nucI j l).length
  | [], _, _ => rfl
  | x :: r, i, j => by
    rw [nucI, nucI]
    split
    · rw [List.length_cons, List.length_cons, nucI_shift r (i + 1) (j + 1)]
    · exact nucI_shift r _ _
theorem nucI_app : ∀ (l m : List S23) (i : Nat), (nucI i (l ++ m)).length = (nucI i l).length + (nucI 0 m).length
  | [], m, i => by rw [List.nil_append, nucI_shift m i 0]; simp [nucI]
  | x :: r, m, i => by
    rw [List.cons_append, nucI, nucI]
    split
    · rw [List.length_cons, List.length_cons, nucI_app r m (i + 1)]; omega
    · exact nucI_app r m _
theorem clus_head : ∀ (m z : List S23), ∃ h t, clus [] m = h :: t ∧ clus z m = (z ++ h) :: t
  | [], z => ⟨[], [], rfl, by simp [clus]⟩
  | x :: r, z => by
    rw [clus, clus]
    split
    · exact ⟨[], clus [] r, rfl, by simp⟩
    · obtain ⟨h, t, h1, h2⟩ := clus_head r [x]
      obtain ⟨h', t', h3, h4⟩ := clus_head r (z ++ [x])
      rw [h1] at h3
      obtain ⟨rfl, rfl⟩ := List.cons.inj h3
      exact ⟨[x] ++ h, t, by rw [List.nil_append]; exact h2, by rw [h4, List.append_assoc]⟩
theorem clus_app : ∀ (l m z : List S23), ∃ i e, clus z l = i ++ [e] ∧ clus z (l ++ m) = i ++ clus e m
  | [], m, z => ⟨[], z, rfl, rfl⟩
  | x :: r, m, z => by
    rw [List.cons_append, clus, clus]
    split
    · obtain ⟨i, e, h1, h2⟩ := clus_app r m []
      exact ⟨z :: i, e, by rw [h1]; rfl, by rw [h2]; rfl⟩
    · exact clus_app r m _
theorem errF_all (l : List S23) (h : ∀ x ∈ l, validS x.f0 x.f1 x.f2 = 0) : errF l = 0 := errF_zero.2 h
theorem join_app : ∀ (u v : List (List UInt8)), u ≠ [] → v ≠ [] → Lib.join (u ++ v) [32] = Lib.join u [32] ++ 32 :: Lib.join v [32]
  | [], _, h, _ => absurd rfl h
  | [x], [], _, h => absurd rfl h
  | [x], y :: r, _, _ => by rw [List.singleton_append, join_cc, Lib.join_one]; rfl
  | x :: y :: r, v, _, hv => by
    rw [List.cons_append, List.cons_append, join_cc, join_cc, ← List.cons_append, join_app (y :: r) v (by simp) hv]
    simp
end Go.Proofs.YtnjiniegpjfemaaDoor.Lem
