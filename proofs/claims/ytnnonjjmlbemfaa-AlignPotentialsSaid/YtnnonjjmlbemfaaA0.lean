/- Rows of rows and the table in plain words. -/
import Derived.Test.YtnnonjjmlbemfaaA1
import Derived.Test.YtnnonjjmlbemfaaM2
set_option linter.unusedVariables false
namespace Go.Proofs.Ytnnonjjmlbemfaa.Lem
open Go.RowKit Go.Proofs.Ytnnonjjmlbemfaa.X Go.Proofs.Ytnnonjjmlbemfaa.Al Go.Proofs.YtnnonjjmlbemfaaW.PrintWords Go.Proofs.YtnnonjjmlbemfaaW.PrintLast
theorem row_cl (g : List (List Int)) (i : Nat) : rd_L2 g (i : Int) = g.getD i [] := by unfold rd_L2; rw [Int.toNat_natCast]
theorem rd_cl (g : List (List Int)) (i j : Nat) : rd (rd_L2 g (i : Int)) (j : Int) = cl g i j := by unfold rd cl; rw [row_cl, Int.toNat_natCast]
theorem bl (s : ByteArray) : (bytesOf s).length = s.size := bytesOf_length s
theorem D_small {p q : ByteArray} (g : Gv p q) (i j : Nat) : 0 ≤ D ((bytesOf p).drop i) ((bytesOf q).drop j) ∧ D ((bytesOf p).drop i) ((bytesOf q).drop j) ≤ 320 := by
  have h1 := D_nonneg ((bytesOf p).drop i) ((bytesOf q).drop j)
  have h2 := D_bound ((bytesOf p).drop i) ((bytesOf q).drop j)
  rw [drop_len, drop_len] at h2
  have := g.hp
  have := g.hq
  omega
theorem drop_nil {s : ByteArray} {i : Nat} (hi : i ≤ s.size) : (bytesOf s).drop i = [] ↔ i = s.size := by
  rw [← List.length_eq_zero_iff, drop_len]; omega
theorem tabq_sh (p q : ByteArray) : Sh (tab (bytesOf p) (bytesOf q)) p.size q.size := by have := tab_sh (bytesOf p) (bytesOf q); rwa [bl, bl] at this
theorem tabq_cl (p q : ByteArray) {i j : Nat} (hi : i ≤ p.size) (hj : j ≤ q.size) : cl (tab (bytesOf p) (bytesOf q)) i j = D ((bytesOf p).drop i) ((bytesOf q).drop j) := tab_cl _ _ (by rw [bl]; exact hi) (by rw [bl]; exact hj)
/-- the cells that are known: all rows below row i, and this one from j on; and the last cell -/
structure Kn (p q : ByteArray) (g : List (List Int)) (i j : Nat) : Prop where
  sh : Sh g p.size q.size
  z : cl g p.size q.size = 0
  lo : ∀ i' j', i < i' → i' ≤ p.size → j' ≤ q.size → cl g i' j' = D ((bytesOf p).drop i') ((bytesOf q).drop j')
  at_ : ∀ j', j ≤ j' → j' ≤ q.size → i ≤ p.size → cl g i j' = D ((bytesOf p).drop i) ((bytesOf q).drop j')
theorem Kn.next {p q : ByteArray} {g : List (List Int)} {i j : Nat} (h : Kn p q g i (j + 1)) (hi : i ≤ p.size) (hj : j ≤ q.size) (hne : ¬ (i = p.size ∧ j = q.size)) :
    Kn p q (g.set i ((g.getD i []).set j (D ((bytesOf p).drop i) ((bytesOf q).drop j)))) i j := by
  obtain ⟨s1, s2⟩ := h.sh.set (v := D ((bytesOf p).drop i) ((bytesOf q).drop j)) hi hj
  refine ⟨s1, ?_, fun i' j' a b c => ?_, fun j' a b _ => ?_⟩
  · rw [s2, if_neg (fun x => hne ⟨x.1.symm, x.2.symm⟩)]; exact h.z
  · rw [s2, if_neg (by omega)]; exact h.lo i' j' a b c
  · rw [s2]
    by_cases e : j' = j
    · rw [if_pos ⟨rfl, e⟩, e]
    · rw [if_neg (fun x => e x.2)]; exact h.at_ j' (by omega) b hi
end Go.Proofs.Ytnnonjjmlbemfaa.Lem
