/- Plain lemmas over the printed functions of chapter 57: Fold, letters, words. -/
import Derived.Test.YtmjigfoldeekmaaVV
import Derived.Test.YtmjigfoldeekmaaX3
import Derived.Test.YtmjigfoldeekmaaX12
namespace Go.Proofs.Ytmjigfoldeekmaa.Lem
open Go.RowKit Go.Proofs.Ytmjigfoldeekmaa.X Go.Proofs.YtmjigfoldeekmaaW.PrintWords Go.Proofs.YtmjigfoldeekmaaW.PrintLast
/-! lists -/
theorem set_mid {α : Type} (A : List α) (b c : α) (C : List α) (i : Nat) (h : i = A.length) : (A ++ b :: C).set i c = A ++ c :: C := by
  subst h; rw [List.set_append_right _ _ (Nat.le_refl _), Nat.sub_self]; rfl
theorem rd_mid (A : List Int) (b : Int) (C : List Int) (i : Nat) (h : i = A.length) : rd (A ++ b :: C) (i : Int) = b := by
  subst h; unfold rd; rw [Int.toNat_natCast, List.getD_eq_getElem?_getD, List.getElem?_append_right (Nat.le_refl _), Nat.sub_self]; rfl
/-! Fold -/
def foldB (c : Int) : Int := if 65 ≤ c ∧ c ≤ 90 then c + 32 else c
def foldS (s : ByteArray) : ByteArray := strOfNums ((bytesOf s).map foldB)
theorem foldB_range {c : Int} (h : 0 ≤ c ∧ c ≤ 255) : 0 ≤ foldB c ∧ foldB c ≤ 255 := by unfold foldB; split <;> omega
theorem foldB_foldB (c : Int) : foldB (foldB c) = foldB c := by
  unfold foldB
  (repeat' split) <;> omega
theorem bytesOf_fold (s : ByteArray) : bytesOf (foldS s) = (bytesOf s).map foldB := bytesOf_str _ (by
  intro c hc
  obtain ⟨b, hb, rfl⟩ := List.mem_map.1 hc
  exact foldB_range (bytesOf_range s b hb))
theorem foldS_foldS (s : ByteArray) : foldS (foldS s) = foldS s := by
  show strOfNums ((bytesOf (foldS s)).map foldB) = strOfNums ((bytesOf s).map foldB)
  rw [bytesOf_fold, List.map_map]
  congr 1
  exact List.map_congr_left fun c _ => foldB_foldB c
theorem foldS_size (s : ByteArray) : (foldS s).size = s.size := by
  have h := congrArg List.length (bytesOf_fold s)
  simpa [bytesOf_length] using h
theorem fold_step {c : Int} (h : 0 ≤ c ∧ c ≤ 255) (h1 : c ≥ 65) (h2 : c ≤ 90) : ((((c) - 65) % 256) + 97) % 256 = foldB c := by unfold foldB; rw [if_pos ⟨h1, h2⟩]; omega
def midF (L : List Int) (i : Nat) : List Int := (L.take i).map foldB ++ L.drop i
theorem midF_at (L : List Int) (i : Nat) (h : i < L.length) : midF L i = (L.take i).map foldB ++ L[i] :: L.drop (i + 1) := by unfold midF; rw [List.drop_eq_getElem_cons h]
theorem midF_next (L : List Int) (i : Nat) (h : i < L.length) : midF L (i + 1) = (L.take i).map foldB ++ foldB L[i] :: L.drop (i + 1) := by
  unfold midF; rw [List.take_succ_eq_append_getElem h, List.map_append, List.append_assoc]; rfl
theorem fold_loop (L : List Int) (hr : ∀ c ∈ L, 0 ≤ c ∧ c ≤ 255) (hl : L.length ≤ 140737488355328) (d : Nat) : ∀ i : Nat, i + d = L.length → Ev (fun k => text_Fold.l0 k (midF L i) (L.length : Int) (i : Int)) (strOfNums (L.map foldB)) := by
  induction d with
  | zero =>
    intro i hi
    obtain rfl : i = L.length := by omega
    refine Ev.step (fun k => rfl) (Ev.neg (by omega) (Ev.val ?_))
    rw [midF, List.take_length, List.drop_length, List.append_nil]
  | succ d ih =>
    intro i hi
    have hlt : i < L.length := by omega
    have hm : (midF L i).length = L.length := by unfold midF; simp; omega
    refine Ev.step (fun k => rfl) (Ev.pos (by omega) (Ev.pos (by omega) (Ev.pos (by rw [hm]; omega) ?_)))
    have hti : i = ((L.take i).map foldB).length := by simp; omega
    have hc := hr L[i] (List.getElem_mem hlt)
    rw [midF_at L i hlt, rd_mid _ _ _ _ hti]
    have ih1 := ih (i + 1) (by omega)
    rw [midF_next L i hlt] at ih1
    rw [w64 (by omega) (by omega), Int.toNat_natCast]
    by_cases h1 : L[i] ≥ 65
    · refine Ev.pos h1 ?_
      by_cases h2 : L[i] ≤ 90
      · refine Ev.pos h2 ?_
        rw [set_mid _ _ _ _ _ hti, fold_step hc h1 h2]
        exact ih1
      · refine Ev.neg h2 ?_
        rw [show foldB L[i] = L[i] by unfold foldB; rw [if_neg (by omega)]] at ih1
        exact ih1
    · refine Ev.neg h1 ?_
      rw [show foldB L[i] = L[i] by unfold foldB; rw [if_neg (by omega)]] at ih1
      exact ih1
theorem fold_ev (s : ByteArray) (hs : s.size ≤ 140737488355328) : Ev (fun k => text_Fold.f k s) (foldS s) := by
  unfold text_Fold.f
  refine Ev.pos hs (Ev.just ?_)
  have := fold_loop (bytesOf s) (bytesOf_range s) (by rw [bytesOf_length]; exact hs) (bytesOf s).length 0 (by omega)
  exact this
def midR (L : List Int) (i : Nat) : List Int := (L.take i).map foldB ++ List.replicate (L.length - i) 0
theorem midR_at (L : List Int) (i : Nat) (h : i < L.length) : midR L i = (L.take i).map foldB ++ 0 :: List.replicate (L.length - (i + 1)) 0 := by
  unfold midR; rw [show L.length - i = (L.length - (i + 1)) + 1 by omega, List.replicate_succ]
theorem midR_next (L : List Int) (i : Nat) (h : i < L.length) : midR L (i + 1) = (L.take i).map foldB ++ foldB L[i] :: List.replicate (L.length - (i + 1)) 0 := by
  unfold midR; rw [List.take_succ_eq_append_getElem h, List.map_append, List.append_assoc]; rfl
theorem bt_bytes (s : ByteArray) (i : Nat) (h : i < (bytesOf s).length) : bt s (i : Int) = (bytesOf s)[i] := by
  rw [bytesOf_get s i (by rw [bytesOf_length] at h; exact h)]
theorem rfold_loop (s : ByteArray) (hs : s.size ≤ 140737488355328) (d : Nat) : ∀ i : Nat, i + d = s.size → Ev (fun k => ancepsref01_Fold.l0 k s (i : Int) (midR (bytesOf s) i)) (foldS s) := by
  induction d with
  | zero =>
    intro i hi
    obtain rfl : i = s.size := by omega
    refine Ev.step (fun k => rfl) (Ev.neg (by omega) (Ev.val ?_))
    unfold foldS midR
    rw [← bytesOf_length s, List.take_length, Nat.sub_self, List.replicate_zero, List.append_nil]
  | succ d ih =>
    intro i hi
    have hlt : i < (bytesOf s).length := by rw [bytesOf_length]; omega
    have hm : (midR (bytesOf s) i).length = (bytesOf s).length := by unfold midR; simp; omega
    refine Ev.step (fun k => rfl) (Ev.pos (by omega) (Ev.pos (by omega) (Ev.pos (by rw [hm]; omega) ?_)))
    have hti : i = (((bytesOf s).take i).map foldB).length := by simp; omega
    have hc := bytesOf_range s (bytesOf s)[i] (List.getElem_mem hlt)
    rw [midR_at _ i hlt, Int.toNat_natCast, set_mid _ _ _ _ _ hti, bt_bytes s i hlt]
    refine Ev.just ?_
    have ih1 := ih (i + 1) (by omega)
    rw [midR_next _ i hlt] at ih1
    rw [w64 (by omega) (by omega)]
    by_cases h1 : (bytesOf s)[i] ≥ 65
    · refine Ev.pos h1 ?_
      by_cases h2 : (bytesOf s)[i] ≤ 90
      · refine Ev.pos h2 ?_
        rw [set_mid _ _ _ _ _ hti, fold_step hc h1 h2]
        exact ih1
      · refine Ev.neg h2 ?_
        rw [show foldB (bytesOf s)[i] = (bytesOf s)[i] by unfold foldB; rw [if_neg (by omega)]] at ih1
        exact ih1
    · refine Ev.neg h1 ?_
      rw [show foldB (bytesOf s)[i] = (bytesOf s)[i] by unfold foldB; rw [if_neg (by omega)]] at ih1
      exact ih1
theorem rfold_ev (s : ByteArray) (hs : s.size ≤ 140737488355328) : Ev (fun k => ancepsref01_Fold.f k s) (foldS s) := by
  unfold ancepsref01_Fold.f
  refine Ev.pos (by omega) (Ev.pos (by omega) ?_)
  have := rfold_loop s hs s.size 0 (by omega)
  unfold midR at this
  rw [bytesOf_length] at this
  exact this
end Go.Proofs.Ytmjigfoldeekmaa.Lem
