/- Plain lemmas of the sounds' chapter: beats, nuclei and clusters of a list. -/
import Derived.Test.YtnjiniegpjfemaaDoorS2
import Derived.Test.YtnjiniegpjfemaaDoorX1
namespace Go.Proofs.YtnjiniegpjfemaaDoor.Lem
open Go.RowKit Go.Proofs.YtnjiniegpjfemaaDoor.X Go.Proofs.YtnjiniegpjfemaaDoorW.PrintWords Go.Proofs.YtnjiniegpjfemaaDoorW.PrintLast
def beat (a : Int) : Int := if a = 7 then 2 else if 3 ≤ a ∧ a ≤ 8 then 1 else 0
def bsum : List S23 → Int
  | [] => 0
  | x :: r => beat x.f0 + bsum r
theorem beat_range (a : Int) : 0 ≤ beat a ∧ beat a ≤ 2 := by unfold beat; repeat' split <;> omega
theorem bsum_range : ∀ l : List S23, 0 ≤ bsum l ∧ bsum l ≤ 2 * l.length
  | [] => by simp [bsum]
  | x :: r => by
    have := bsum_range r
    have := beat_range x.f0
    simp only [bsum, List.length_cons]
    omega
theorem bsum_app : ∀ l m : List S23, bsum (l ++ m) = bsum l + bsum m
  | [], m => by simp [bsum]
  | x :: r, m => by rw [List.cons_append, bsum, bsum, bsum_app r m]; omega
def nucI : Nat → List S23 → List Int
  | _, [] => []
  | i, x :: r => if nuc x.f0 = true then (i : Int) :: nucI (i + 1) r else nucI (i + 1) r
def clus (z : List S23) : List S23 → List (List S23)
  | [] => [z]
  | x :: r => if nuc x.f0 = true then z :: clus [] r else clus (z ++ [x]) r
theorem beats_f (a b : Int) (t : ByteArray) : sound_beats.f a b t = some (beat a) := by
  unfold sound_beats.f beat
  repeat' split
  all_goals simp_all
  all_goals omega
theorem beats_loop (l : List S23) (hl : l.length ≤ 100000) (d : Nat) : ∀ (i : Nat) (n : Int), i + d = l.length → 0 ≤ n → n ≤ 2 * i → Ev (fun k => sound_Beats.l0 k n l (l.length : Int) (i : Int)) (n + bsum (l.drop i)) := by
  induction d with
  | zero =>
    intro i n hi _ _
    rw [List.drop_of_length_le (by omega)]
    exact Ev.step (fun k => rfl) (Ev.neg (by omega) (Ev.val (by simp [bsum])))
  | succ d ih =>
    intro i n hi h0 h1
    have hlt : i < l.length := by omega
    rw [List.drop_eq_getElem_cons hlt, bsum]
    have hb := beat_range l[i].f0
    have hc : sound_beats.f (rd_T23 l (i : Int)).f0 (rd_T23 l (i : Int)).f1 (rd_T23 l (i : Int)).f2 = some (beat l[i].f0) := by rw [rd_at l i hlt]; exact beats_f _ _ _
    refine Ev.step (fun k => rfl) (Ev.pos (by omega) (Ev.pos (by omega) (Ev.pos (by omega) (Ev.bind (Ev.now' hc) ?_))))
    rw [w64 (by omega) (by omega), w64 (by omega) (by omega), ← Int.add_assoc]
    exact ih (i + 1) _ (by omega) (by omega) (by omega)
theorem beats_ev (l : List S23) (hl : l.length ≤ 100000) : Ev (fun k => sound_Beats.f k l) (bsum l) := by
  have := beats_loop l hl l.length 0 0 (by omega) (by omega) (by omega)
  rw [List.drop_zero, Int.zero_add] at this
  exact this
theorem nuclei_loop (l : List S23) (hl : l.length ≤ 100000) (d : Nat) : ∀ (i : Nat) (a : List Int), i + d = l.length → a.length ≤ i → Ev (fun k => sound_Nuclei.l0 k a l (l.length : Int) (i : Int)) (a ++ nucI i (l.drop i)) := by
  induction d with
  | zero =>
    intro i a hi _
    rw [List.drop_of_length_le (by omega)]
    exact Ev.step (fun k => rfl) (Ev.neg (by omega) (Ev.val (by simp [nucI])))
  | succ d ih =>
    intro i a hi ha
    have hlt : i < l.length := by omega
    rw [List.drop_eq_getElem_cons hlt, nucI]
    have hc : sound_Nucleus.f (rd_T23 l (i : Int)).f0 (rd_T23 l (i : Int)).f1 (rd_T23 l (i : Int)).f2 = some (nuc l[i].f0) := by rw [rd_at l i hlt]; exact nucleus_f _ _ _
    refine Ev.step (fun k => rfl) (Ev.pos (by omega) (Ev.pos (by omega) (Ev.pos (by omega) (Ev.bind (Ev.now' hc) (Ev.cond (fun h => ?_) (fun h => ?_))))))
    · rw [if_pos h]
      refine Ev.pos (by omega) ?_
      rw [w64 (by omega) (by omega)]
      have := ih (i + 1) (a ++ [(i : Int)]) (by omega) (by rw [List.length_append]; simp; omega)
      rw [List.append_assoc] at this
      exact this
    · rw [if_neg h, w64 (by omega) (by omega)]
      exact ih (i + 1) a (by omega) (by omega)
theorem nuclei_ev (l : List S23) (hl : l.length ≤ 100000) : Ev (fun k => sound_Nuclei.f k l) (nucI 0 l) := by
  have := nuclei_loop l hl l.length 0 [] (by omega) (by simp)
  rw [List.drop_zero, List.nil_append] at this
  exact this
theorem rd_snoc (us : List (List S23)) (z : List S23) : rd_L3 (us ++ [z]) (us.length : Int) = z := by
  unfold rd_L3
  rw [Int.toNat_natCast, List.getD_eq_getElem?_getD, List.getElem?_append_right (Nat.le_refl _), Nat.sub_self]; rfl
theorem last_at (us : List (List S23)) (z : List S23) (h : us.length ≤ 100000) : wrap64 (((us ++ [z]).length : Int) - 1) = (us.length : Int) := by
  rw [List.length_append, List.length_singleton, w64 (by omega) (by omega)]
  omega
theorem set_snoc (us : List (List S23)) (z y : List S23) : (us ++ [z]).set ((us.length : Int)).toNat y = us ++ [y] := by
  rw [Int.toNat_natCast, List.set_append_right _ _ (Nat.le_refl _), Nat.sub_self]; simp
theorem clusters_loop (l : List S23) (hl : l.length ≤ 100000) (d : Nat) : ∀ (i : Nat) (us : List (List S23)) (z : List S23), i + d = l.length → us.length ≤ i → z.length ≤ i → Ev (fun k => sound_Clusters.l0 k (us ++ [z]) l (l.length : Int) (i : Int)) (us ++ clus z (l.drop i)) := by
  induction d with
  | zero =>
    intro i us z hi _ _
    rw [List.drop_of_length_le (by omega)]
    exact Ev.step (fun k => rfl) (Ev.neg (by omega) (Ev.val (by simp [clus])))
  | succ d ih =>
    intro i us z hi hu hz
    have hlt : i < l.length := by omega
    rw [List.drop_eq_getElem_cons hlt, clus]
    have hc : sound_Nucleus.f (rd_T23 l (i : Int)).f0 (rd_T23 l (i : Int)).f1 (rd_T23 l (i : Int)).f2 = some (nuc l[i].f0) := by rw [rd_at l i hlt]; exact nucleus_f _ _ _
    refine Ev.step (fun k => rfl) (Ev.pos (by omega) (Ev.pos (by omega) (Ev.pos (by omega) (Ev.bind (Ev.now' hc) (Ev.cond (fun h => ?_) (fun h => ?_))))))
    · rw [if_pos h]
      refine Ev.pos (by rw [List.length_append]; simp; omega) ?_
      rw [w64 (i := (i : Int) + 1) (by omega) (by omega)]
      have := ih (i + 1) (us ++ [z]) [] (by omega) (by rw [List.length_append]; simp; omega) (by simp)
      rw [List.append_assoc us [z] (clus _ _)] at this
      exact this
    · rw [if_neg h, last_at us z (by omega), rd_snoc, set_snoc, w64 (i := (i : Int) + 1) (by omega) (by omega), rd_at l i hlt]
      exact Ev.pos (by omega) (Ev.pos (by rw [List.length_append]; simp; omega) (Ev.pos (by omega) (ih (i + 1) us (z ++ [l[i]]) (by omega) (by omega) (by rw [List.length_append]; simp; omega))))
theorem clusters_ev (l : List S23) (hl : l.length ≤ 100000) : Ev (fun k => sound_Clusters.f k l) (clus [] l) := by
  have := clusters_loop l hl l.length 0 [] [] (by omega) (by simp) (by simp)
  rw [List.drop_zero, List.nil_append, List.nil_append] at this
  exact this
theorem clus_len : ∀ (l : List S23) (z : List S23) (i : Nat), (clus z l).length = (nucI i l).length + 1
  | [], z, i => rfl
  | x :: r, z, i => by
    rw [clus, nucI]
    split
    · rw [List.length_cons, List.length_cons, clus_len r [] (i + 1)]
    · exact clus_len r _ (i + 1)
theorem nucI_len : ∀ (l : List S23) (i : Nat), (nucI i l).length ≤ l.length
  | [], i => by simp [nucI]
  | x :: r, i => by
    have := nucI_len r (i + 1)
    rw [nucI]
    split <;> simp only [List.length_cons] <;> omega
theorem clus_mem : ∀ (l : List S23) (z : List S23), ∀ y ∈ clus z l, y.length ≤ z.length + l.length
  | [], z, y, h => by simp [clus] at h; subst h; simp
  | x :: r, z, y, h => by
    rw [clus] at h
    split at h
    · rcases List.mem_cons.1 h with rfl | h
      · omega
      · have := clus_mem r [] y h; simp only [List.length_cons, List.length_nil] at *; omega
    · have := clus_mem r _ y h; simp only [List.length_cons, List.length_append, List.length_nil] at *; omega
end Go.Proofs.YtnjiniegpjfemaaDoor.Lem
