/- The clusters of a described list and its nuclei, in turn, are the list; its beats are those of its clusters together. -/
import Derived.Test.YtnjiniegpjfemaaDoorS3
import Derived.Test.YtnjiniegpjfemaaDoorS5
import Derived.Test.YtnjiniegpjfemaaDoorX12
namespace Go.Proofs.YtnjiniegpjfemaaDoor.Pure
open Go.RowKit Go.Proofs.YtnjiniegpjfemaaDoor.X Go.Proofs.YtnjiniegpjfemaaDoor.Lem Go.Proofs.YtnjiniegpjfemaaDoorW.PrintWords Go.Proofs.YtnjiniegpjfemaaDoorW.PrintLast
/-- the first cluster and what stands behind it -/
theorem clus_split : ∀ (l z : List S23) (p : Nat), (clus z l = [z ++ l] ∧ nucI p l = []) ∨
    ∃ y x r, l = y ++ x :: r ∧ nuc x.f0 = true ∧ clus z l = (z ++ y) :: clus [] r ∧ nucI p l = ((p + y.length : Nat) : Int) :: nucI (p + y.length + 1) r
  | [], z, p => .inl ⟨by simp [clus], rfl⟩
  | x :: r, z, p => by
    by_cases h : nuc x.f0 = true
    · exact .inr ⟨[], x, r, rfl, h, by rw [clus, if_pos h, List.append_nil], by rw [nucI, if_pos h]; rfl⟩
    · rcases clus_split r (z ++ [x]) (p + 1) with ⟨h1, h2⟩ | ⟨y, x', r', h1, h2, h3, h4⟩
      · exact .inl ⟨by rw [clus, if_neg h, h1, List.append_assoc]; rfl, by rw [nucI, if_neg h, h2]⟩
      · refine .inr ⟨x :: y, x', r', by rw [h1]; rfl, h2, by rw [clus, if_neg h, h3, List.append_assoc]; rfl, ?_⟩
        rw [nucI, if_neg h, h4, List.length_cons]
        rw [show p + 1 + y.length = p + (y.length + 1) by omega]
theorem nuc_beat {a : Int} (h : nuc a = true) : beat a = 0 := by
  unfold nuc at h
  simp only [Bool.or_eq_true, beq_iff_eq] at h
  unfold beat
  rw [if_neg (by omega), if_neg (by omega)]
theorem rdL_at (l : List (List S23)) (i : Nat) (h : i < l.length) : rd_L3 l (i : Int) = l[i] := by
  unfold rd_L3
  rw [Int.toNat_natCast, List.getD_eq_getElem?_getD, List.getElem?_eq_getElem h]; rfl
theorem rdI_at (l : List Int) (i : Nat) (h : i < l.length) : rd l (i : Int) = l[i] := by
  unfold rd
  rw [Int.toNat_natCast, List.getD_eq_getElem?_getD, List.getElem?_eq_getElem h]; rfl
theorem head_of_drop {α : Type} {l : List α} {j : Nat} {x : α} {r : List α} (h : l.drop j = x :: r) : ∃ hj : j < l.length, l[j] = x ∧ l.drop (j + 1) = r := by
  have hj : j < l.length := by
    rcases Nat.lt_or_ge j l.length with h1 | h1
    · exact h1
    · rw [List.drop_of_length_le h1] at h; cases h
  rw [List.drop_eq_getElem_cons hj] at h
  exact ⟨hj, (List.cons.inj h).1, (List.cons.inj h).2⟩
theorem rebuilt_end (l : List S23) (ns : List Int) (cs : List (List S23)) (hl : l.length ≤ 1000) (j : Nat) (hj : cs.length ≤ j) (b : Int) (hb : b = bsum l) : Ev (fun k => ancepslaw11_SoundRebuilt.l0 k l ns l b cs (cs.length : Int) (j : Int)) true := by
  refine Ev.step (fun k => ancepslaw11_SoundRebuilt.l0.eq_2 _ _ _ _ _ _ _ _) (Ev.neg (by omega) (Ev.bind (same_self l (by omega)) (Ev.pos rfl (Ev.bind (beats_ev l (by omega)) (Ev.val ?_)))))
  rw [hb]; simp
theorem rebuilt_loop (l : List S23) (ns : List Int) (cs : List (List S23)) (hl : l.length ≤ 1000) (hc : cs.length ≤ 2000) : ∀ (d p j : Nat), p + d = l.length → cs.drop j = clus [] (l.drop p) → ns.drop j = nucI p (l.drop p) →
    Ev (fun k => ancepslaw11_SoundRebuilt.l0 k l ns (l.take p) (bsum (l.take p)) cs (cs.length : Int) (j : Int)) true := by
  intro d
  induction d using Nat.strongRecOn with
  | _ d ih =>
    intro p j hp h1 h2
    have hb := bsum_range (l.take p)
    rw [List.length_take] at hb
    rcases clus_split (l.drop p) [] p with ⟨e1, e2⟩ | ⟨y, x, r, e0, e3, e1, e2⟩
    · rw [e1, List.nil_append] at h1
      rw [e2] at h2
      obtain ⟨hj, hx, hn⟩ := head_of_drop h1
      have hns : ns.length ≤ j := by
        rcases Nat.lt_or_ge j ns.length with h | h
        · rw [List.drop_eq_getElem_cons h] at h2; cases h2
        · exact h
      have hbs := beats_ev (l.drop p) (by rw [List.length_drop]; omega)
      have hap : bsum (l.take p) + bsum (l.drop p) = bsum l := by rw [← bsum_app, List.take_append_drop]
      have hbl := bsum_range l
      refine Ev.step (fun k => ancepslaw11_SoundRebuilt.l0.eq_2 _ _ _ _ _ _ _ _) (Ev.pos (by omega) (Ev.pos (by omega) (Ev.pos (by omega) ?_)))
      rw [rdL_at cs j hj, hx]
      refine Ev.pos (by rw [List.length_take, List.length_drop]; omega) (Ev.bind (Ev.now _) (Ev.bind hbs (Ev.neg (by omega) ?_)))
      rw [w64 (i := (j : Int) + 1) (by omega) (by omega), w64 (by omega) (by omega), List.take_append_drop]
      have hlen : cs.length ≤ j + 1 := by
        have := congrArg List.length hn
        rw [List.length_drop] at this
        simp at this
        omega
      exact rebuilt_end l ns cs hl (j + 1) hlen _ hap
    · rw [e1, List.nil_append] at h1
      rw [e2] at h2
      obtain ⟨hj, hx, hn⟩ := head_of_drop h1
      obtain ⟨hj2, hx2, hn2⟩ := head_of_drop h2
      have hlen : (l.drop p).length = y.length + (r.length + 1) := by rw [e0, List.length_append, List.length_cons]
      rw [List.length_drop] at hlen
      have hq : p + y.length < l.length := by omega
      have hat : l[p + y.length] = x := by
        have : l[p + y.length]? = some x := by
          rw [← List.getElem?_drop, e0, List.getElem?_append_right (Nat.le_refl _), Nat.sub_self]; rfl
        rw [List.getElem?_eq_getElem hq] at this
        exact Option.some.inj this
      have htk : l.take (p + y.length + 1) = l.take p ++ y ++ [x] := by
        have h5 : l = l.take p ++ (y ++ x :: r) := by rw [← e0, List.take_append_drop]
        have h6 : (l.take p ++ y ++ [x]) ++ r = l := by
          conv => rhs; rw [h5]
          simp
        have h7 : (l.take p ++ y ++ [x]).length = p + y.length + 1 := by
          simp only [List.length_append, List.length_take, List.length_singleton]
          omega
        conv => lhs; rw [← h6]
        rw [← h7, List.take_left]
      have hdr : l.drop (p + y.length + 1) = r := by
        rw [show p + y.length + 1 = p + (y.length + 1) by omega, ← List.drop_drop, e0, List.drop_append, List.drop_of_length_le (by omega), List.nil_append, show y.length + 1 - y.length = 1 by omega]; rfl
      have hby := bsum_range y
      have hbs := beats_ev y (by omega)
      have hnx : sound_Nucleus.f (rd_T23 l ((p + y.length : Nat) : Int)).f0 (rd_T23 l ((p + y.length : Nat) : Int)).f1 (rd_T23 l ((p + y.length : Nat) : Int)).f2 = some true := by
        rw [rd_at l _ hq, hat, nucleus_f, e3]
      have hb2 : bsum (l.take (p + y.length + 1)) = bsum (l.take p) + bsum y := by
        rw [htk, bsum_app, bsum_app, bsum, bsum, nuc_beat e3]; omega
      have hih := ih (l.length - (p + y.length + 1)) (by omega) (p + y.length + 1) (j + 1) (by omega) (by rw [hn, hdr]) (by rw [hn2, hdr])
      refine Ev.step (fun k => ancepslaw11_SoundRebuilt.l0.eq_2 _ _ _ _ _ _ _ _) (Ev.pos (by omega) (Ev.pos (by omega) (Ev.pos (by omega) ?_)))
      rw [rdL_at cs j hj, hx, rdI_at ns j hj2, hx2]
      refine Ev.pos (by rw [List.length_take]; omega) (Ev.bind (Ev.now _) (Ev.bind hbs (Ev.pos (by omega) (Ev.neg (by omega) (Ev.neg (by omega) (Ev.pos (by omega) (Ev.pos (by omega) (Ev.bind (Ev.now' hnx) (Ev.pos rfl (Ev.pos (by rw [List.length_append, List.length_take]; omega) ?_))))))))))
      rw [w64 (i := (j : Int) + 1) (by omega) (by omega), w64 (by omega) (by omega), rd_at l _ hq, hat]
      rw [htk, ← htk, hb2, htk] at hih
      exact hih
theorem rebuilt_j0 (l : List Int) (hb : ∀ x ∈ l, (Lit.int .u8 x).wf = true) (x : Bool) (hl : x = false → l.length ≤ 100) : Ev (fun k => ancepslaw11_SoundRebuilt.j0 k l x) true := by
  refine Ev.step (fun k => ancepslaw11_SoundRebuilt.j0.eq_2 _ _ _) (Ev.cond (fun h => Ev.bind awake_ev (Ev.now _)) (fun h => ?_))
  have hl := hl (by simpa using h)
  have hn := nucI_len (allS l) 0
  have hc := clus_len (allS l) [] 0
  have ha := allS_len l
  refine Ev.bind (all_ev l (by omega) hb) (Ev.bind (nuclei_ev _ (by omega)) (Ev.bind (clusters_ev _ (by omega)) (Ev.pos (by rw [w64 (by omega) (by omega)]; omega) ?_)))
  exact rebuilt_loop (allS l) (nucI 0 (allS l)) (clus [] (allS l)) (by omega) (by omega) (allS l).length 0 0 (by omega) rfl rfl
theorem SoundRebuilt : ancepslaw11_SoundRebuilt.Pure := by
  intro l _ _ hb
  refine Ev.rounds ?_
  unfold ancepslaw11_SoundRebuilt.f
  exact Ev.bind awake_ev (Ev.pos rfl (rebuilt_j0 l hb _ (fun h => by simp only [decide_eq_false_iff_not] at h; omega)))
end Go.Proofs.YtnjiniegpjfemaaDoor.Pure
