/- Groups of package apparatus returns what the reference returns, for any apparatus; each witness is in one group, and two are in the same one exactly if they agree in all rows (what is larger than the law's own guards is left out by the law itself). -/
import Derived.Test.YtmjigfoldeekmaaV4
import Derived.Test.YtmjigfoldeekmaaVE
import Derived.Test.YtmjigfoldeekmaaVF
import Derived.Test.YtmjigfoldeekmaaX19
namespace Go.Proofs.Ytmjigfoldeekmaa.Pure
open Go.RowKit Go.Proofs.Ytmjigfoldeekmaa.X Go.Proofs.Ytmjigfoldeekmaa.Lem Go.Proofs.YtmjigfoldeekmaaW.PrintWords Go.Proofs.YtmjigfoldeekmaaW.PrintLast
theorem awake_ev : Ev (fun k => ancepslaw57_awake.f k) true := Ev.of (fun k => ancepslaw57_awake.mono k) (k := 60) (by kernel_rfl)
theorem rdG (l : List (List ByteArray)) (i : Nat) : rd_L8 l (i : Int) = l.getD i [] := by unfold rd_L8; rw [Int.toNat_natCast]
theorem rdA (a : List Int) (i : Nat) : rd a (i : Int) = a.getD i 0 := by unfold rd; rw [Int.toNat_natCast]
/-- What the array says of a witness when the groups ahead of i have been counted. -/
def Old (l : List S65) (R : List Nat) (i v : Nat) (x : Int) : Prop := (x = 0 ∧ ∀ j, j < i → ¬ Agr l (R.getD j 0) v) ∨ ∃ j, j < i ∧ x = (j : Int) + 1 ∧ Agr l (R.getD j 0) v
def Inv (l : List S65) (R : List Nat) (n i : Nat) (a : List Int) : Prop := a.length = n ∧ ∀ v, v < n → Old l R i v (a.getD v 0)
def InvP (l : List S65) (R : List Nat) (n i f j : Nat) (a : List Int) : Prop := a.length = n ∧ ∀ v, v < n → (a.getD v 0 = (i : Int) + 1 ∧ Agr l f v) ∨ (¬ (Agr l f v ∧ f ≤ v ∧ v < j) ∧ Old l R i v (a.getD v 0))
theorem getD_set (a : List Int) (j v : Nat) (x : Int) (hj : j < a.length) : (a.set j x).getD v 0 = if v = j then x else a.getD v 0 := by
  rw [List.getD_eq_getElem?_getD, List.getD_eq_getElem?_getD, List.getElem?_set]
  by_cases h : j = v
  · subst h; rw [if_pos rfl, if_pos rfl, if_pos hj]; rfl
  · rw [if_neg h, if_neg (fun e => h e.symm)]
theorem l1_loop (ws : List ByteArray) (hwl : ws.length ≤ 1000000) (l : List S65) (hn : namesS ws = 0) (R : List Nat) (i f : Nat) (hi : i ≤ 1000000) (g : List ByteArray) (hgl : g.length ≤ 1000000) (x3 x5 : List (List ByteArray)) (x52 : Int) (r : Bool)
    (hend : ∀ a, InvP l R ws.length i f ws.length a → Ev (fun k => ancepslaw57_ApparatusGroups.l0 k x3 0 x5 a x52 ((i : Int) + 1) ws l) r) (d : Nat) :
    ∀ (j p : Nat) (a : List Int), j + d = ws.length → f ≤ j → p ≤ g.length → g.drop p = grpF ws l f d j → InvP l R ws.length i f j a → Ev (fun k => ancepslaw57_ApparatusGroups.l1 k x3 0 x5 (i : Int) a x52 (i : Int) g (g.length : Int) (p : Int) ws l) r := by
  induction d with
  | zero =>
    intro j p a hj hf hp hd hI
    obtain rfl : j = ws.length := by omega
    have : g.length ≤ p := List.drop_eq_nil_iff.1 hd
    refine Ev.step (fun k => ancepslaw57_ApparatusGroups.l1.eq_2 _ _ _ _ _ _ _ _ _ _ _ _ _) (Ev.neg (by omega) ?_)
    rw [w64 (by omega) (by omega)]
    exact hend a hI
  | succ d ih =>
    intro j p a hj hf hp hd hI
    rw [grpF] at hd
    by_cases hA : Agr l f j
    · rw [if_pos hA, List.singleton_append] at hd
      have hpl : p < g.length := by
        by_cases h : p < g.length
        · exact h
        · rw [List.drop_of_length_le (by omega)] at hd; cases hd
      rw [drop_getD g ByteArray.empty hpl] at hd
      obtain ⟨h1, h2⟩ := List.cons.inj hd
      refine Ev.step (fun k => ancepslaw57_ApparatusGroups.l1.eq_2 _ _ _ _ _ _ _ _ _ _ _ _ _) (Ev.pos (by omega) (Ev.pos (by omega) (Ev.pos (by omega) ?_)))
      rw [rdOf_getD, h1, w64 (i := (p : Int) + 1) (by omega) (by omega), w64 (i := (i : Int) + 1) (by omega) (by omega)]
      have hx := index_ev ws (ws.getD j ByteArray.empty) (by omega)
      rw [idxF_name hn (by omega)] at hx
      refine Ev.bind hx (Ev.pos (by omega) (Ev.pos (by omega) (Ev.pos (by have := hI.1; omega) ?_)))
      rw [Int.toNat_natCast]
      refine ih (j + 1) (p + 1) _ (by omega) (by omega) (by omega) h2 ⟨by rw [List.length_set]; exact hI.1, fun v hv => ?_⟩
      rw [getD_set a j v _ (by have := hI.1; omega)]
      by_cases e : v = j
      · subst e; rw [if_pos rfl]; exact .inl ⟨rfl, hA⟩
      · rw [if_neg e]
        rcases hI.2 v hv with h | ⟨h, h'⟩
        · exact .inl h
        · exact .inr ⟨fun ⟨q1, q2, q3⟩ => h ⟨q1, q2, by omega⟩, h'⟩
    · rw [if_neg hA, List.nil_append] at hd
      refine ih (j + 1) p a (by omega) (by omega) hp hd ⟨hI.1, fun v hv => ?_⟩
      rcases hI.2 v hv with h | ⟨h, h'⟩
      · exact .inl h
      · refine .inr ⟨fun ⟨q1, q2, q3⟩ => ?_, h'⟩
        by_cases e : v = j
        · subst e; exact hA q1
        · exact h ⟨q1, q2, by omega⟩
theorem l0_loop (ws : List ByteArray) (hwl : ws.length ≤ 1000000) (l : List S65) (hn : namesS ws = 0) (r : Bool)
    (hend : ∀ a, Inv l (repsS l ws.length) ws.length (repsS l ws.length).length a → Ev (fun k => ancepslaw57_ApparatusGroups.l2 k a ws (ws.length : Int) 0 ws l) r) (d : Nat) :
    ∀ (i : Nat) (a : List Int), i + d = (repsS l ws.length).length → Inv l (repsS l ws.length) ws.length i a →
      Ev (fun k => ancepslaw57_ApparatusGroups.l0 k (groupsF ws l ws.length) 0 (groupsF ws l ws.length) a ((groupsF ws l ws.length).length : Int) (i : Int) ws l) r := by
  have hgl : (groupsF ws l ws.length).length = (repsS l ws.length).length := by unfold groupsF; rw [List.length_map]
  have hrl := reps_len l ws.length
  induction d with
  | zero =>
    intro i a hi hI
    obtain rfl : i = (repsS l ws.length).length := by omega
    exact Ev.step (fun k => ancepslaw57_ApparatusGroups.l0.eq_2 _ _ _ _ _ _ _ _ _) (Ev.neg (by omega) (Ev.pos rfl (hend a hI)))
  | succ d ih =>
    intro i a hi hI
    obtain ⟨f, hf⟩ : ∃ f, (repsS l ws.length).getD i 0 = f := ⟨_, rfl⟩
    have hfm : f < ws.length ∧ ∀ u, u < f → ¬ Agr l u f := by
      refine mem_reps.1 ?_
      rw [← hf, getD_lt _ _ (by omega : i < (repsS l ws.length).length)]
      exact List.getElem_mem _
    have hg : (groupsF ws l ws.length).getD i [] = grpS ws l ws.length f := by
      rw [getD_lt _ _ (by omega : i < (groupsF ws l ws.length).length)]
      unfold groupsF
      rw [List.getElem_map, ← hf, getD_lt _ _ (by omega : i < (repsS l ws.length).length)]
    have hgl2 : (grpS ws l ws.length f).length ≤ 1000000 := by
      have := grp_len ws l f (ws.length - f) f
      unfold grpS; omega
    refine Ev.step (fun k => ancepslaw57_ApparatusGroups.l0.eq_2 _ _ _ _ _ _ _ _ _) (Ev.pos (by omega) (Ev.pos (by omega) (Ev.pos (by omega) (Ev.pos (by omega) ?_))))
    rw [rdG, hg]
    refine Ev.bind (equal_ev _ (by omega)) (Ev.pos rfl ?_)
    refine l1_loop ws hwl l hn (repsS l ws.length) i f (by omega) _ hgl2 _ _ _ r (fun a' hI' => ?_) (ws.length - f) f 0 a (by omega) (Nat.le_refl _) (Nat.zero_le _) rfl ⟨hI.1, fun v hv => .inr ⟨fun h => by omega, hI.2 v hv⟩⟩
    refine ih (i + 1) a' (by omega) ⟨hI'.1, fun v hv => ?_⟩
    rcases hI'.2 v hv with ⟨h1, h2⟩ | ⟨h1, h2⟩
    · exact .inr ⟨i, by omega, h1, by rw [hf]; exact h2⟩
    · rcases h2 with ⟨h2, h3⟩ | ⟨j, h2, h3, h4⟩
      · refine .inl ⟨h2, fun j hj => ?_⟩
        by_cases e : j = i
        · subst e
          rw [hf]
          intro h4
          by_cases hlt : v < f
          · exact hfm.2 v hlt h4.symm
          · exact h1 ⟨h4, by omega, hv⟩
        · exact h3 j (by omega)
      · exact .inr ⟨j, by omega, h3, h4⟩
/-- What the array says at the end. -/
theorem inv_end {l : List S65} {n : Nat} {a : List Int} (h : Inv l (repsS l n) n (repsS l n).length a) {v : Nat} (hv : v < n) : ∃ j, j < (repsS l n).length ∧ a.getD v 0 = (j : Int) + 1 ∧ Agr l ((repsS l n).getD j 0) v := by
  rcases h.2 v hv with ⟨_, h2⟩ | h2
  · obtain ⟨f, hf, _, ha⟩ := rep_of l v n v hv (Agr.rfl_ l v)
    obtain ⟨j, hj, rfl⟩ := List.mem_iff_getElem.1 hf
    refine absurd ?_ (h2 j hj)
    rw [getD_lt _ _ hj]
    exact ha
  · exact h2
theorem inv_same {l : List S65} {n : Nat} {a : List Int} (h : Inv l (repsS l n) n (repsS l n).length a) {u v : Nat} (hu : u < n) (hv : v < n) : a.getD u 0 = a.getD v 0 ↔ Agr l u v := by
  obtain ⟨j, hj, h1, h2⟩ := inv_end h hu
  obtain ⟨j', hj', h3, h4⟩ := inv_end h hv
  constructor
  · intro e
    obtain rfl : j = j' := by omega
    exact h2.symm.trans h4
  · intro e
    have h5 := (h2.trans e).trans h4.symm
    rw [getD_lt _ _ hj, getD_lt _ _ hj'] at h5
    have hp := List.pairwise_iff_getElem.1 (reps_asc l n)
    rcases Nat.lt_trichotomy j j' with hlt | rfl | hlt
    · exact absurd h5 ((mem_reps.1 (List.getElem_mem hj')).2 _ (hp j j' hj hj' hlt))
    · rw [h1, h3]
    · exact absurd h5.symm ((mem_reps.1 (List.getElem_mem hj)).2 _ (hp j' j hj' hj hlt))
theorem l3_loop (ws : List ByteArray) (hw : Small ws) (hwl : ws.length ≤ 1000000) (l : List S65) (hs : SmallR l) (ha : appS ws l = 0) (a : List Int) (h : Inv l (repsS l ws.length) ws.length (repsS l ws.length).length a) (i : Nat) (hi : i < ws.length) (r : Bool)
    (hend : Ev (fun k => ancepslaw57_ApparatusGroups.l2 k a ws (ws.length : Int) ((i : Int) + 1) ws l) r) (d : Nat) : ∀ v : Nat, v + d = ws.length → Ev (fun k => ancepslaw57_ApparatusGroups.l3 k a (i : Int) (ws.getD i ByteArray.empty) ws (ws.length : Int) (i : Int) ws (ws.length : Int) (v : Int) ws l) r := by
  have hn := (appS_ok ha).1
  induction d with
  | zero =>
    intro v hv
    refine Ev.step (fun k => ancepslaw57_ApparatusGroups.l3.eq_2 _ _ _ _ _ _ _ _ _ _ _ _) (Ev.neg (by omega) ?_)
    rw [w64 (by omega) (by omega)]
    exact hend
  | succ d ih =>
    intro v hv
    refine Ev.step (fun k => ancepslaw57_ApparatusGroups.l3.eq_2 _ _ _ _ _ _ _ _ _ _ _ _) (Ev.pos (by omega) (Ev.pos (by omega) (Ev.pos (by omega) ?_)))
    have hx := agr_ev ws l (ws.getD i ByteArray.empty) (ws.getD v ByteArray.empty) hw hwl hs
    unfold agrS at hx
    rw [if_pos ha, idxF_name hn hi, idxF_name hn (by omega), if_neg (by omega)] at hx
    rw [rdOf_getD, rdA, rdA, w64 (by omega) (by omega)]
    obtain ⟨j, _, hj, _⟩ := inv_end h hi
    have hs1 := inv_same h hi (show v < ws.length by omega)
    refine Ev.bind hx (Ev.pos rfl (Ev.pos (by omega) (Ev.pos (by have := h.1; omega) (Ev.neg (by omega) (Ev.pos (by have := h.1; omega) (Ev.neg ?_ (ih (v + 1) (by omega))))))))
    have e : ((a.getD i 0 == a.getD v 0) : Bool) = (((agreeF (i : Int) (v : Int) l : Nat) : Int) == (l.length : Int)) := by
      rw [Bool.eq_iff_iff, beq_iff_eq, beq_iff_eq, hs1]
      unfold Agr; omega
    rw [e]
    simp
theorem l2_loop (ws : List ByteArray) (hw : Small ws) (hwl : ws.length ≤ 1000000) (l : List S65) (hs : SmallR l) (ha : appS ws l = 0) (a : List Int) (h : Inv l (repsS l ws.length) ws.length (repsS l ws.length).length a) (d : Nat) : ∀ i : Nat, i + d = ws.length → Ev (fun k => ancepslaw57_ApparatusGroups.l2 k a ws (ws.length : Int) (i : Int) ws l) true := by
  induction d with
  | zero =>
    intro i hi
    exact Ev.step (fun k => ancepslaw57_ApparatusGroups.l2.eq_2 _ _ _ _ _ _ _) (Ev.neg (by omega) (Ev.val rfl))
  | succ d ih =>
    intro i hi
    refine Ev.step (fun k => ancepslaw57_ApparatusGroups.l2.eq_2 _ _ _ _ _ _ _) (Ev.pos (by omega) (Ev.pos (by omega) (Ev.pos (by omega) ?_)))
    rw [rdOf_getD]
    exact l3_loop ws hw hwl l hs ha a h i (by omega) true (ih (i + 1) (by omega)) ws.length 0 (by omega)
theorem ApparatusGroups : ancepslaw57_ApparatusGroups.Pure := by
  intro ws l h0 h1 h2 h3 h4 h5
  refine Ev.rounds (g := fun k => ancepslaw57_ApparatusGroups.f k ws l) ?_
  have hw : Small ws := fun z hz => by have := h2 z hz; omega
  have hb : BigR l := ⟨by omega, fun z hz => by
    have hz1 := h5 z hz
    exact ⟨by have := hz1.1; omega, fun v hv => by have := hz1.2.2.2 v hv; omega, by have := hz1.2.2.1; omega⟩⟩
  obtain ⟨b, hf, hb2⟩ := few_ev ws l hw (by omega) hb
  have hj : Ev (fun k => ancepslaw57_ApparatusGroups.j0 k true ws l) true := Ev.step (fun k => ancepslaw57_ApparatusGroups.j0.eq_2 _ _ _ _) (Ev.pos rfl (Ev.bind awake_ev (Ev.val rfl)))
  unfold ancepslaw57_ApparatusGroups.f
  refine Ev.bind awake_ev (Ev.pos rfl (Ev.bind hf ?_))
  cases b with
  | false => exact hj
  | true =>
    obtain ⟨e1, e2, hs⟩ := hb2 rfl
    have hwl : ws.length ≤ 1000000 := by omega
    refine Ev.step (fun k => ancepslaw57_ApparatusGroups.j0.eq_2 _ _ _ _) (Ev.neg Bool.false_ne_true (Ev.bind (groups_ev ws l hw hwl hs) (Ev.bind (rgroups_ev ws l hw hwl hs) (Ev.pos rfl ?_))))
    refine Ev.step (fun k => ancepslaw57_ApparatusGroups.j1.eq_2 _ _ _ _ _ _ _) (Ev.neg (by simp) (Ev.pos (by omega) (Ev.pos (by omega) ?_)))
    rw [Int.toNat_natCast]
    unfold groupsS
    by_cases h : appS ws l = 0
    · rw [if_pos h]
      refine l0_loop ws hwl l (appS_ok h).1 true (fun a hI => l2_loop ws hw hwl l hs h a hI ws.length 0 (by omega)) _ 0 (List.replicate ws.length 0) (Nat.zero_add _) ⟨List.length_replicate, fun v hv => .inl ⟨?_, fun j hj => by omega⟩⟩
      rw [getD_lt _ _ (by rw [List.length_replicate]; exact hv), List.getElem_replicate]
    · rw [if_neg h]
      exact Ev.step (fun k => ancepslaw57_ApparatusGroups.l0.eq_2 _ _ _ _ _ _ _ _ _) (Ev.neg (by show ¬ ((0 : Int) < 0); omega) (Ev.neg h (Ev.val rfl)))
end Go.Proofs.Ytmjigfoldeekmaa.Pure
