/- Plain lemmas of chapter 57: the groups of witnesses that agree everywhere. -/
import Derived.Test.YtmjigfoldeekmaaVR
import Derived.Test.YtmjigfoldeekmaaVA
import Derived.Test.YtmjigfoldeekmaaX9
import Derived.Test.YtmjigfoldeekmaaX18
namespace Go.Proofs.Ytmjigfoldeekmaa.Lem
open Go.RowKit Go.Proofs.Ytmjigfoldeekmaa.X Go.Proofs.YtmjigfoldeekmaaW.PrintWords Go.Proofs.YtmjigfoldeekmaaW.PrintLast
/-! witnesses that agree everywhere -/
abbrev Agr (l : List S65) (x y : Nat) : Prop := agreeF (x : Int) (y : Int) l = l.length
theorem Agr.rfl_ (l : List S65) (x : Nat) : Agr l x x := (agreeF_all _ _ l).2 (fun _ _ => rfl)
theorem Agr.symm {l : List S65} {x y : Nat} (h : Agr l x y) : Agr l y x := by unfold Agr at *; rw [agreeF_comm]; exact h
theorem Agr.trans {l : List S65} {x y z : Nat} (h : Agr l x y) (h1 : Agr l y z) : Agr l x z := (agreeF_all _ _ l).2 (fun r hr => ((agreeF_all _ _ l).1 h r hr).trans ((agreeF_all _ _ l).1 h1 r hr))
def repB (l : List S65) (v : Nat) : Bool := (List.range v).all (fun u => decide ¬ Agr l u v)
theorem repB_iff {l : List S65} {v : Nat} : repB l v = true ↔ ∀ u, u < v → ¬ Agr l u v := by simp [repB]
def repsS (l : List S65) (n : Nat) : List Nat := (List.range n).filter (repB l)
theorem reps_succ (l : List S65) (n : Nat) : repsS l (n + 1) = repsS l n ++ (if repB l n = true then [n] else []) := by
  unfold repsS
  rw [List.range_succ, List.filter_append]
  congr 1
  rw [List.filter_cons, List.filter_nil]
theorem mem_reps {l : List S65} {n v : Nat} : v ∈ repsS l n ↔ v < n ∧ ∀ u, u < v → ¬ Agr l u v := by
  unfold repsS; rw [List.mem_filter, List.mem_range, repB_iff]
theorem reps_asc (l : List S65) (n : Nat) : (repsS l n).Pairwise (· < ·) := List.Pairwise.filter _ List.pairwise_lt_range
theorem reps_len (l : List S65) (n : Nat) : (repsS l n).length ≤ n := by
  unfold repsS
  have := List.length_filter_le (repB l) (List.range n)
  rw [List.length_range] at this
  exact this
theorem rep_of (l : List S65) (w : Nat) (n : Nat) : ∀ u, u < n → Agr l u w → ∃ f, f ∈ repsS l n ∧ f ≤ u ∧ Agr l f w := by
  intro u
  induction u using Nat.strongRecOn with
  | _ u ih =>
    intro hu h
    by_cases h1 : ∀ u', u' < u → ¬ Agr l u' u
    · exact ⟨u, mem_reps.2 ⟨hu, h1⟩, Nat.le_refl _, h⟩
    · obtain ⟨u', h2⟩ := Classical.not_forall.1 h1
      obtain ⟨h3, h4⟩ := Classical.not_imp.1 h2
      have h5 := Classical.not_not.1 h4
      obtain ⟨f, hf, hle, ha⟩ := ih u' h3 (by omega) (h5.trans h)
      exact ⟨f, hf, by omega, ha⟩
/-! the groups -/
def grpF (ws : List ByteArray) (l : List S65) (f : Nat) : Nat → Nat → List ByteArray
  | 0, _ => []
  | d + 1, j => (if Agr l f j then [ws.getD j ByteArray.empty] else []) ++ grpF ws l f d (j + 1)
theorem grp_snoc (ws : List ByteArray) (l : List S65) (f : Nat) : ∀ d j, grpF ws l f (d + 1) j = grpF ws l f d j ++ (if Agr l f (j + d) then [ws.getD (j + d) ByteArray.empty] else [])
  | 0, j => by
    show _ ++ grpF ws l f 0 (j + 1) = grpF ws l f 0 j ++ _
    rw [show grpF ws l f 0 (j + 1) = [] from rfl, show grpF ws l f 0 j = [] from rfl, Nat.add_zero, List.append_nil, List.nil_append]
  | d + 1, j => by
    rw [grpF, grp_snoc ws l f d (j + 1), grpF, List.append_assoc, show j + 1 + d = j + (d + 1) by omega]
theorem grp_len (ws : List ByteArray) (l : List S65) (f : Nat) : ∀ d j, (grpF ws l f d j).length ≤ d
  | 0, j => Nat.le_refl _
  | d + 1, j => by
    have := grp_len ws l f d (j + 1)
    rw [grpF, List.length_append]
    split <;> simp only [List.length_cons, List.length_nil] <;> omega
def grpS (ws : List ByteArray) (l : List S65) (n f : Nat) : List ByteArray := grpF ws l f (n - f) f
theorem grpS_succ (ws : List ByteArray) (l : List S65) {n f : Nat} (h : f ≤ n) : grpS ws l (n + 1) f = grpS ws l n f ++ (if Agr l f n then [ws.getD n ByteArray.empty] else []) := by
  unfold grpS
  rw [show n + 1 - f = n - f + 1 by omega, grp_snoc, show f + (n - f) = n by omega]
def groupsF (ws : List ByteArray) (l : List S65) (n : Nat) : List (List ByteArray) := (repsS l n).map (grpS ws l n)
/-! which group a witness joins -/
def findR (l : List S65) (w : Nat) : List Nat → Nat → Int
  | [], _ => -1
  | f :: F, i => if Agr l f w then (i : Int) else findR l w F (i + 1)
theorem findR_spec (l : List S65) (w : Nat) : ∀ (F : List Nat) (i : Nat), (findR l w F i = -1 ∧ ∀ f ∈ F, ¬ Agr l f w) ∨ ∃ A f B, F = A ++ f :: B ∧ findR l w F i = ((i + A.length : Nat) : Int) ∧ Agr l f w ∧ ∀ a ∈ A, ¬ Agr l a w
  | [], i => .inl ⟨rfl, fun f h => by cases h⟩
  | f :: F, i => by
    rw [findR]
    by_cases h : Agr l f w
    · rw [if_pos h]
      exact .inr ⟨[], f, F, rfl, rfl, h, fun a h => by cases h⟩
    · rw [if_neg h]
      rcases findR_spec l w F (i + 1) with ⟨h1, h2⟩ | ⟨A, f', B, rfl, h2, h3, h4⟩
      · exact .inl ⟨h1, fun x hx => (List.mem_cons.1 hx).elim (fun e => by rw [e]; exact h) (h2 x)⟩
      · exact .inr ⟨f :: A, f', B, rfl, by rw [h2, List.length_cons]; congr 1; omega, h3, fun a ha => (List.mem_cons.1 ha).elim (fun e => by rw [e]; exact h) (h4 a)⟩
theorem set_mid {α : Type} (x y : α) (B : List α) : ∀ A : List α, (A ++ x :: B).set A.length y = A ++ y :: B
  | [] => rfl
  | a :: A => by
    show a :: (A ++ x :: B).set A.length y = _
    rw [set_mid x y B A]; rfl
theorem getD_mid {α : Type} (x z : α) (B : List α) : ∀ A : List α, (A ++ x :: B).getD A.length z = x
  | [] => rfl
  | _ :: A => getD_mid x z B A
theorem groups_join (ws : List ByteArray) (l : List S65) (w : Nat) (A B : List Nat) (f : Nat) (e : repsS l w = A ++ f :: B) (hf : Agr l f w) (hA : ∀ a ∈ A, ¬ Agr l a w) :
    repsS l (w + 1) = repsS l w ∧ (groupsF ws l w).set A.length ((groupsF ws l w).getD A.length [] ++ [ws.getD w ByteArray.empty]) = groupsF ws l (w + 1) := by
  have hm : ∀ x, x ∈ A ++ f :: B → x < w ∧ ∀ u, u < x → ¬ Agr l u x := fun x hx => mem_reps.1 (e ▸ hx)
  have hfm := hm f (by simp)
  have h1 : ¬ repB l w = true := fun h => repB_iff.1 h f hfm.1 hf
  have h2 : repsS l (w + 1) = repsS l w := by rw [reps_succ, if_neg h1, List.append_nil]
  refine ⟨h2, ?_⟩
  have hB : ∀ b ∈ B, ¬ Agr l b w := by
    intro b hb hbw
    have hp := reps_asc l w
    rw [e, List.pairwise_append] at hp
    have hlt := List.rel_of_pairwise_cons hp.2.1 hb
    exact (hm b (by simp [hb])).2 f hlt (hf.trans hbw.symm)
  unfold groupsF
  rw [h2, e, List.map_append, List.map_cons]
  have hlen : A.length = (A.map (grpS ws l w)).length := (List.length_map ..).symm
  rw [hlen, set_mid, getD_mid, List.map_append, List.map_cons, grpS_succ ws l (Nat.le_of_lt hfm.1), if_pos hf]
  congr 1
  · refine List.map_congr_left fun a ha => ?_
    rw [grpS_succ ws l (Nat.le_of_lt (hm a (by simp [ha])).1), if_neg (hA a ha), List.append_nil]
  · congr 1
    refine List.map_congr_left fun a ha => ?_
    rw [grpS_succ ws l (Nat.le_of_lt (hm a (by simp [ha])).1), if_neg (hB a ha), List.append_nil]
theorem groups_new (ws : List ByteArray) (l : List S65) (w : Nat) (h : ∀ f ∈ repsS l w, ¬ Agr l f w) : repsS l (w + 1) = repsS l w ++ [w] ∧ groupsF ws l w ++ [[ws.getD w ByteArray.empty]] = groupsF ws l (w + 1) := by
  have h1 : repB l w = true := repB_iff.2 (fun u hu hw => by
    obtain ⟨f, hf, _, ha⟩ := rep_of l w w u hu hw
    exact h f hf ha)
  have h2 : repsS l (w + 1) = repsS l w ++ [w] := by rw [reps_succ, if_pos h1]
  refine ⟨h2, ?_⟩
  unfold groupsF
  rw [h2, List.map_append]
  congr 1
  · refine List.map_congr_left fun a ha => ?_
    have := (mem_reps.1 ha).1
    rw [grpS_succ ws l (by omega), if_neg (h a ha), List.append_nil]
  · rw [List.map_cons, List.map_nil, grpS_succ ws l (Nat.le_refl _), if_pos (Agr.rfl_ l w)]
    unfold grpS
    rw [Nat.sub_self]; rfl
/-! the code -/
theorem rdI (F : List Nat) (i : Nat) (h : i < F.length) : rd (F.map Int.ofNat) (i : Int) = ((F[i]'h : Nat) : Int) := by
  unfold rd; rw [Int.toNat_natCast, List.getD_eq_getElem?_getD, List.getElem?_map, List.getElem?_eq_getElem h]; rfl
theorem n0_loop (ws : List ByteArray) (l : List S65) (hs : SmallR l) (F : List Nat) (hF : F.length ≤ 1000000) (w : Nat) (d : Nat) : ∀ i : Nat, i + d = F.length → Ev (fun k => apparatus_Groups.n0 k ws l (F.map Int.ofNat) (w : Int) (i : Int)) (findR l w (F.drop i) i) := by
  induction d with
  | zero =>
    intro i hi
    rw [List.drop_of_length_le (by omega)]
    exact Ev.step (fun k => rfl) (Ev.neg (by rw [List.length_map]; omega) (Ev.val rfl))
  | succ d ih =>
    intro i hi
    rw [List.drop_eq_getElem_cons (by omega : i < F.length), findR]
    refine Ev.step (fun k => rfl) (Ev.pos (by rw [List.length_map]; omega) (Ev.pos (by omega) ?_))
    rw [rdI F i (by omega), w64 (by omega) (by omega)]
    refine Ev.bind (agree_ev ws _ _ (by omega) (by omega) l hs) (Ev.cond (fun h => Ev.val ?_) (fun h => ?_))
    · rw [if_pos (by unfold Agr; omega)]
    · rw [if_neg (by unfold Agr; omega)]
      exact ih (i + 1) (by omega)
theorem m0_loop (ws : List ByteArray) (hwl : ws.length ≤ 1000000) (l : List S65) (hs : SmallR l) (d : Nat) : ∀ w : Nat, w + d = ws.length → Ev (fun k => apparatus_Groups.m0 k ws l ((repsS l w).map Int.ofNat) (groupsF ws l w) (w : Int)) (groupsF ws l ws.length) := by
  induction d with
  | zero =>
    intro w hw
    obtain rfl : w = ws.length := by omega
    exact Ev.step (fun k => rfl) (Ev.neg (by omega) (Ev.val rfl))
  | succ d ih =>
    intro w hw
    have hl := reps_len l w
    have hgl : (groupsF ws l w).length = (repsS l w).length := by unfold groupsF; rw [List.length_map]
    refine Ev.step (fun k => rfl) (Ev.pos (by omega) (Ev.pos ⟨by omega, by omega, by rw [List.length_map]; omega⟩ ?_))
    have hn := n0_loop ws l hs (repsS l w) (by omega) w (repsS l w).length 0 (by omega)
    rw [List.drop_zero] at hn
    refine Ev.bind hn ?_
    rw [rdOf_getD, w64 (by omega) (by omega)]
    rcases findR_spec l w (repsS l w) 0 with ⟨h1, h2⟩ | ⟨A, f, B, h1, h2, h3, h4⟩
    · obtain ⟨e1, e2⟩ := groups_new ws l w h2
      rw [h1]
      refine Ev.neg (by decide) ?_
      rw [e2, show ((repsS l w).map Int.ofNat ++ [(w : Int)]) = (repsS l (w + 1)).map Int.ofNat by rw [e1, List.map_append]; rfl]
      exact ih (w + 1) (by omega)
    · obtain ⟨e1, e2⟩ := groups_join ws l w A B f h1 h3 h4
      rw [h2, Nat.zero_add, Int.toNat_natCast, e2, ← e1]
      have hAl : A.length < (repsS l w).length := by rw [h1, List.length_append, List.length_cons]; omega
      have hg : ((groupsF ws l w).getD A.length []).length ≤ 1000000 := by
        rw [getD_lt _ _ (by omega : A.length < (groupsF ws l w).length)]
        unfold groupsF grpS
        rw [List.getElem_map]
        have := grp_len ws l (repsS l w)[A.length] (w - (repsS l w)[A.length]) (repsS l w)[A.length]
        omega
      exact Ev.pos (by omega) (Ev.pos ⟨by omega, hg⟩ (ih (w + 1) (by omega)))
def groupsS (ws : List ByteArray) (l : List S65) : List (List ByteArray) × Int := if appS ws l = 0 then (groupsF ws l ws.length, 0) else ([], appS ws l)
theorem groups_ev (ws : List ByteArray) (l : List S65) (hw : Small ws) (hwl : ws.length ≤ 1000000) (hs : SmallR l) : Ev (fun k => apparatus_Groups.f k ws l) (groupsS ws l) := by
  unfold apparatus_Groups.f groupsS
  refine Ev.bind (appV_ev ws l hw hwl hs) (Ev.cond (fun h => ?_) (fun h => Ev.val (by rw [if_neg h])))
  rw [if_pos h]
  exact Ev.bind (m0_loop ws hwl l hs ws.length 0 (by omega)) (Ev.val rfl)
/-! the reference -/
theorem rg2_loop (ws : List ByteArray) (hwl : ws.length ≤ 1000000) (l : List S65) (hs : SmallR l) (out : List (List ByteArray)) (ho : out.length ≤ 1000000) (w : Nat) (hw : w < ws.length) (r : List (List ByteArray) × Int) (d : Nat) :
    ∀ (j : Nat) (acc : List ByteArray), j + d = ws.length → acc.length ≤ j → Ev (fun k => ancepsref57_Groups.l0 k (out ++ [acc ++ grpF ws l w d j]) ((w : Int) + 1) ws l) r → Ev (fun k => ancepsref57_Groups.l2 k out (w : Int) acc (j : Int) ws l) r := by
  induction d with
  | zero =>
    intro j acc hj ha h
    refine Ev.step (fun k => ancepsref57_Groups.l2.eq_2 _ _ _ _ _ _ _) (Ev.neg (by omega) (Ev.pos (by omega) ?_))
    rw [grpF, List.append_nil] at h
    rw [w64 (by omega) (by omega)]
    exact h
  | succ d ih =>
    intro j acc hj ha h
    refine Ev.step (fun k => ancepsref57_Groups.l2.eq_2 _ _ _ _ _ _ _) (Ev.pos (by omega) ?_)
    rw [rdOf_getD, w64 (i := (j : Int) + 1) (by omega) (by omega)]
    refine Ev.bind (ragree_ev ws _ _ (by omega) (by omega) l hs) (Ev.cond (fun h1 => ?_) (fun h1 => ?_))
    · refine Ev.pos (by omega) (Ev.pos (by omega) (ih (j + 1) _ (by omega) (by rw [List.length_append]; simp only [List.length_cons, List.length_nil]; omega) ?_))
      rw [grpF, if_pos (by unfold Agr; omega), ← List.append_assoc] at h
      exact h
    · refine ih (j + 1) acc (by omega) (by omega) ?_
      rw [grpF, if_neg (by unfold Agr; omega), List.nil_append] at h
      exact h
theorem rg1_loop (ws : List ByteArray) (hwl : ws.length ≤ 1000000) (l : List S65) (hs : SmallR l) (out : List (List ByteArray)) (w : Nat) (hw : w < ws.length) (r : List (List ByteArray) × Int) (d : Nat) :
    ∀ (v : Nat) (b : Bool), v + d = w → ((b = true ∧ ∀ u, v ≤ u → u < w → ¬ Agr l u w) → Ev (fun k => ancepsref57_Groups.l2 k out (w : Int) [] (w : Int) ws l) r) → (¬ (b = true ∧ ∀ u, v ≤ u → u < w → ¬ Agr l u w) → Ev (fun k => ancepsref57_Groups.l0 k out ((w : Int) + 1) ws l) r) →
      Ev (fun k => ancepsref57_Groups.l1 k out (w : Int) b (v : Int) ws l) r := by
  induction d with
  | zero =>
    intro v b hv hy hn
    refine Ev.step (fun k => ancepsref57_Groups.l1.eq_2 _ _ _ _ _ _ _) (Ev.neg (by omega) ?_)
    rw [w64 (by omega) (by omega)]
    cases b with
    | true => exact Ev.pos rfl (hy ⟨rfl, fun u h1 h2 => by omega⟩)
    | false => exact Ev.neg Bool.false_ne_true (hn (fun h => Bool.false_ne_true h.1))
  | succ d ih =>
    intro v b hv hy hn
    refine Ev.step (fun k => ancepsref57_Groups.l1.eq_2 _ _ _ _ _ _ _) (Ev.pos (by omega) ?_)
    rw [w64 (by omega) (by omega)]
    cases b with
    | true =>
      refine Ev.pos rfl (Ev.bind (ragree_ev ws _ _ (by omega) (by omega) l hs) ?_)
      have hle := agreeF_le (v : Int) (w : Int) l
      refine ih (v + 1) _ (by omega) (fun h => hy ⟨rfl, fun u h1 h2 => ?_⟩) (fun h => hn (fun h1 => h ⟨?_, fun u h2 h3 => h1.2 u (by omega) h3⟩))
      · by_cases e : u = v
        · subst e
          have := of_decide_eq_true h.1
          unfold Agr; omega
        · exact h.2 u (by omega) h2
      · have := h1.2 v (Nat.le_refl _) (by omega)
        unfold Agr at this
        exact decide_eq_true (by omega)
    | false =>
      refine Ev.neg Bool.false_ne_true (ih (v + 1) false (by omega) (fun h => absurd h.1 Bool.false_ne_true) (fun _ => hn (fun h => Bool.false_ne_true h.1)))
theorem rg_loop (ws : List ByteArray) (hwl : ws.length ≤ 1000000) (l : List S65) (hs : SmallR l) (d : Nat) : ∀ w : Nat, w + d = ws.length → Ev (fun k => ancepsref57_Groups.l0 k ((repsS l w).map (grpS ws l ws.length)) (w : Int) ws l) (groupsF ws l ws.length, 0) := by
  induction d with
  | zero =>
    intro w hw
    obtain rfl : w = ws.length := by omega
    exact Ev.step (fun k => ancepsref57_Groups.l0.eq_2 _ _ _ _ _) (Ev.neg (by omega) (Ev.val rfl))
  | succ d ih =>
    intro w hw
    have hl := reps_len l w
    have hi := ih (w + 1) (by omega)
    have hc : ((w + 1 : Nat) : Int) = (w : Int) + 1 := by omega
    rw [hc] at hi
    refine Ev.step (fun k => ancepsref57_Groups.l0.eq_2 _ _ _ _ _) (Ev.pos (by omega) (rg1_loop ws hwl l hs _ w (by omega) _ w 0 true (by omega) (fun h => ?_) (fun h => ?_)))
    · refine rg2_loop ws hwl l hs _ (by rw [List.length_map]; omega) w (by omega) _ (ws.length - w) w [] (by omega) (Nat.zero_le _) ?_
      have h1 : repB l w = true := repB_iff.2 (fun u hu => h.2 u (Nat.zero_le _) hu)
      rw [reps_succ, if_pos h1, List.map_append] at hi
      rw [List.nil_append]
      exact hi
    · have h1 : ¬ repB l w = true := fun e => h ⟨rfl, fun u _ hu => repB_iff.1 e u hu⟩
      rw [reps_succ, if_neg h1, List.append_nil] at hi
      exact hi
theorem rgroups_ev (ws : List ByteArray) (l : List S65) (hw : Small ws) (hwl : ws.length ≤ 1000000) (hs : SmallR l) : Ev (fun k => ancepsref57_Groups.f k ws l) (groupsS ws l) := by
  unfold ancepsref57_Groups.f groupsS
  refine Ev.bind (rappV_ev ws l hw hwl hs) (Ev.cond (fun h => ?_) (fun h => Ev.val (by rw [if_neg h])))
  rw [if_pos h]
  exact rg_loop ws hwl l hs ws.length 0 (by omega)
end Go.Proofs.Ytmjigfoldeekmaa.Lem
