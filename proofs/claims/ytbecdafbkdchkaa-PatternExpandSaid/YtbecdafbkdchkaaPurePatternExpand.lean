/- Expand of package pattern gives what the reference's Expand gives, of any string of up to 300 bytes (longer ones are left out by the law's own guard); each string matches the pattern, and they stand in order. -/
import Derived.Test.YtbecdafbkdchkaaP3
import Derived.Test.YtbecdafbkdchkaaP4
import Derived.Test.YtbecdafbkdchkaaX11
import Derived.Test.YtbecdafbkdchkaaX10
import Derived.Test.YtbecdafbkdchkaaX2
namespace Go.Proofs.Ytbecdafbkdchkaa.Pure
open Go.RowKit Go.Proofs.Ytbecdafbkdchkaa.X Go.Proofs.Ytbecdafbkdchkaa.Lem Go.Proofs.YtbecdafbkdchkaaW.PrintWords Go.Proofs.YtbecdafbkdchkaaW.PrintLast
theorem rdOf_nat (l : List ByteArray) (i : Nat) (h : i < l.length) : rdOf ByteArray.empty l (i : Int) = l[i] := by
  unfold rdOf; rw [Int.toNat_natCast, List.getD_eq_getElem?_getD, List.getElem?_eq_getElem h]; rfl
theorem strsEq_loop (a : List ByteArray) (hl : a.length ≤ 1000000) (d : Nat) : ∀ i : Nat, i + d = a.length → Ev (fun k => slices_Equal_string_string.l0 k a a (a.length : Int) (i : Int)) true := by
  induction d with
  | zero => intro i hi; exact Ev.step (fun k => rfl) (Ev.neg (by omega) (Ev.now _))
  | succ d ih =>
    intro i hi
    refine Ev.step (fun k => rfl) (Ev.pos (by omega) (Ev.pos (by omega) (Ev.pos (by omega) (Ev.pos (by omega) (Ev.pos rfl ?_)))))
    rw [w64 (by omega) (by omega)]; exact ih (i + 1) (by omega)
theorem strsEq_ev (a : List ByteArray) (hl : a.length ≤ 1000000) : Ev (fun k => slices_Equal_string_string.f k a a) true := by
  unfold slices_Equal_string_string.f
  exact Ev.pos rfl (strsEq_loop a hl a.length 0 (by omega))
/-! the reference: from the left -/
def stepL (out : List (List Int)) (c : Int) : List (List Int) := if c = 120 then out.flatMap (fun p => [p ++ [117], p ++ [45]]) else out.map (· ++ [c])
theorem fold_expand : ∀ (l : List Int) (out : List (List Int)), l.foldl stepL out = out.flatMap (fun p => (expandL l).map (p ++ ·))
  | [], out => by simp [expandL]
  | c :: r, out => by
    rw [List.foldl_cons, fold_expand r, expandL]
    unfold stepL
    by_cases h : c = 120
    · rw [if_pos h, if_pos h, List.flatMap_assoc]
      congr 1; funext p
      simp [Function.comp_def]
    · rw [if_neg h, if_neg h, List.flatMap_map]
      congr 1; funext p
      simp [Function.comp_def]
theorem step_take (out : List (List Int)) (c : Int) (k : Nat) (h : k < out.length) : stepL (out.take (k + 1)) c = stepL (out.take k) c ++ (if c = 120 then [out[k] ++ [117], out[k] ++ [45]] else [out[k] ++ [c]]) := by
  unfold stepL
  rw [List.take_succ_eq_append_getElem h]
  by_cases hc : c = 120
  · rw [if_pos hc, if_pos hc, if_pos hc, List.flatMap_append]; simp
  · rw [if_neg hc, if_neg hc, if_neg hc, List.map_append]; rfl
theorem step_len (out : List (List Int)) (c : Int) : (stepL out c).length = if c = 120 then 2 * out.length else out.length := by
  unfold stepL
  by_cases hc : c = 120
  · rw [if_pos hc, if_pos hc]
    induction out with
    | nil => rfl
    | cons p r ih => rw [List.flatMap_cons, List.length_append, ih, List.length_cons]; simp only [List.length_cons, List.length_nil]; omega
  · rw [if_neg hc, if_neg hc, List.length_map]
theorem step_mem (out : List (List Int)) (c : Int) (n : Nat) (h : ∀ p ∈ out, p.length = n) : ∀ p ∈ stepL out c, p.length = n + 1 := by
  intro p hp
  unfold stepL at hp
  by_cases hc : c = 120
  · rw [if_pos hc] at hp
    obtain ⟨q, hq, hm⟩ := List.mem_flatMap.1 hp
    rcases List.mem_cons.1 hm with rfl | hm
    · rw [List.length_append, h q hq]; rfl
    · rw [List.mem_singleton.1 hm, List.length_append, h q hq]; rfl
  · rw [if_neg hc] at hp
    obtain ⟨q, hq, rfl⟩ := List.mem_map.1 hp
    rw [List.length_append, h q hq]; rfl
theorem rexpand_l2 (s : ByteArray) (hs : s.size ≤ 60) (i : Nat) (hi : i < s.size) (out : List (List Int)) (ho : out.length ≤ 1024) (hlen : ∀ p ∈ out, p.length = i) (r : List ByteArray × Int)
    (hend : Ev (fun k => ancepsref04_Expand.l1 k s ((stepL out (bt s i)).map strOfNums) ((i + 1 : Nat) : Int)) r) (d : Nat) :
    ∀ k : Nat, k + d = out.length → Ev (fun n => ancepsref04_Expand.l2 n s (out.map strOfNums) (i : Int) ((stepL (out.take k) (bt s i)).map strOfNums) (k : Int)) r := by
  induction d with
  | zero =>
    intro k hk
    rw [List.take_of_length_le (by omega)]
    refine Ev.step (fun k => ancepsref04_Expand.l2.eq_2 _ _ _ _ _ _) (Ev.neg (by rw [List.length_map]; omega) ?_)
    rw [w64 (by omega) (by omega)]; exact hend
  | succ d ih =>
    intro k hk
    have hlt : k < out.length := by omega
    have hnext := ih (k + 1) (by omega)
    rw [step_take out _ k hlt, List.map_append] at hnext
    have hsl := step_len (out.take k) (bt s i)
    rw [List.length_take] at hsl
    have hcap : ((stepL (out.take k) (bt s i)).map strOfNums).length ≤ 2048 := by rw [List.length_map, hsl]; split <;> omega
    have hrd : rdOf ByteArray.empty (out.map strOfNums) (k : Int) = strOfNums out[k] := by rw [rdOf_nat _ k (by rw [List.length_map]; exact hlt), List.getElem_map]
    have hsz : (strOfNums out[k]).size = i := by rw [strOfNums_size]; exact hlen _ (List.getElem_mem hlt)
    refine Ev.step (fun k => ancepsref04_Expand.l2.eq_2 _ _ _ _ _ _) (Ev.pos (by rw [List.length_map]; omega) (Ev.pos (by omega) (Ev.pos (by omega) ?_)))
    rw [hrd, w64 (i := (k : Int) + 1) (by omega) (by omega), w64 (i := (i : Int) + 1) (by omega) (by omega), show ((i : Int) + 1) = ((i + 1 : Nat) : Int) by omega, Int.toNat_natCast, Int.toNat_natCast, extract_one s i hi, show (⟨#[117]⟩ : ByteArray) = strOfNums [117] from rfl, show (⟨#[45]⟩ : ByteArray) = strOfNums [45] from rfl, str_app, str_app, str_app]
    refine Ev.cond (fun h => ?_) (fun h => ?_)
    · rw [if_pos h] at hnext
      exact Ev.pos (by omega) (Ev.pos (by rw [hsz]; omega) (Ev.just (Ev.pos (by simp only [List.length_cons, List.length_nil]; omega) hnext)))
    · rw [if_neg h] at hnext
      exact Ev.pos (by omega) (Ev.pos (by omega) (Ev.pos (by omega) (Ev.pos (by rw [hsz, strOfNums_size, List.length_singleton]; omega) (Ev.pos (by omega) hnext))))
theorem rexpand_l1 (s : ByteArray) (hs : s.size ≤ 60) (d : Nat) : ∀ (i : Nat) (out : List (List Int)), i + d = s.size → (∀ p ∈ out, p.length = i) → out.length * 2 ^ cnt 120 ((bytesOf s).drop i) ≤ 1024 →
    Ev (fun k => ancepsref04_Expand.l1 k s (out.map strOfNums) (i : Int)) ((((bytesOf s).drop i).foldl stepL out).map strOfNums, 0) := by
  induction d with
  | zero =>
    intro i out hi hlen hcap
    rw [drop_ge s i (by omega)]
    exact Ev.step (fun k => ancepsref04_Expand.l1.eq_2 _ _ _ _) (Ev.neg (by omega) (Ev.now _))
  | succ d ih =>
    intro i out hi hlen hcap
    have hlt : i < s.size := by omega
    rw [drop_lt s i hlt] at hcap ⊢
    rw [List.foldl_cons]
    have h1 : 1 ≤ 2 ^ cnt 120 (bt s i :: (bytesOf s).drop (i + 1)) := Nat.two_pow_pos _
    have ho : out.length ≤ 1024 := Nat.le_trans (by have := Nat.mul_le_mul_left out.length h1; omega) hcap
    refine Ev.step (fun k => ancepsref04_Expand.l1.eq_2 _ _ _ _) (Ev.pos (by omega) ?_)
    have hcap' : (stepL out (bt s i)).length * 2 ^ cnt 120 ((bytesOf s).drop (i + 1)) ≤ 1024 := by
      rw [step_len]
      rw [cnt] at hcap
      by_cases h : bt s i = 120
      · rw [if_pos h] at hcap ⊢
        rw [Nat.pow_succ] at hcap
        rw [Nat.mul_comm 2, Nat.mul_assoc, Nat.mul_comm 2]; exact hcap
      · rw [if_neg h] at hcap ⊢; exact hcap
    have := rexpand_l2 s hs i hlt out ho hlen _ (ih (i + 1) (stepL out (bt s i)) (by omega) (step_mem out _ i hlen) hcap') out.length 0 (by omega)
    rw [List.take_zero] at this
    rw [show ((stepL ([] : List (List Int)) (bt s i)).map strOfNums) = ([] : List ByteArray) by unfold stepL; split <;> rfl] at this
    exact this
theorem rexpand_l0 (s : ByteArray) (hs : s.size ≤ 60) (d : Nat) : ∀ (i n : Nat), i + d = s.size → n ≤ i → Ev (fun k => ancepsref04_Expand.l0 k s (n : Int) (i : Int)) (if n + cnt 120 ((bytesOf s).drop i) > 10 then ([], 3) else (((bytesOf s).foldl stepL [[]]).map strOfNums, 0)) ∨ (n + cnt 120 ((bytesOf s).drop i) ≠ cnt 120 (bytesOf s)) := by
  induction d with
  | zero =>
    intro i n hi hn
    by_cases hne : n + cnt 120 ((bytesOf s).drop i) = cnt 120 (bytesOf s)
    rotate_left
    · exact Or.inr hne
    refine Or.inl (Ev.step (fun k => ancepsref04_Expand.l0.eq_2 _ _ _ _) (Ev.neg (by omega) (Ev.cond (fun h => Ev.val ?_) (fun h => ?_))))
    · rw [if_pos (by omega)]
    · rw [drop_ge s i (by omega), cnt] at hne ⊢
      rw [if_neg (by omega)]
      have := rexpand_l1 s hs s.size 0 [[]] (by omega) (fun p hp => by rw [List.mem_singleton.1 hp]; rfl) (by rw [List.drop_zero, ← hne, List.length_singleton, Nat.one_mul]; exact Nat.le_trans (Nat.pow_le_pow_right (n := 2) (by decide) (by omega : n + 0 ≤ 10)) (by decide))
      rw [List.drop_zero] at this
      exact this
  | succ d ih =>
    intro i n hi hn
    rw [drop_lt s i (by omega), cnt]
    by_cases h : bt s i = 120
    · rw [if_pos h, show n + (cnt 120 ((bytesOf s).drop (i + 1)) + 1) = (n + 1) + cnt 120 ((bytesOf s).drop (i + 1)) by omega]
      rcases ih (i + 1) (n + 1) (by omega) (by omega) with h' | h'
      · refine Or.inl (Ev.step (fun k => ancepsref04_Expand.l0.eq_2 _ _ _ _) (Ev.pos (by omega) (Ev.pos (by omega) (Ev.pos h ?_))))
        rw [w64 (by omega) (by omega), w64 (by omega) (by omega)]; exact h'
      · exact Or.inr h'
    · rw [if_neg h]
      rcases ih (i + 1) n (by omega) (by omega) with h' | h'
      · refine Or.inl (Ev.step (fun k => ancepsref04_Expand.l0.eq_2 _ _ _ _) (Ev.pos (by omega) (Ev.pos (by omega) (Ev.neg h ?_))))
        rw [w64 (by omega) (by omega)]; exact h'
      · exact Or.inr h'
theorem rexpand_ev (s : ByteArray) : Ev (fun k => ancepsref04_Expand.f k s) (expandS s) := by
  unfold ancepsref04_Expand.f expandS
  refine Ev.bind (rvalid_ev s) (Ev.cond (fun h => ?_) (fun h => Ev.val (if_neg h).symm))
  rw [if_pos h]
  rcases rexpand_l0 s (valid_size h).1 s.size 0 0 (by omega) (by omega) with h' | h'
  · rw [List.drop_zero, Nat.zero_add, fold_expand] at h'
    simp only [List.flatMap_cons, List.flatMap_nil, List.append_nil, List.nil_append, List.map_id'] at h'
    exact h'
  · rw [List.drop_zero, Nat.zero_add] at h'; exact absurd rfl h'
/-! the strings stand in order -/
theorem expand_sorted : ∀ l : List Int, (expandL l).Pairwise (fun a b => cmpL a b = -1)
  | [] => by rw [expandL]; exact List.pairwise_singleton _ _
  | c :: r => by
    have ih := expand_sorted r
    have keep : ∀ x : Int, ((expandL r).map (x :: ·)).Pairwise (fun a b => cmpL a b = -1) := fun x => by
      rw [List.pairwise_map]
      exact ih.imp (fun h => by rw [cmpL, cmpI_self, if_pos rfl]; exact h)
    rw [expandL]
    by_cases h : c = 120
    · rw [if_pos h, List.pairwise_append]
      refine ⟨keep 117, keep 45, fun a ha b hb => ?_⟩
      obtain ⟨x, _, rfl⟩ := List.mem_map.1 ha
      obtain ⟨y, _, rfl⟩ := List.mem_map.1 hb
      rw [cmpL, show cmpI (rankS 117) (rankS 45) = -1 from rfl, if_neg (by decide)]
    · rw [if_neg h]; exact keep c
theorem order_loop (s : ByteArray) (hv : validS s = 0) (hx : cnt 120 (bytesOf s) ≤ 10) (d : Nat) : ∀ i : Nat, i + d = (expandL (bytesOf s)).length → Ev (fun k => ancepslaw04_PatternExpand.l0 k s ((expandL (bytesOf s)).map strOfNums) ((expandL (bytesOf s)).map strOfNums) (((expandL (bytesOf s)).map strOfNums).length : Int) (i : Int)) true := by
  obtain ⟨hz, hsg⟩ := valid_size hv
  have hcap : (expandL (bytesOf s)).length ≤ 1024 := by
    rw [← pick_expand, List.length_map, List.length_range]
    exact Nat.le_trans (Nat.pow_le_pow_right (n := 2) (by decide) hx) (by decide)
  have each : ∀ i (h : i < (expandL (bytesOf s)).length), rdOf ByteArray.empty ((expandL (bytesOf s)).map strOfNums) (i : Int) = strOfNums (expandL (bytesOf s))[i] := fun i h => by rw [rdOf_nat _ i (by rw [List.length_map]; exact h), List.getElem_map]
  have good : ∀ i (h : i < (expandL (bytesOf s)).length), validS (strOfNums (expandL (bytesOf s))[i]) = 0 ∧ bytesOf (strOfNums (expandL (bytesOf s))[i]) = (expandL (bytesOf s))[i] ∧ (strOfNums (expandL (bytesOf s))[i]).size = s.size := fun i h => by
    have hm := List.getElem_mem h
    have hl := expand_mem _ _ hm
    rw [bytesOf_length] at hl
    have := str_valid (expand_sign _ _ hsg hm) (by rw [hl]; exact hz)
    exact ⟨this.1, this.2.1, by rw [this.2.2, hl]⟩
  induction d with
  | zero => intro i hi; exact Ev.step (fun k => rfl) (Ev.neg (by rw [List.length_map]; omega) (Ev.now _))
  | succ d ih =>
    intro i hi
    have hlt : i < (expandL (bytesOf s)).length := by omega
    have g := good i hlt
    refine Ev.step (fun k => rfl) (Ev.pos (by rw [List.length_map]; omega) (Ev.pos (by omega) (Ev.pos (by rw [List.length_map]; omega) (Ev.bind (match_ev _ _) (Ev.pos ?_ (Ev.cond (fun h => ?_) (fun h => ?_)))))))
    · rw [each i hlt]
      unfold matchS
      rw [both_of hv g.1 g.2.2.symm, g.2.1, expand_match _ _ (List.getElem_mem hlt)]; rfl
    · obtain ⟨j, rfl⟩ : ∃ j, i = j + 1 := ⟨i - 1, by omega⟩
      have gj := good j (by omega)
      rw [w64 (by omega) (by omega), show ((j + 1 : Nat) : Int) - 1 = (j : Int) by omega, each j (by omega), each (j + 1) hlt]
      refine Ev.pos (by omega) (Ev.pos (by rw [List.length_map]; omega) (Ev.bind (cmp_ev _ _ (by rw [gj.2.2]; omega)) (Ev.neg ?_ ?_)))
      · have := List.pairwise_iff_getElem.1 (expand_sorted (bytesOf s)) j (j + 1) (by omega) hlt (by omega)
        unfold cmpS
        rw [gj.2.2, g.2.2, cmpI_self, if_pos rfl, gj.2.1, g.2.1, this]; decide
      · rw [w64 (by omega) (by omega)]; exact ih (j + 1 + 1) (by omega)
    · rw [w64 (by omega) (by omega)]; exact ih (i + 1) (by omega)
theorem PatternExpand : ancepslaw04_PatternExpand.Pure := by
  intro s _
  refine Ev.rounds ?_
  unfold ancepslaw04_PatternExpand.f
  refine Ev.bind awake_ev (Ev.pos rfl (Ev.step (fun k => ancepslaw04_PatternExpand.j0.eq_2 _ _ _) (Ev.cond (fun h => Ev.bind awake_ev (Ev.now _)) (fun h => ?_))))
  have hcap : (expandS s).1.length ≤ 1024 := by
    unfold expandS
    split
    · split
      · exact Nat.zero_le _
      · next h1 =>
        simp only [List.length_map]
        rw [← pick_expand, List.length_map, List.length_range]
        exact Nat.le_trans (Nat.pow_le_pow_right (n := 2) (by decide) (by omega : cnt 120 (bytesOf s) ≤ 10)) (by decide)
    · exact Nat.zero_le _
  refine Ev.bind (expand_ev s) (Ev.bind (rexpand_ev s) (Ev.pos rfl (Ev.bind (strsEq_ev _ (by omega)) ?_)))
  refine Ev.step (fun k => ancepslaw04_PatternExpand.j1.eq_2 _ _ _ _) (Ev.neg (by decide) ?_)
  have none : Ev (fun k => ancepslaw04_PatternExpand.l0 k s ([] : List ByteArray) ([] : List ByteArray) (([] : List ByteArray).length : Int) 0) true := Ev.step (fun k => rfl) (Ev.neg (by decide) (Ev.now _))
  unfold expandS
  by_cases hv : validS s = 0
  · rw [if_pos hv]
    by_cases hx : cnt 120 (bytesOf s) > 10
    · rw [if_pos hx]; exact none
    · rw [if_neg hx]
      exact order_loop s hv (by omega) (expandL (bytesOf s)).length 0 (by omega)
  · rw [if_neg hv]; exact none
end Go.Proofs.Ytbecdafbkdchkaa.Pure
