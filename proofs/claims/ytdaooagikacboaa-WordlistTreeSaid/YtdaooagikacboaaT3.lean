/- Chapter 54: the tree of a sorted list is right for it. -/
import Derived.Test.YtdaooagikacboaaT1
namespace Go.Proofs.Ytdaooagikacboaa.Lem
open Go.RowKit Go.Proofs.Ytdaooagikacboaa.X Go.Proofs.YtdaooagikacboaaW.PrintWords Go.Proofs.YtdaooagikacboaaW.PrintLast
/-- the nodes stand in a list, from an index on -/
def At (A : List Lf) (b : Nat) (N : List Lf) : Prop := ∀ (j : Nat) (x : Lf), N[j]? = some x → A[b + j]? = some x
theorem At.left {A : List Lf} {b : Nat} {M N : List Lf} (h : At A b (M ++ N)) : At A b M := fun j x hj => h j x (by rw [List.getElem?_append_left (List.getElem?_eq_some_iff.1 hj).1]; exact hj)
theorem At.right {A : List Lf} {b : Nat} {M N : List Lf} (h : At A b (M ++ N)) : At A (b + M.length) N := fun j x hj => by
  have := h (M.length + j) x (by rw [List.getElem?_append_right (Nat.le_add_right _ _), Nat.add_sub_cancel_left]; exact hj)
  rw [Nat.add_assoc]; exact this
theorem At.tail {A : List Lf} {b : Nat} {x : Lf} {N : List Lf} (h : At A b (x :: N)) : At A (b + 1) N := At.right (M := [x]) h
theorem At.len {A : List Lf} {b : Nat} {N : List Lf} (h : At A b N) (hn : N ≠ []) : b + N.length ≤ A.length := by
  have hl := List.length_pos_iff.2 hn
  have := h (N.length - 1) _ (List.getElem?_eq_getElem (by omega))
  have := (List.getElem?_eq_some_iff.1 this).1
  omega
theorem At.nd {A : List Lf} {b : Nat} {x : Lf} {N : List Lf} (h : At A b (x :: N)) : nd A (b : Int) = x := by
  have := h 0 x rfl
  rw [Nat.add_zero] at this
  unfold Lem.nd rd_T46
  rw [Int.toNat_natCast, List.getD_eq_getElem?_getD, this]; rfl
theorem Tr.ne {ts : List (List UInt8)} {s : Int} {b : Nat} {N : List Lf} (h : Tr ts s b N) : ∃ e K M, N = ⟨s, e, K⟩ :: M := by
  cases h with
  | mk he h => exact ⟨_, _, _, rfl⟩
theorem Gr.kids {rs : List (List UInt8)} {b : Nat} {K : List Int} {N : List Lf} (h : Gr rs b K N) (hr : rs ≠ []) : K ≠ [] := by
  cases h with
  | nil => exact absurd rfl hr
  | cons => simp
def letT (ts : List (List UInt8)) : Prop := ∀ t ∈ ts, ∀ c ∈ t, letB (c.toNat : Int) = true
mutual
theorem Tr.ok (A : List Lf) : ∀ {ts : List (List UInt8)} {s : Int} {b : Nat} {N : List Lf}, Tr ts s b N → At A b N → letT ts → (ts ≠ [] ∨ b = 0) → ∀ m : Nat, b ≤ m → m < b + N.length → pOK A (m : Int) = true
  | _, _, b, _, Tr.mk (ts := ts) (rs := rs) (e := e) (K := K) (N := N) he h, ha, hl, hn, m, hm1, hm2 => by
    have hlr : letT rs := by
      intro t ht
      refine hl t ?_
      rw [he]
      split
      · exact List.mem_cons_of_mem _ ht
      · exact ht
    rcases Nat.lt_or_ge b m with hlt | hge
    · exact Gr.ok A h ha.tail hlr m (by omega) (by simp only [List.length_cons] at hm2; omega)
    · obtain rfl : m = b := by omega
      have hk : KD A (m : Int) = K := by unfold KD; rw [ha.nd]
      unfold pOK
      rw [hk, Bool.and_eq_true]
      refine ⟨Gr.kOK A h ha.tail hlr (m : Int) (by omega) (-1) (fun t ht => ?_), ?_⟩
      · cases h with
        | nil => cases ht
        | cons hg hc h3 h4 =>
          rename_i g rem c S N' K'
          rcases List.mem_append.1 ht with ht | ht
          · obtain ⟨u, _, rfl⟩ := List.mem_map.1 ht
            exact ⟨c, u, rfl, by omega⟩
          · obtain ⟨c', t', rfl, _⟩ := hc t ht
            exact ⟨c', t', rfl, by omega⟩
      · unfold leafOK
        rw [hk, ha.nd]
        cases e with
        | true => simp
        | false =>
          rcases hn with hn | hn
          · have hrs : rs ≠ [] := by
              intro h0
              rw [h0] at he
              exact hn (by rw [he]; rfl)
            have hKn := Gr.kids h hrs
            have hl0 : ¬ K.length = 0 := fun h0 => hKn (List.eq_nil_of_length_eq_zero h0)
            rw [decide_eq_false hl0]; simp
          · rw [hn]; rfl
theorem Gr.ok (A : List Lf) : ∀ {rs : List (List UInt8)} {b : Nat} {K : List Int} {N : List Lf}, Gr rs b K N → At A b N → letT rs → ∀ m : Nat, b ≤ m → m < b + N.length → pOK A (m : Int) = true
  | _, _, _, _, Gr.nil, _, _, m, h1, h2 => by simp at h2; omega
  | _, b, _, _, Gr.cons (g := g) (rem := rem) (c := c) (S := S) (N := N) hg hc h h2, ha, hl, m, hm1, hm2 => by
    rw [List.length_append] at hm2
    rcases Nat.lt_or_ge m (b + S.length) with hlt | hge
    · exact Tr.ok A h ha.left (fun t ht c' hc' => hl (c :: t) (List.mem_append_left _ (List.mem_map_of_mem ht)) c' (List.mem_cons_of_mem _ hc')) (.inl hg) m hm1 hlt
    · exact Gr.ok A h2 ha.right (fun t ht => hl t (List.mem_append_right _ ht)) m hge (by omega)
theorem Gr.kOK (A : List Lf) : ∀ {rs : List (List UInt8)} {b : Nat} {K : List Int} {N : List Lf}, Gr rs b K N → At A b N → letT rs → ∀ i : Int, i < (b : Int) → ∀ last : Int, (∀ t ∈ rs, ∃ (c : UInt8) (t' : List UInt8), t = c :: t' ∧ last < (c.toNat : Int)) → Lem.kOK A i last K = true
  | _, _, _, _, Gr.nil, _, _, _, _, _, _ => rfl
  | _, b, _, _, Gr.cons (g := g) (rem := rem) (c := c) (S := S) (N := N) (K := K) hg hc h h2, ha, hl, i, hi, last, hlast => by
    obtain ⟨e, K1, M, hS⟩ := Tr.ne h
    have hnd : nd A (b : Int) = ⟨(c.toNat : Int), e, K1⟩ := by
      have := ha.left
      rw [hS] at this
      exact this.nd
    have hlen := ha.left.len (by rw [hS]; simp)
    have hsl : 0 < S.length := by rw [hS]; simp
    obtain ⟨u, hu⟩ : ∃ u, u ∈ g := List.exists_mem_of_ne_nil g hg
    obtain ⟨c2, t2, he, hlt⟩ := hlast (c :: u) (List.mem_append_left _ (List.mem_map_of_mem hu))
    rw [← (List.cons.inj he).1] at hlt
    have hb := UInt8.toNat_lt c
    rw [Lem.kOK, hnd]
    simp only
    rw [decide_eq_true (show i < (b : Int) ∧ (b : Int) < (A.length : Int) by omega), decide_eq_true (show last < (c.toNat : Int) ∧ 0 ≤ (c.toNat : Int) ∧ (c.toNat : Int) ≤ 255 by omega), hl (c :: u) (List.mem_append_left _ (List.mem_map_of_mem hu)) c (List.mem_cons_self ..), Bool.true_and, Bool.true_and, Bool.true_and]
    refine Gr.kOK A h2 ha.right (fun t ht => hl t (List.mem_append_right _ ht)) i (by omega) (c.toNat : Int) (fun t ht => ?_)
    obtain ⟨c', t', rfl, h5⟩ := hc t ht
    have := UInt8.lt_iff_toNat_lt.1 h5
    exact ⟨c', t', rfl, by omega⟩
end
/-! each node but the first is once a kid -/
def seqI : Nat → Nat → List Int
  | _, 0 => []
  | a, n + 1 => (a : Int) :: seqI (a + 1) n
theorem seqI_app : ∀ (n a m : Nat), seqI a (n + m) = seqI a n ++ seqI (a + n) m
  | 0, a, m => by rw [Nat.zero_add]; rfl
  | n + 1, a, m => by
    rw [show n + 1 + m = (n + m) + 1 by omega, seqI, seqI, seqI_app n (a + 1) m, show a + 1 + n = a + (n + 1) by omega]; rfl
theorem seqI_count : ∀ (n a m : Nat), (seqI a n).count (m : Int) = if a ≤ m ∧ m < a + n then 1 else 0
  | 0, a, m => by rw [if_neg (by omega)]; rfl
  | n + 1, a, m => by
    rw [seqI, List.count_cons, seqI_count n (a + 1) m]
    by_cases h : a = m
    · subst h
      rw [if_neg (show ¬ (a + 1 ≤ a ∧ a < a + 1 + n) by omega), if_pos (show a ≤ a ∧ a < a + (n + 1) by omega)]
      simp
    · have hb : ((a : Int) == (m : Int)) = false := beq_eq_false_iff_ne.2 (by omega)
      rw [hb]
      by_cases h1 : a + 1 ≤ m ∧ m < a + 1 + n
      · rw [if_pos h1, if_pos (show a ≤ m ∧ m < a + (n + 1) by omega)]; rfl
      · rw [if_neg h1, if_neg (show ¬ (a ≤ m ∧ m < a + (n + 1)) by omega)]; rfl
def KA (N : List Lf) : List Int := (N.map (fun x => x.f2)).flatten
theorem KA_app (M N : List Lf) : KA (M ++ N) = KA M ++ KA N := by unfold KA; rw [List.map_append, List.flatten_append]
mutual
theorem Tr.perm : ∀ {ts : List (List UInt8)} {s : Int} {b : Nat} {N : List Lf}, Tr ts s b N → (KA N).Perm (seqI (b + 1) (N.length - 1))
  | _, _, b, _, Tr.mk (K := K) (N := N) he h => by
    have h1 := Gr.perm h
    show (KA (_ :: N)).Perm (seqI (b + 1) ((N.length + 1) - 1))
    rw [Nat.add_sub_cancel]
    exact h1
theorem Gr.perm : ∀ {rs : List (List UInt8)} {b : Nat} {K : List Int} {N : List Lf}, Gr rs b K N → (K ++ KA N).Perm (seqI b N.length)
  | _, _, _, _, Gr.nil => List.Perm.refl _
  | _, b, _, _, Gr.cons (S := S) (N := N) (K := K) hg hc h h2 => by
    obtain ⟨e, K1, M, hS⟩ := Tr.ne h
    have hsl : 0 < S.length := by rw [hS]; simp
    have h3 := Tr.perm h
    have h4 := Gr.perm h2
    rw [List.length_append, seqI_app, KA_app]
    have h5 : seqI b S.length = (b : Int) :: seqI (b + 1) (S.length - 1) := by
      rw [show S.length = (S.length - 1) + 1 by omega, seqI]; rfl
    rw [h5, List.cons_append, List.cons_append]
    refine List.Perm.cons _ ?_
    rw [← List.append_assoc]
    refine (List.Perm.append_right _ List.perm_append_comm).trans ?_
    rw [List.append_assoc]
    exact h3.append h4
end
/-! what it spells -/
def ints (t : List UInt8) : List Int := t.map (fun c => (c.toNat : Int))
mutual
theorem Tr.spl (A : List Lf) : ∀ {ts : List (List UInt8)} {s : Int} {b : Nat} {N : List Lf}, Tr ts s b N → At A b N → ∀ (d : Nat) (u : List Int), A.length ≤ d + b → Lem.spl d A (b : Int) u = ts.map (fun t => u ++ ints t)
  | _, _, b, _, Tr.mk (ts := ts) (rs := rs) (e := e) (K := K) (N := N) he h, ha, d, u, hd => by
    have hlen := ha.len (by simp)
    simp only [List.length_cons] at hlen
    obtain ⟨d, rfl⟩ : ∃ d', d = d' + 1 := ⟨d - 1, by omega⟩
    have hk : KD A (b : Int) = K := by unfold KD; rw [ha.nd]
    rw [Lem.spl, hk, ha.nd, Gr.spl A h ha.tail d u (by omega), he]
    cases e with
    | true => simp [ints]
    | false => simp
theorem Gr.spl (A : List Lf) : ∀ {rs : List (List UInt8)} {b : Nat} {K : List Int} {N : List Lf}, Gr rs b K N → At A b N → ∀ (d : Nat) (u : List Int), A.length ≤ d + b → (K.map (fun n => Lem.spl d A n (u ++ [(nd A n).f0]))).flatten = rs.map (fun t => u ++ ints t)
  | _, _, _, _, Gr.nil, _, _, _, _ => rfl
  | _, b, _, _, Gr.cons (g := g) (rem := rem) (c := c) (S := S) (N := N) (K := K) hg hc h h2, ha, d, u, hd => by
    obtain ⟨e, K1, M, hS⟩ := Tr.ne h
    have hnd : nd A (b : Int) = ⟨(c.toNat : Int), e, K1⟩ := by
      have := ha.left
      rw [hS] at this
      exact this.nd
    rw [List.map_cons, List.flatten_cons, Gr.spl A h2 ha.right d u (by omega), hnd, Tr.spl A h ha.left d _ hd, List.map_append, List.map_map]
    congr 1
    refine List.map_congr_left (fun t _ => ?_)
    simp [ints]
end
end Go.Proofs.Ytdaooagikacboaa.Lem
