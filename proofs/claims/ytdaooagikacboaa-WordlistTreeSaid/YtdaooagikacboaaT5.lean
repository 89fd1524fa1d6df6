/- Chapter 54: the other grow makes the same tree. -/
import Derived.Test.YtdaooagikacboaaT2
namespace Go.Proofs.Ytdaooagikacboaa.Lem
open Go.RowKit Go.Proofs.Ytdaooagikacboaa.X Go.Proofs.YtdaooagikacboaaW.PrintWords Go.Proofs.YtdaooagikacboaaW.PrintLast
theorem beg (w : ByteArray) (n : Nat) (h : n ≤ w.size) : ancepsref54_beginning.f w (n : Int) = some (w.extract 0 n, true) := by
  unfold ancepsref54_beginning.f
  rw [if_neg (by omega), if_pos (by omega), if_pos (by omega), Int.toNat_natCast]
theorem j0_ev {p : List UInt8} {c : UInt8} {g rem : List (List UInt8)} {pre A B : List ByteArray} (hd : ByteArray) (hhd : hd.data.toList = p ++ [c]) (hA : Hd p (g.map (c :: ·)) A) (hB : Hd p rem B) (hc : ∀ t ∈ rem, ∃ c' t', t = c' :: t' ∧ c < c') (hl : (pre ++ (A ++ B)).length ≤ 1000000) (d : Nat) : ∀ i : Nat, i + d = A.length →
    Ev (fun k => ancepsref54_grow.j0 k (pre ++ (A ++ B)) ((p.length : Int) + 1) hd ((pre.length + i : Nat) : Int)) (((pre.length + A.length : Nat)) : Int) := by
  have hlen : (pre ++ (A ++ B)).length = pre.length + (A.length + B.length) := by rw [List.length_append, List.length_append]
  induction d with
  | zero =>
    intro i hi
    obtain rfl : i = A.length := by omega
    cases rem with
    | nil =>
      have hb : B = [] := List.eq_nil_of_length_eq_zero (by rw [hB.len]; rfl)
      subst hb
      exact Ev.step (fun k => ancepsref54_grow.j0.eq_2 _ _ _ _ _) (Ev.neg (by rw [hlen]; simp) (Ev.now _))
    | cons t r =>
      obtain ⟨w, B', rfl, hw, _⟩ := hB.cons
      obtain ⟨c', t', rfl, hlt⟩ := hc t (List.mem_cons_self ..)
      have hsz := (bt_pre hw).2
      have hr : rdOf ByteArray.empty (pre ++ (A ++ w :: B')) ((pre.length + A.length : Nat) : Int) = w := by
        rw [← List.append_assoc, ← List.length_append, rdOf_app]
      refine Ev.step (fun k => ancepsref54_grow.j0.eq_2 _ _ _ _ _) (Ev.pos (by rw [hlen, List.length_cons]; omega) (Ev.pos ⟨by omega, hl⟩ ?_))
      rw [hr, show ((p.length : Int) + 1) = ((p.length + 1 : Nat) : Int) by omega, beg w _ hsz]
      refine Ev.just (Ev.pos rfl (Ev.neg ?_ (Ev.now _)))
      rw [Lib.toList_data, Lib.toList_data, ext_pre hw, hhd]
      intro h
      have h1 := List.append_cancel_left h
      rw [(List.cons.inj h1).1] at hlt
      exact UInt8.lt_irrefl _ hlt
  | succ d ih =>
    intro i hi
    have hlt : i < A.length := by omega
    obtain ⟨t, ht, hw⟩ := hA.at i hlt
    obtain ⟨u, _, rfl⟩ := List.mem_map.1 ht
    have hsz := (bt_pre hw).2
    have hr : rdOf ByteArray.empty (pre ++ (A ++ B)) ((pre.length + i : Nat) : Int) = A[i] := by
      rw [rdOf_at _ _ (by rw [hlen]; omega), List.getElem_append_right (by omega)]
      simp only [Nat.add_sub_cancel_left]
      rw [List.getElem_append_left hlt]
    refine Ev.step (fun k => ancepsref54_grow.j0.eq_2 _ _ _ _ _) (Ev.pos (by rw [hlen]; omega) (Ev.pos ⟨by omega, hl⟩ ?_))
    rw [hr, show ((p.length : Int) + 1) = ((p.length + 1 : Nat) : Int) by omega, beg _ _ hsz]
    refine Ev.just (Ev.pos rfl (Ev.pos ?_ ?_))
    · rw [Lib.toList_data, Lib.toList_data, ext_pre hw, hhd]
    · rw [hlen] at hl
      rw [w64 (by omega) (by omega), show (((p.length + 1 : Nat)) : Int) = (p.length : Int) + 1 by omega]
      exact ih (i + 1) (by omega)
def RT (ts : List (List UInt8)) (s : Int) (b : Nat) (N : List Lf) : Prop := ∀ (p : List UInt8) (ws : List ByteArray) (L : List Lf), Hd p ts ws → ws.length ≤ 1000000 → (∀ w ∈ ws, w.size ≤ 1000000) → L.length = b → b + N.length ≤ 1000000 →
    Ev (fun k => ancepsref54_grow.f k L ws (p.length : Int) s) (L ++ N)
def RG (rs : List (List UInt8)) (b : Nat) (K : List Int) (N : List Lf) : Prop := ∀ (p : List UInt8) (pre ws : List ByteArray) (L : List Lf) (n : Nat) (s : Int) (e : Bool) (K0 : List Int), Hd p rs ws → (pre ++ ws).length ≤ 1000000 → (∀ w ∈ ws, w.size ≤ 1000000) → L.length = b → n < L.length → L.getD n ⟨0, false, []⟩ = ⟨s, e, K0⟩ → K0.length + N.length ≤ 1000000 → b + N.length ≤ 1000000 →
    Ev (fun k => ancepsref54_grow.l0 k L (pre ++ ws) (p.length : Int) n (pre.length : Int)) (L.set n ⟨s, e, K0 ++ K⟩ ++ N)
theorem rt_step {ts rs : List (List UInt8)} {s : Int} {b : Nat} {e : Bool} {K : List Int} {N : List Lf} (he : ts = if e = true then [] :: rs else rs) (ih : RG rs (b + 1) K N) : RT ts s b (⟨s, e, K⟩ :: N) := by
    intro p ws L hw hl hz hb hn
    subst hb
    rw [List.length_cons] at hn
    have hfin : ∀ pre rw' : List ByteArray, Hd p rs rw' → (pre ++ rw').length ≤ 1000000 → (∀ w ∈ rw', w.size ≤ 1000000) → Ev (fun k => ancepsref54_grow.l0 k (L ++ [⟨s, e, []⟩]) (pre ++ rw') (p.length : Int) L.length (pre.length : Int)) (L ++ ⟨s, e, K⟩ :: N) := by
      intro pre rw' h1 h2 h3
      have := ih p pre rw' (L ++ [⟨s, e, []⟩]) L.length s e [] h1 h2 h3 (by simp) (by simp) (getD_last _ _ _) (by simp; omega) (by omega)
      rw [set_last, List.nil_append, List.append_assoc] at this
      exact this
    cases e with
    | true =>
      rw [if_pos rfl] at he
      subst he
      obtain ⟨w, r, rfl, h1, h2⟩ := hw.cons
      rw [List.append_nil] at h1
      have hs : w.size = p.length := by rw [← size_data, h1]
      refine Ev.step (fun k => ancepsref54_grow.f.eq_2 _ _ _ _ _) (Ev.pos (by omega) ?_)
      refine Ev.step (fun k => ancepsref54_grow.l0.eq_2 _ _ _ _ _ _) (Ev.pos (by simp <;> omega) (Ev.pos ⟨by omega, by simp⟩ (Ev.pos ?_ ?_)))
      · show ((w.size : Nat) : Int) = _
        rw [hs]
      · rw [getD_last, set_last, w64 (by omega) (by omega)]
        exact hfin [w] r h2 hl (fun x hx => hz x (List.mem_cons_of_mem _ hx))
    | false =>
      rw [if_neg (by decide)] at he
      subst he
      exact Ev.step (fun k => ancepsref54_grow.f.eq_2 _ _ _ _ _) (Ev.pos (by omega) (hfin [] ws hw hl hz))
theorem rg_nil {b : Nat} : RG [] b [] [] := by
    intro p pre ws L n s e K0 hw hl hz hb hn hg hk hnn
    have h0 : ws = [] := List.eq_nil_of_length_eq_zero (by rw [hw.len]; rfl)
    subst h0
    refine Ev.step (fun k => ancepsref54_grow.l0.eq_2 _ _ _ _ _ _) (Ev.neg (by simp) (Ev.val ?_))
    rw [List.append_nil, List.append_nil, ← hg, List.getD_eq_getElem?_getD, List.getElem?_eq_getElem hn, Option.getD_some, List.set_getElem_self]
theorem rg_step {g rem : List (List UInt8)} {c : UInt8} {b : Nat} {S N : List Lf} {K : List Int} (hgn : g ≠ []) (hc : ∀ t ∈ rem, ∃ c' t', t = c' :: t' ∧ c < c') (h : Tr g (c.toNat : Int) b S) (i1 : RT g (c.toNat : Int) b S) (i2 : RG rem (b + S.length) K N) : RG (g.map (c :: ·) ++ rem) b ((b : Int) :: K) (S ++ N) := by
    intro p pre ws L n s e K0 hw hl hz hb hn hg hk hnn
    subst hb
    obtain ⟨A, B, rfl, hA, hB⟩ := hw.app
    rw [List.length_append] at hk hnn
    obtain ⟨e1, K1, M, hS⟩ := Tr.ne h
    have hsl : 0 < S.length := by rw [hS]; simp
    have hAl : 0 < A.length := by rw [hA.len, List.length_map]; exact List.length_pos_iff.2 hgn
    obtain ⟨t, ht, h1⟩ := hA.at 0 hAl
    obtain ⟨u, _, rfl⟩ := List.mem_map.1 ht
    have hsz := (bt_pre h1).2
    have hlen : (pre ++ (A ++ B)).length = pre.length + (A.length + B.length) := by rw [List.length_append, List.length_append]
    have hr : rdOf ByteArray.empty (pre ++ (A ++ B)) (pre.length : Int) = A[0] := by
      rw [rdOf_at _ _ (by rw [hlen]; omega), List.getElem_append_right (Nat.le_refl _)]
      simp only [Nat.sub_self]
      rw [List.getElem_append_left hAl]
    have hz0 := hz A[0] (List.mem_append_left _ (List.getElem_mem hAl))
    have hAB := hl
    rw [hlen] at hAB
    have hx := ext_pre h1
    have hxs : ((A[0]).extract 0 (p.length + 1)).size = p.length + 1 := by rw [← size_data, hx]; simp
    refine Ev.step (fun k => ancepsref54_grow.l0.eq_2 _ _ _ _ _ _) (Ev.pos (by rw [hlen]; omega) (Ev.pos ⟨by omega, hn⟩ ?_))
    rw [hr, w64 (i := (p.length : Int) + 1) (by omega) (by omega)]
    refine Ev.neg (by omega) (Ev.bind (Ev.now' (by rw [show ((p.length : Int) + 1) = ((p.length + 1 : Nat) : Int) by omega]; exact beg _ _ hsz)) ?_)
    refine Ev.bind (j0_ev _ hx hA hB hc hl A.length 0 (by omega)) ?_
    simp only
    rw [hg]
    refine Ev.pos ⟨⟨by show K0.length ≤ _; omega, by omega⟩, ⟨by omega, by rw [hlen]; omega⟩, by omega, by rw [hxs]; omega⟩ ?_
    have hcut : ((pre ++ (A ++ B)).take (((pre.length + A.length : Nat)) : Int).toNat).drop ((pre.length : Int)).toNat = A := by
      rw [Int.toNat_natCast, Int.toNat_natCast, ← List.append_assoc, ← List.length_append, List.take_left, List.drop_left]
    rw [hcut, (bt_pre (w := (A[0]).extract 0 (p.length + 1)) (p := p) (c := c) (t := []) hx).1]
    have hT := i1 (p ++ [c]) A (L.set n ⟨s, e, K0 ++ [(L.length : Int)]⟩) hA.down (by omega) (fun w hw => hz w (List.mem_append_left _ hw)) (by simp) (by omega)
    rw [show (((p ++ [c]).length : Nat) : Int) = (p.length : Int) + 1 by simp] at hT
    refine Ev.bind hT ?_
    have hG := i2 p (pre ++ A) B (L.set n ⟨s, e, K0 ++ [(L.length : Int)]⟩ ++ S) n s e (K0 ++ [(L.length : Int)]) hB (by rw [List.append_assoc]; exact hl) (fun w hw => hz w (List.mem_append_right _ hw)) (by simp) (by simp; omega) (by rw [getD_app_left _ _ _ _ (by simpa using hn)]; exact getD_set _ _ _ _ hn) (by simp; omega) (by omega)
    have hR : (L.set n ⟨s, e, K0 ++ [(L.length : Int)]⟩ ++ S).set n ⟨s, e, K0 ++ [(L.length : Int)] ++ K⟩ ++ N = L.set n ⟨s, e, K0 ++ (L.length : Int) :: K⟩ ++ (S ++ N) := by
      rw [List.set_append_left _ _ (by simpa using hn), List.set_set, List.append_assoc, List.append_assoc]; rfl
    rw [hR, List.append_assoc, List.length_append] at hG
    exact hG
mutual
theorem Tr.rgrow : ∀ {ts : List (List UInt8)} {s : Int} {b : Nat} {N : List Lf}, Tr ts s b N → RT ts s b N
  | _, _, _, _, Tr.mk he h => rt_step he (Gr.rgrow h)
theorem Gr.rgrow : ∀ {rs : List (List UInt8)} {b : Nat} {K : List Int} {N : List Lf}, Gr rs b K N → RG rs b K N
  | _, _, _, _, Gr.nil => rg_nil
  | _, _, _, _, Gr.cons hg hc h h2 => rg_step hg hc h (Tr.rgrow h) (Gr.rgrow h2)
end
end Go.Proofs.Ytdaooagikacboaa.Lem
