/- Chapter 54: what grow and the other grow make out of a sorted list is its tree. -/
import Derived.Test.YtdaooagikacboaaT3
import Derived.Test.YtdaooagikacboaaX5
import Derived.Test.YtdaooagikacboaaX8
namespace Go.Proofs.Ytdaooagikacboaa.Lem
open Go.RowKit Go.Proofs.Ytdaooagikacboaa.X Go.Proofs.YtdaooagikacboaaW.PrintWords Go.Proofs.YtdaooagikacboaaW.PrintLast
/-- the words are these letters and then one of these tails each -/
def Hd (p : List UInt8) (ts : List (List UInt8)) (ws : List ByteArray) : Prop := ws.map (fun w => w.data.toList) = ts.map (p ++ ·)
theorem Hd.len {p : List UInt8} {ts : List (List UInt8)} {ws : List ByteArray} (h : Hd p ts ws) : ws.length = ts.length := by
  have := congrArg List.length h
  simpa using this
theorem Hd.cons {p t : List UInt8} {ts : List (List UInt8)} {ws : List ByteArray} (h : Hd p (t :: ts) ws) : ∃ w r, ws = w :: r ∧ w.data.toList = p ++ t ∧ Hd p ts r := by
  cases ws with
  | nil => exact absurd h.len (by simp)
  | cons w r =>
    unfold Hd at h
    rw [List.map_cons, List.map_cons] at h
    exact ⟨w, r, rfl, (List.cons.inj h).1, (List.cons.inj h).2⟩
theorem Hd.app {p : List UInt8} {a b : List (List UInt8)} {ws : List ByteArray} (h : Hd p (a ++ b) ws) : ∃ A B, ws = A ++ B ∧ Hd p a A ∧ Hd p b B := by
  unfold Hd at h
  rw [List.map_append] at h
  obtain ⟨A, B, h1, h2, h3⟩ := List.map_eq_append_iff.1 h
  exact ⟨A, B, h1, h2, h3⟩
theorem Hd.down {p : List UInt8} {c : UInt8} {g : List (List UInt8)} {ws : List ByteArray} (h : Hd p (g.map (c :: ·)) ws) : Hd (p ++ [c]) g ws := by
  unfold Hd at h ⊢
  rw [h, List.map_map]
  refine List.map_congr_left fun t _ => ?_
  simp
theorem Hd.at {p : List UInt8} {ts : List (List UInt8)} {ws : List ByteArray} (h : Hd p ts ws) (j : Nat) (hj : j < ws.length) : ∃ t ∈ ts, (ws[j]).data.toList = p ++ t := by
  have h1 : (ws[j]).data.toList ∈ ws.map (fun w => w.data.toList) := List.mem_map_of_mem (List.getElem_mem hj)
  rw [h] at h1
  obtain ⟨t, ht, he⟩ := List.mem_map.1 h1
  exact ⟨t, ht, he.symm⟩
theorem size_data (w : ByteArray) : w.data.toList.length = w.size := by rw [data_length]
theorem bt_pre {w : ByteArray} {p t : List UInt8} {c : UInt8} (h : w.data.toList = p ++ c :: t) : bt w (p.length : Int) = (c.toNat : Int) ∧ p.length + 1 ≤ w.size := by
  have hs : p.length < w.size := by rw [← size_data, h]; simp
  refine ⟨?_, hs⟩
  rw [← bytesOf_get w p.length hs]
  have h2 : bytesOf w = (p ++ c :: t).map (fun b => (b.toNat : Int)) := by unfold bytesOf; rw [h]
  simp [h2]
theorem ext_pre {w : ByteArray} {p t : List UInt8} {c : UInt8} (h : w.data.toList = p ++ c :: t) : (w.extract 0 (p.length + 1)).data.toList = p ++ [c] := by
  rw [ByteArray.data_extract, Array.toList_extract, h]
  simp [List.take_append]
  exact List.take_of_length_le (by omega)
theorem rdOf_app (A B : List ByteArray) (w : ByteArray) : rdOf ByteArray.empty (A ++ w :: B) (A.length : Int) = w := by
  unfold rdOf
  rw [Int.toNat_natCast, List.getD_eq_getElem?_getD, List.getElem?_append_right (Nat.le_refl _), Nat.sub_self]; rfl
theorem Gr.heads {rs : List (List UInt8)} {b : Nat} {K : List Int} {N : List Lf} (h : Gr rs b K N) : ∀ t ∈ rs, ∃ c t', t = c :: t' := by
  cases h with
  | nil => intro t h; cases h
  | cons hg hc h h2 =>
    intro t ht
    rcases List.mem_append.1 ht with ht | ht
    · obtain ⟨u, _, rfl⟩ := List.mem_map.1 ht
      exact ⟨_, _, rfl⟩
    · obtain ⟨c', t', rfl, _⟩ := hc t ht
      exact ⟨_, _, rfl⟩
/-- the index of the first word of another letter -/
theorem i0_ev {p : List UInt8} {c : UInt8} {g rem : List (List UInt8)} {A B : List ByteArray} (hA : Hd p (g.map (c :: ·)) A) (hB : Hd p rem B) (hc : ∀ t ∈ rem, ∃ c' t', t = c' :: t' ∧ c < c') (hl : (A ++ B).length ≤ 1000000) (d : Nat) : ∀ i : Nat, i + d = A.length →
    Ev (fun k => wordlist_grow.i0 k (A ++ B) (p.length : Int) (c.toNat : Int) (i : Int)) (if rem = [] then -1 else (A.length : Int)) := by
  induction d with
  | zero =>
    intro i hi
    obtain rfl : i = A.length := by omega
    cases rem with
    | nil =>
      have hb : B = [] := List.eq_nil_of_length_eq_zero (by rw [hB.len]; rfl)
      subst hb
      rw [if_pos rfl]
      exact Ev.step (fun k => wordlist_grow.i0.eq_2 _ _ _ _ _) (Ev.neg (by simp) (Ev.now _))
    | cons t r =>
      obtain ⟨w, B', rfl, hw, _⟩ := hB.cons
      obtain ⟨c', t', rfl, hlt⟩ := hc t (List.mem_cons_self ..)
      obtain ⟨hb, hsz⟩ := bt_pre hw
      rw [if_neg (by simp)]
      have hne : ((c'.toNat : Int) != (c.toNat : Int)) = true := by
        have := UInt8.lt_iff_toNat_lt.1 hlt
        simp; omega
      refine Ev.step (fun k => wordlist_grow.i0.eq_2 _ _ _ _ _) (Ev.pos (by simp <;> omega) (Ev.pos (by omega) ?_))
      rw [rdOf_app, hb]
      exact Ev.pos (by omega) (Ev.pos hne (Ev.now _))
  | succ d ih =>
    intro i hi
    have hlt : i < A.length := by omega
    obtain ⟨t, ht, hw⟩ := hA.at i hlt
    obtain ⟨u, _, rfl⟩ := List.mem_map.1 ht
    obtain ⟨hb, hsz⟩ := bt_pre hw
    have hr : rdOf ByteArray.empty (A ++ B) (i : Int) = A[i] := by
      rw [rdOf_at _ _ (by rw [List.length_append]; omega), List.getElem_append_left hlt]
    refine Ev.step (fun k => wordlist_grow.i0.eq_2 _ _ _ _ _) (Ev.pos (by rw [List.length_append]; omega) (Ev.pos (by omega) ?_))
    rw [hr, hb]
    refine Ev.pos (by omega) (Ev.neg (by simp) ?_)
    rw [List.length_append] at hl
    rw [w64 (by omega) (by omega)]
    exact ih (i + 1) (by omega)
theorem getD_app_left (L S : List Lf) (n : Nat) (d : Lf) (h : n < L.length) : (L ++ S).getD n d = L.getD n d := by
  rw [List.getD_eq_getElem?_getD, List.getD_eq_getElem?_getD, List.getElem?_append_left h]
theorem getD_set (L : List Lf) (n : Nat) (d x : Lf) (h : n < L.length) : (L.set n x).getD n d = x := by
  rw [List.getD_eq_getElem?_getD, List.getElem?_set_self h]; rfl
theorem set_last (L : List Lf) (x y : Lf) : (L ++ [x]).set L.length y = L ++ [y] := by simp
theorem getD_last (L : List Lf) (x d : Lf) : (L ++ [x]).getD L.length d = x := by simp
/-- what grow makes of the words of a node, and of the words below one -/
def GT (ts : List (List UInt8)) (s : Int) (b : Nat) (N : List Lf) : Prop := ∀ (p : List UInt8) (ws : List ByteArray) (L : List Lf), Hd p ts ws → ws.length ≤ 1000000 → (∀ w ∈ ws, w.size ≤ 1000000) → L.length = b → b + N.length ≤ 1000000 →
    Ev (fun k => wordlist_grow.f k L ws (p.length : Int) s) (L ++ N, (b : Int))
def GG (rs : List (List UInt8)) (b : Nat) (K : List Int) (N : List Lf) : Prop := ∀ (p : List UInt8) (ws : List ByteArray) (L : List Lf) (n : Nat) (s : Int) (e : Bool) (K0 : List Int), Hd p rs ws → ws.length ≤ 1000000 → (∀ w ∈ ws, w.size ≤ 1000000) → L.length = b → n < L.length → L.getD n ⟨0, false, []⟩ = ⟨s, e, K0⟩ → K0.length + N.length ≤ 1000000 → b + N.length ≤ 1000000 →
    Ev (fun k => wordlist_grow.l0 k L ws (p.length : Int) n) (L.set n ⟨s, e, K0 ++ K⟩ ++ N, (n : Int))
theorem gt_step {ts rs : List (List UInt8)} {s : Int} {b : Nat} {e : Bool} {K : List Int} {N : List Lf} (he : ts = if e = true then [] :: rs else rs) (h : Gr rs (b + 1) K N) (ih : GG rs (b + 1) K N) : GT ts s b (⟨s, e, K⟩ :: N) := by
    intro p ws L hw hl hz hb hn
    subst hb
    rw [List.length_cons] at hn
    have hfin : ∀ rw' : List ByteArray, Hd p rs rw' → rw'.length ≤ 1000000 → (∀ w ∈ rw', w.size ≤ 1000000) → Ev (fun k => wordlist_grow.l0 k (L ++ [⟨s, e, []⟩]) rw' (p.length : Int) L.length) (L ++ ⟨s, e, K⟩ :: N, (L.length : Int)) := by
      intro rw' h1 h2 h3
      have := ih p rw' (L ++ [⟨s, e, []⟩]) L.length s e [] h1 h2 h3 (by simp) (by simp) (getD_last _ _ _) (by simp; omega) (by omega)
      rw [set_last, List.nil_append, List.append_assoc] at this
      exact this
    cases e with
    | true =>
      rw [if_pos rfl] at he
      subst he
      obtain ⟨w, r, rfl, h1, h2⟩ := hw.cons
      rw [List.append_nil] at h1
      have hs : w.size = p.length := by rw [← size_data, h1]
      refine Ev.step (fun k => wordlist_grow.f.eq_2 _ _ _ _ _) (Ev.pos (by omega) (Ev.pos (by simp <;> omega) (Ev.pos ?_ ?_)))
      · show ((w.size : Nat) : Int) = _
        rw [hs]
      · exact hfin r h2 (by simp at hl; omega) (fun x hx => hz x (List.mem_cons_of_mem _ hx))
    | false =>
      rw [if_neg (by decide)] at he
      subst he
      refine Ev.step (fun k => wordlist_grow.f.eq_2 _ _ _ _ _) (Ev.pos (by omega) (Ev.cond (fun c => Ev.neg ?_ (hfin ws hw hl hz)) (fun c => hfin ws hw hl hz)))
      cases ws with
      | nil => simp at c
      | cons w r =>
        obtain ⟨t, ht, h1⟩ := hw.at 0 (by simp)
        obtain ⟨c', t', rfl⟩ := Gr.heads h t ht
        have := (bt_pre h1).2
        show ¬ ((w.size : Nat) : Int) = _
        simp only [List.getElem_cons_zero] at this
        omega
theorem gg_nil {b : Nat} : GG [] b [] [] := by
    intro p ws L n s e K0 hw hl hz hb hn hg hk hnn
    have h0 := hw.len
    refine Ev.step (fun k => wordlist_grow.l0.eq_2 _ _ _ _ _) (Ev.neg (by rw [h0]; simp) (Ev.val ?_))
    rw [List.append_nil, List.append_nil, ← hg, List.getD_eq_getElem?_getD, List.getElem?_eq_getElem hn, Option.getD_some, List.set_getElem_self]
theorem gg_step {g rem : List (List UInt8)} {c : UInt8} {b : Nat} {S N : List Lf} {K : List Int} (hgn : g ≠ []) (hc : ∀ t ∈ rem, ∃ c' t', t = c' :: t' ∧ c < c') (h : Tr g (c.toNat : Int) b S) (i1 : GT g (c.toNat : Int) b S) (i2 : GG rem (b + S.length) K N) : GG (g.map (c :: ·) ++ rem) b ((b : Int) :: K) (S ++ N) := by
    intro p ws L n s e K0 hw hl hz hb hn hg hk hnn
    subst hb
    obtain ⟨A, B, rfl, hA, hB⟩ := hw.app
    rw [List.length_append] at hk hnn
    obtain ⟨e1, K1, M, hS⟩ := Tr.ne h
    have hsl : 0 < S.length := by rw [hS]; simp
    have hAl : 0 < A.length := by rw [hA.len, List.length_map]; exact List.length_pos_iff.2 hgn
    obtain ⟨t, ht, h1⟩ := hA.at 0 hAl
    obtain ⟨u, _, rfl⟩ := List.mem_map.1 ht
    obtain ⟨hbt, hsz⟩ := bt_pre h1
    have hr : rdOf ByteArray.empty (A ++ B) 0 = A[0] := by
      have := rdOf_at (A ++ B) 0 (by rw [List.length_append]; omega)
      rw [List.getElem_append_left hAl] at this
      exact this
    have hz0 := hz A[0] (List.mem_append_left _ (List.getElem_mem hAl))
    have hAB := hl
    rw [List.length_append] at hAB
    refine Ev.step (fun k => wordlist_grow.l0.eq_2 _ _ _ _ _) (Ev.pos (by rw [List.length_append]; omega) ?_)
    rw [hr, hbt]
    refine Ev.pos (by omega) (Ev.bind (i0_ev hA hB hc hl A.length 0 (by omega)) ?_)
    have hq : (if (if rem = [] then (-1 : Int) else (A.length : Int)) < 0 then (((A ++ B).length : Nat) : Int) else (if rem = [] then (-1 : Int) else (A.length : Int))).toNat = A.length := by
      by_cases hrem : rem = []
      · have hb : B = [] := List.eq_nil_of_length_eq_zero (by rw [hB.len, hrem]; rfl)
        rw [if_pos hrem, if_pos (by omega), hb, List.append_nil]; omega
      · rw [if_neg hrem, if_neg (by omega)]; omega
    refine Ev.pos ?_ ?_
    · rw [List.length_append]; split <;> omega
    · rw [hq, List.take_left, List.drop_left, w64 (i := (p.length : Int) + 1) (by omega) (by omega)]
      have hT := i1 (p ++ [c]) A L hA.down (by omega) (fun w hw => hz w (List.mem_append_left _ hw)) rfl (by omega)
      rw [show (((p ++ [c]).length : Nat) : Int) = (p.length : Int) + 1 by simp] at hT
      refine Ev.bind hT ?_
      simp only
      rw [getD_app_left L S n _ hn, hg]
      refine Ev.pos ⟨by rw [List.length_append]; omega, by show K0.length ≤ _; omega⟩ ?_
      have hG := i2 p B ((L ++ S).set n ⟨s, e, K0 ++ [(L.length : Int)]⟩) n s e (K0 ++ [(L.length : Int)]) hB (by omega) (fun w hw => hz w (List.mem_append_right _ hw)) (by simp) (by simp; omega) (getD_set _ _ _ _ (by simp; omega)) (by simp; omega) (by omega)
      have hR : (L ++ S).set n ⟨s, e, K0 ++ [(L.length : Int)] ++ K⟩ ++ N = L.set n ⟨s, e, K0 ++ (L.length : Int) :: K⟩ ++ (S ++ N) := by
        rw [List.set_append_left _ _ hn, List.append_assoc, List.append_assoc]; rfl
      rw [List.set_set, hR] at hG
      exact hG
mutual
theorem Tr.grow : ∀ {ts : List (List UInt8)} {s : Int} {b : Nat} {N : List Lf}, Tr ts s b N → GT ts s b N
  | _, _, _, _, Tr.mk he h => gt_step he h (Gr.grow h)
theorem Gr.grow : ∀ {rs : List (List UInt8)} {b : Nat} {K : List Int} {N : List Lf}, Gr rs b K N → GG rs b K N
  | _, _, _, _, Gr.nil => gg_nil
  | _, _, _, _, Gr.cons hg hc h h2 => gg_step hg hc h (Tr.grow h) (Gr.grow h2)
end
end Go.Proofs.Ytdaooagikacboaa.Lem
