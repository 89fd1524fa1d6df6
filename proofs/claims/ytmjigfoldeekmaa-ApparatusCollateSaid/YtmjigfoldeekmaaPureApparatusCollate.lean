/- Collate of package apparatus returns what the reference returns, for any texts; Of leads back to each text (what is larger than the law's own guards is left out by the law itself). -/
import Derived.Test.YtmjigfoldeekmaaV6
import Derived.Test.YtmjigfoldeekmaaX25
namespace Go.Proofs.Ytmjigfoldeekmaa.Pure
open Go.RowKit Go.Proofs.Ytmjigfoldeekmaa.X Go.Proofs.Ytmjigfoldeekmaa.Lem Go.Proofs.YtmjigfoldeekmaaW.PrintWords Go.Proofs.YtmjigfoldeekmaaW.PrintLast
theorem awake_ev : Ev (fun k => ancepslaw57_awake.f k) true := Ev.of (fun k => ancepslaw57_awake.mono k) (k := 60) (by kernel_rfl)
theorem sum_len (l : List ByteArray) (hs : Small l) (hl : l.length ≤ 140737488355328) (d : Nat) : ∀ (i : Nat) (n : Int), i + d = l.length → 0 ≤ n → n ≤ 140737488359329 → ∃ r, n ≤ r ∧ r ≤ 140737488359329 ∧ (r ≤ 4000 → (d : Int) ≤ 4000 - n) ∧ Ev (fun k => ancepsref01_Sum.l0 k l 4000 n (i : Int)) r := by
  induction d with
  | zero =>
    intro i n hi h0 h1
    exact ⟨n, Int.le_refl _, h1, fun h => by omega, Ev.step (fun k => rfl) (Ev.neg (by omega) (Ev.val rfl))⟩
  | succ d ih =>
    intro i n hi h0 h1
    have hsz := hs.at_ (show i < l.length by omega)
    by_cases h : n ≤ 4000
    · obtain ⟨r, rn, r1, r2, hr⟩ := ih (i + 1) (n + 1 + (l.getD i ByteArray.empty).size) (by omega) (by omega) (by omega)
      refine ⟨r, by omega, r1, fun h => by have := r2 h; omega, Ev.step (fun k => rfl) (Ev.pos (by omega) (Ev.pos h (Ev.pos (by omega) ?_)))⟩
      rw [rdOf_getD, w64 (i := n + 1) (by omega) (by omega), w64 (by omega) (by omega), w64 (i := (i : Int) + 1) (by omega) (by omega)]
      exact hr
    · exact ⟨n, Int.le_refl _, h1, fun h => by omega, Ev.step (fun k => rfl) (Ev.pos (by omega) (Ev.neg h (Ev.val rfl)))⟩
theorem sum_ev (l : List ByteArray) (hs : Small l) (hl : l.length ≤ 140737488355328) : ∃ r, 0 ≤ r ∧ r ≤ 140737488359329 ∧ (r ≤ 4000 → l.length ≤ 4000) ∧ Ev (fun k => ancepsref01_Sum.f k l 4000) r := by
  obtain ⟨r, r0, r1, r2, hr⟩ := sum_len l hs hl l.length 0 0 (by omega) (by omega) (by omega)
  exact ⟨r, r0, r1, fun h => by have := r2 h; omega, hr⟩
structure BigT (texts : List (List ByteArray)) : Prop where
  len : texts.length ≤ 140737488355328
  at_ : ∀ x ∈ texts, Small x ∧ x.length ≤ 140737488355328
def SumI (texts : List (List ByteArray)) (i : Nat) (y : Int) : Prop := texts.length ≤ 12 → 0 ≤ y ∧ y ≤ ((i : Int) + 1) * 140737488359330 ∧ (y ≤ 4000 → ∀ j, j < i → (texts.getD j []).length ≤ 4000)
theorem l0_loop (x0 : List ByteArray) (texts : List (List ByteArray)) (hb : BigT texts) (hend : ∀ y, SumI texts texts.length y → Ev (fun k => (ancepslaw57_awake.f k).bind fun t => if t = true then (if (x0.length : Int) > 12 then ancepslaw57_ApparatusCollate.j1 k x0 texts true else if (texts.length : Int) > 12 then ancepslaw57_ApparatusCollate.j1 k x0 texts true else ancepslaw57_ApparatusCollate.j1 k x0 texts (decide (y > 4000))) else ancepslaw57_ApparatusCollate.j1 k x0 texts true) true) (d : Nat) :
    ∀ (i : Nat) (y : Int), i + d = texts.length → SumI texts i y → Ev (fun k => ancepslaw57_ApparatusCollate.l0 k x0 texts y texts (texts.length : Int) (i : Int)) true := by
  have hlen := hb.len
  induction d with
  | zero =>
    intro i y hi hy
    obtain rfl : i = texts.length := by omega
    exact Ev.step (fun k => ancepslaw57_ApparatusCollate.l0.eq_2 _ _ _ _ _ _ _) (Ev.neg (by omega) (hend y hy))
  | succ d ih =>
    intro i y hi hy
    obtain ⟨h1, h2⟩ := hb.at_ _ (getD_in texts [] (show i < texts.length by omega))
    obtain ⟨r, r0, r1, r2, hr⟩ := sum_ev _ h1 h2
    refine Ev.step (fun k => ancepslaw57_ApparatusCollate.l0.eq_2 _ _ _ _ _ _ _) (Ev.pos (by omega) (Ev.pos (by omega) (Ev.pos (by omega) ?_)))
    rw [rdG, w64 (i := (i : Int) + 1) (by omega) (by omega)]
    refine Ev.bind hr (ih (i + 1) _ (by omega) (fun h12 => ?_))
    obtain ⟨y0, y1, y2⟩ := hy h12
    rw [w64 (i := 1 + r) (by omega) (by omega), w64 (by omega) (by omega)]
    refine ⟨by omega, by omega, fun h j hj => ?_⟩
    by_cases e : j = i
    · subst e; exact r2 (by omega)
    · exact y2 (by omega) j (by omega)
theorem l1_loop (x0 : List ByteArray) (texts : List (List ByteArray)) (ht : TextsOk texts) (hend : Ev (fun k => (slices_Clone_string_string.f x0).bind fun t446 => (apparatus_Collate.f k t446 texts).bind fun bt449 => (ancepsref57_Collate.f k x0 texts).bind fun bt457 => if bt449.2.2 = bt457.2.2 then ((ancepsref57_Same.f k bt449.1 bt449.2.1 bt457.1 bt457.2.1).bind fun t465 => if t465 = true then ancepslaw57_ApparatusCollate.j3 k x0 texts bt449.2.2 bt457.2.2 (bt449.2.2 != 0) bt449.1 bt449.2.1 bt457.1 bt457.2.1 else ancepslaw57_ApparatusCollate.j3 k x0 texts bt449.2.2 bt457.2.2 true bt449.1 bt449.2.1 bt457.1 bt457.2.1) else ancepslaw57_ApparatusCollate.j3 k x0 texts bt449.2.2 bt457.2.2 true bt449.1 bt449.2.1 bt457.1 bt457.2.1) true) (d : Nat) :
    ∀ i : Nat, i + d = texts.length → Ev (fun k => ancepslaw57_ApparatusCollate.l1 k x0 texts (texts.take i) texts (texts.length : Int) (i : Int)) true := by
  have hlen := ht.len
  induction d with
  | zero =>
    intro i hi
    rw [List.take_of_length_le (by omega)]
    exact Ev.step (fun k => ancepslaw57_ApparatusCollate.l1.eq_2 _ _ _ _ _ _ _) (Ev.neg (by omega) hend)
  | succ d ih =>
    intro i hi
    refine Ev.step (fun k => ancepslaw57_ApparatusCollate.l1.eq_2 _ _ _ _ _ _ _) (Ev.pos (by omega) (Ev.pos (by omega) (Ev.pos (by omega) ?_)))
    rw [rdG, w64 (by omega) (by omega)]
    refine Ev.bind (Ev.now' (clone_eq _ (flat_small ht (by omega)).2)) (Ev.pos (by rw [List.length_take]; omega) ?_)
    rw [getD_lt texts [] (by omega : i < texts.length), ← List.take_succ_eq_append_getElem (by omega)]
    exact ih (i + 1) (by omega)
theorem l2_loop (ws : List ByteArray) (texts : List (List ByteArray)) (hw : Small ws) (hwl : ws.length ≤ 1000000) (ht : TextsOk texts) (hn : namesS ws = 0) (he : texts.length = ws.length) (hs : sameT texts texts = true) (rows : List S65) (hr : rows = rowsC texts (texts.getD 0 []).length) (ha : appS ws rows = 0) (hsr : SmallR rows) (d : Nat) :
    ∀ i : Nat, i + d = ws.length → Ev (fun k => ancepslaw57_ApparatusCollate.l2 k texts ws (ws.length : Int) (i : Int) ws rows) true := by
  have hnl := namesS_len hn
  induction d with
  | zero =>
    intro i hi
    exact Ev.step (fun k => ancepslaw57_ApparatusCollate.l2.eq_2 _ _ _ _ _ _ _) (Ev.neg (by omega) (Ev.val rfl))
  | succ d ih =>
    intro i hi
    refine Ev.step (fun k => ancepslaw57_ApparatusCollate.l2.eq_2 _ _ _ _ _ _ _) (Ev.pos (by omega) (Ev.pos (by omega) (Ev.pos (by omega) ?_)))
    rw [rdOf_getD, rdG, w64 (by omega) (by omega)]
    have hx := of_ev ws rows (ws.getD i ByteArray.empty) hw hwl hsr
    unfold ofS at hx
    rw [if_pos ha, idxF_name hn (by omega), if_neg (by omega), hr, coll_texts (by omega) hs (by omega), ← hr] at hx
    refine Ev.bind hx (Ev.pos rfl (Ev.pos (by omega) (Ev.bind (equal_ev _ ?_) (Ev.pos rfl (ih (i + 1) (by omega))))))
    have := (flat_small ht (show i < texts.length by omega)).2
    show (texts.getD i []).length ≤ 1000000000
    omega
theorem main_ev (ws : List ByteArray) (texts : List (List ByteArray)) (hw : Small ws) (hwl : ws.length ≤ 1000000) (ht : TextsOk texts) : Ev (fun k => (slices_Clone_string_string.f ws).bind fun t446 => (apparatus_Collate.f k t446 texts).bind fun bt449 => (ancepsref57_Collate.f k ws texts).bind fun bt457 => if bt449.2.2 = bt457.2.2 then ((ancepsref57_Same.f k bt449.1 bt449.2.1 bt457.1 bt457.2.1).bind fun t465 => if t465 = true then ancepslaw57_ApparatusCollate.j3 k ws texts bt449.2.2 bt457.2.2 (bt449.2.2 != 0) bt449.1 bt449.2.1 bt457.1 bt457.2.1 else ancepslaw57_ApparatusCollate.j3 k ws texts bt449.2.2 bt457.2.2 true bt449.1 bt449.2.1 bt457.1 bt457.2.1) else ancepslaw57_ApparatusCollate.j3 k ws texts bt449.2.2 bt457.2.2 true bt449.1 bt449.2.1 bt457.1 bt457.2.1) true := by
  refine Ev.bind (Ev.now' (clone_eq ws hwl)) (Ev.bind (coll_ev ws texts hw hwl ht) (Ev.bind (rcoll_ev ws texts hw hwl ht) (Ev.pos rfl ?_)))
  have herr : ∀ e : Int, e ≠ 0 → Ev (fun k => (ancepsref57_Same.f k ([] : List ByteArray) ([] : List S65) [] []).bind fun t465 => if t465 = true then ancepslaw57_ApparatusCollate.j3 k ws texts e e (e != 0) [] [] [] [] else ancepslaw57_ApparatusCollate.j3 k ws texts e e true [] [] [] []) true := by
    intro e he
    have hs := same_ev [] [] (by decide) ⟨by decide, fun x hx => by cases hx⟩
    refine Ev.bind hs (Ev.pos rfl ?_)
    exact Ev.step (fun k => ancepslaw57_ApparatusCollate.j3.eq_2 _ _ _ _ _ _ _ _ _ _) (Ev.pos (bne_iff_ne.2 he) (Ev.pos rfl (Ev.bind hs (Ev.val rfl))))
  unfold collS
  by_cases h : namesS ws = 0
  · have hnl := namesS_len h
    rw [if_pos h]
    by_cases h1 : texts.length = ws.length
    · rw [if_pos h1]
      by_cases h2 : sameT texts texts = true
      · rw [if_pos h2]
        by_cases h3 : 200 < (texts.getD 0 []).length
        · rw [if_pos h3]
          exact herr 3 (by decide)
        · rw [if_neg h3]
          by_cases h4 : vS texts.flatten = 0
          · rw [if_pos h4]
            have ha := coll_valid h h1 h2 h3 h4
            have hsr : SmallR (rowsC texts (texts.getD 0 []).length) := by
              refine ⟨by unfold rowsC; rw [List.length_map, List.length_range]; omega, fun x hx => ?_⟩
              obtain ⟨i, hi, rfl⟩ := List.mem_map.1 hx
              rw [List.mem_range] at hi
              have hc : ∀ w, w < texts.length → (cellT texts i w).size ≤ 140737488355328 := fun w hw => ht.small _ (cell_valid h2 h4 hi hw).2
              exact ⟨hc 0 (by omega), rowC_size texts (by omega) i hc⟩
            refine Ev.bind (same_ev ws _ hwl hsr) (Ev.pos rfl ?_)
            refine Ev.step (fun k => ancepslaw57_ApparatusCollate.j3.eq_2 _ _ _ _ _ _ _ _ _ _) (Ev.neg (show ¬ ((0 : Int) != 0) = true by decide) ?_)
            exact l2_loop ws texts hw hwl ht h h1 h2 _ rfl ha hsr ws.length 0 (by omega)
          · rw [if_neg h4]
            exact herr _ h4
      · rw [if_neg h2]
        exact herr 6 (by decide)
    · rw [if_neg h1]
      exact herr 6 (by decide)
  · rw [if_neg h]
    exact herr _ h
theorem flat_len : ∀ (l : List (List ByteArray)) (n : Nat), (∀ x ∈ l, x.length ≤ n) → l.flatten.length ≤ l.length * n
  | [], n, _ => by simp
  | x :: l, n, h => by
    have h1 := h x (List.mem_cons_self ..)
    have h2 := flat_len l n (fun y hy => h y (List.mem_cons_of_mem _ hy))
    rw [List.flatten_cons, List.length_append, List.length_cons, Nat.succ_mul]
    omega
theorem ApparatusCollate : ancepslaw57_ApparatusCollate.Pure := by
  intro ws texts h0 h1 h2 h3 h4 h5
  refine Ev.rounds (g := fun k => ancepslaw57_ApparatusCollate.f k ws texts) ?_
  have hw : Small ws := fun z hz => by have := h2 z hz; omega
  have hb : BigT texts := ⟨by omega, fun x hx => by
    have hx1 := h5 x hx
    exact ⟨fun y hy => by have := hx1.2.2 y hy; omega, by have := hx1.2.1; omega⟩⟩
  have hj : Ev (fun k => ancepslaw57_ApparatusCollate.j1 k ws texts true) true := Ev.step (fun k => ancepslaw57_ApparatusCollate.j1.eq_2 _ _ _ _) (Ev.pos rfl (Ev.bind awake_ev (Ev.val rfl)))
  obtain ⟨r, r0, r1, r2, hr⟩ := sum_ev ws hw (by omega)
  unfold ancepslaw57_ApparatusCollate.f
  refine Ev.bind hr (l0_loop ws texts hb (fun y hy => ?_) texts.length 0 r (by omega) (fun _ => ⟨r0, by omega, fun _ j hj => by omega⟩))
  refine Ev.bind awake_ev (Ev.pos rfl (Ev.cond (fun _ => hj) (fun h12 => Ev.cond (fun _ => hj) (fun h13 => ?_))))
  by_cases h6 : y > 4000
  · rw [decide_eq_true h6]; exact hj
  · rw [decide_eq_false h6]
    have hy2 := (hy (by omega)).2.2 (by omega)
    have hlen : ∀ x ∈ texts, x.length ≤ 4000 := by
      intro x hx
      obtain ⟨j, hj, rfl⟩ := List.mem_iff_getElem.1 hx
      have := hy2 j hj
      rw [getD_lt texts [] hj] at this
      exact this
    have ht : TextsOk texts := ⟨by omega, by
      have := flat_len texts 4000 hlen
      omega, fun x hx => by
      obtain ⟨l, hl, hx⟩ := List.mem_flatten.1 hx
      exact (hb.at_ l hl).1 x hx⟩
    refine Ev.step (fun k => ancepslaw57_ApparatusCollate.j1.eq_2 _ _ _ _) (Ev.neg Bool.false_ne_true ?_)
    exact l1_loop ws texts ht (main_ev ws texts hw (by omega) ht) texts.length 0 (by omega)
end Go.Proofs.Ytmjigfoldeekmaa.Pure
