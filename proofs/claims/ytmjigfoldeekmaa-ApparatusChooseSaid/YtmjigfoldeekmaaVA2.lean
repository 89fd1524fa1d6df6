/- Plain lemmas of chapter 57: the reference; what a witness has in all rows; lists that are equal; what is small. -/
import Derived.Test.YtmjigfoldeekmaaVA1
import Derived.Test.YtmjigfoldeekmaaX17
import Derived.Test.YtmjigfoldeekmaaX19
import Derived.Test.YtmjigfoldeekmaaX13
import Derived.Test.YtmjigfoldeekmaaX11
namespace Go.Proofs.Ytmjigfoldeekmaa.Lem
open Go.RowKit Go.Proofs.Ytmjigfoldeekmaa.X Go.Proofs.YtmjigfoldeekmaaW.PrintWords Go.Proofs.YtmjigfoldeekmaaW.PrintLast
theorem rrow1_loop (t : ByteArray) (l : List S67) (n i : Nat) (taken : Int) (s : ByteArray) (b r : Int) (hi : i < l.length) (hl : l.length ≤ 1000000) (hr : Ev (fun k => if b < 0 then ancepsref57_row.j2 k (n : Int) taken (i : Int) true t l s b else if 0 ≤ (n : Int) then ancepsref57_row.j2 k (n : Int) taken (i : Int) (decide (b ≥ shl .i64 1 (n : Int))) t l s b else none) r) (d : Nat) :
    ∀ j : Nat, j + d = i → Ev (fun k => ancepsref57_row.l1 k (n : Int) taken (i : Int) (j : Int) t l s b) (if 0 ≤ idxF s (((l.take i).drop j).map (·.f0)) j then 5 else r) := by
  induction d with
  | zero =>
    intro j hj
    rw [List.drop_of_length_le (by rw [List.length_take]; omega), if_neg (by simp [idxF])]
    exact Ev.step (fun k => rfl) (Ev.neg (by omega) hr)
  | succ d ih =>
    intro j hj
    have ht : (l.take i).length = i := by rw [List.length_take]; omega
    rw [drop_getD (l.take i) z67 (by omega), List.map_cons, idxF]
    have e : (l.take i).getD j z67 = l.getD j z67 := by
      rw [getD_lt _ _ (by omega : j < (l.take i).length), getD_lt _ _ (by omega : j < l.length), List.getElem_take]
    rw [e]
    refine Ev.step (fun k => rfl) (Ev.pos (by omega) (Ev.pos (by omega) (Ev.pos (by omega) ?_)))
    rw [rdV, w64 (by omega) (by omega)]
    refine Ev.cond (fun h => Ev.val ?_) (fun h => ?_)
    · rw [if_pos (bytes_ext.1 h), if_pos (by omega)]
    · rw [if_neg (show ¬ (l.getD j z67).f0 = s from fun e' => h (by rw [e']))]
      exact ih (j + 1) (by omega)
theorem rrow_loop (t : ByteArray) (l : List S67) (n : Nat) (hn : n ≤ 62) (hs : SmallV l) (hl : l.length ≤ 1000000) (d : Nat) : ∀ (i : Nat) (taken : Int), i + d = l.length → Ev (fun k => ancepsref57_row.l0 k (n : Int) taken (i : Int) t l) (rowF t l n d i taken) := by
  induction d with
  | zero =>
    intro i taken hi
    exact Ev.step (fun k => rfl) (Ev.neg (by omega) (Ev.val rfl))
  | succ d ih =>
    intro i taken hi
    refine Ev.step (fun k => rfl) (Ev.pos (by omega) (Ev.pos (by omega) ?_))
    rw [rdV, rowF]
    refine Ev.bind (rvalid_ev _ (hs.at_ (by omega))) (Ev.cond (fun h => ?_) (fun h => Ev.val (by rw [if_neg h])))
    rw [if_pos h]
    refine Ev.cond (fun h1 => Ev.val (by rw [if_pos (bytes_ext.1 h1)])) (fun h1 => ?_)
    rw [if_neg (fun e => h1 (by rw [e]))]
    refine rrow1_loop t l n i taken _ _ _ (by omega) hl ?_ i 0 (by omega)
    rw [shl_one n hn]
    refine Ev.cond (fun h3 => ?_) (fun h3 => ?_)
    · rw [if_pos (.inl h3)]
      exact Ev.step (fun k => ancepsref57_row.j2.eq_2 _ _ _ _ _ _ _ _ _) (Ev.pos rfl (Ev.val rfl))
    · refine Ev.pos (by omega) ?_
      by_cases h4 : (l.getD i z67).f1 ≥ 2 ^ n
      · rw [if_pos (.inr h4), decide_eq_true h4]
        exact Ev.step (fun k => ancepsref57_row.j2.eq_2 _ _ _ _ _ _ _ _ _) (Ev.pos rfl (Ev.val rfl))
      · rw [if_neg (fun e => e.elim h3 h4), decide_eq_false h4]
        refine Ev.step (fun k => ancepsref57_row.j2.eq_2 _ _ _ _ _ _ _ _ _) (Ev.neg Bool.false_ne_true ?_)
        rw [w64 (by omega) (by omega)]
        exact Ev.cond (fun h5 => by rw [if_pos h5]; exact ih (i + 1) _ (by omega)) (fun h5 => Ev.val (by rw [if_neg h5]))
theorem rrow_ev (t : ByteArray) (l : List S67) (n : Nat) (hn : n ≤ 62) (ht : t.size ≤ 140737488355328) (hs : SmallV l) (hl : l.length ≤ 1000000) : Ev (fun k => ancepsref57_row.f k t l (n : Int)) (rowS t l n) := by
  unfold ancepsref57_row.f rowS
  refine Ev.bind (rvalid_ev t ht) (Ev.cond (fun h => ?_) (fun h => Ev.val (by rw [if_neg h])))
  rw [if_pos h]
  refine Ev.cond (fun h1 => Ev.val (by rw [if_pos (by omega)])) (fun h1 => ?_)
  rw [if_neg (by omega)]
  exact rrow_loop t l n hn hs hl l.length 0 0 (by omega)
theorem rappV_loop (ws : List ByteArray) (hw : ws.length ≤ 62) (l : List S65) (hs : SmallR l) (d : Nat) : ∀ i : Nat, i + d = l.length → Ev (fun k => ancepsref57_Valid.l0 k (i : Int) ws l) (rowsF l ws.length d i) := by
  have hl := hs.1
  induction d with
  | zero =>
    intro i hi
    exact Ev.step (fun k => rfl) (Ev.neg (by omega) (Ev.val rfl))
  | succ d ih =>
    intro i hi
    obtain ⟨h1, h2, h3⟩ := hs.at_ (show i < l.length by omega)
    refine Ev.step (fun k => rfl) (Ev.pos (by omega) (Ev.pos (by omega) ?_))
    rw [rdR, rowsF, w64 (by omega) (by omega)]
    refine Ev.bind (rrow_ev _ _ ws.length hw h1 h2 h3) (Ev.cond (fun h => ?_) (fun h => Ev.val (by rw [if_neg h])))
    rw [if_pos h]
    exact ih (i + 1) (by omega)
theorem rappV_ev (ws : List ByteArray) (l : List S65) (hw : Small ws) (hwl : ws.length ≤ 1000000) (hs : SmallR l) : Ev (fun k => ancepsref57_Valid.f k ws l) (appS ws l) := by
  unfold ancepsref57_Valid.f appS
  refine Ev.bind (rnames_ev ws hw hwl) (Ev.cond (fun h => ?_) (fun h => Ev.val (by rw [if_neg h])))
  rw [if_pos h]
  have := namesS_len h
  refine Ev.cond (fun h1 => Ev.val (by rw [if_pos (by omega)])) (fun h1 => ?_)
  rw [if_neg (by omega)]
  exact rappV_loop ws (by omega) l hs l.length 0 (by omega)
end Go.Proofs.Ytmjigfoldeekmaa.Lem
namespace Go.Proofs.Ytmjigfoldeekmaa.Lem
open Go.RowKit Go.Proofs.Ytmjigfoldeekmaa.X Go.Proofs.YtmjigfoldeekmaaW.PrintWords Go.Proofs.YtmjigfoldeekmaaW.PrintLast
theorem rhas_loop (t : ByteArray) (w : Int) (hw : 0 ≤ w) (l : List S67) (hl : l.length ≤ 1000000) (d : Nat) : ∀ i : Nat, i + d = l.length → Ev (fun k => ancepsref57_has.l0 k w (i : Int) t l) (hasF t w (l.drop i)) := by
  induction d with
  | zero =>
    intro i hi
    rw [List.drop_of_length_le (by omega)]
    exact Ev.step (fun k => rfl) (Ev.neg (by omega) (Ev.val rfl))
  | succ d ih =>
    intro i hi
    rw [drop_getD l z67 (by omega), hasF]
    refine Ev.step (fun k => rfl) (Ev.pos (by omega) (Ev.pos (by omega) (Ev.pos hw ?_)))
    rw [rdV, w64 (by omega) (by omega)]
    refine Ev.cond (fun h => Ev.val (by rw [if_pos h])) (fun h => ?_)
    rw [if_neg h]
    exact ih (i + 1) (by omega)
theorem rhas_ev (r : S65) (w : Int) (hw : 0 ≤ w) (hl : r.f1.length ≤ 1000000) : Ev (fun k => ancepsref57_has.f k r.f0 r.f1 w) (hasS r w) := rhas_loop r.f0 w hw r.f1 hl r.f1.length 0 (by omega)
end Go.Proofs.Ytmjigfoldeekmaa.Lem
namespace Go.Proofs.Ytmjigfoldeekmaa.Lem
open Go.RowKit Go.Proofs.Ytmjigfoldeekmaa.X Go.Proofs.YtmjigfoldeekmaaW.PrintWords Go.Proofs.YtmjigfoldeekmaaW.PrintLast
def textsS (w : Int) (l : List S65) : List ByteArray := l.map (fun r => hasS r w)
def ofS (ws : List ByteArray) (l : List S65) (s : ByteArray) : List ByteArray × Int := if appS ws l = 0 then (if idxF s ws 0 < 0 then ([], 4) else (textsS (idxF s ws 0) l, 0)) else ([], appS ws l)
theorem of_loop (w : Int) (hw : 0 ≤ w) (l : List S65) (hs : SmallR l) (d : Nat) : ∀ i : Nat, i + d = l.length → Ev (fun k => apparatus_Of.l0 k w (textsS w (l.take i)) l (l.length : Int) (i : Int)) (textsS w l, 0) := by
  have hl := hs.1
  induction d with
  | zero =>
    intro i hi
    rw [List.take_of_length_le (by omega)]
    exact Ev.step (fun k => rfl) (Ev.neg (by omega) (Ev.val rfl))
  | succ d ih =>
    intro i hi
    obtain ⟨h1, h2, h3⟩ := hs.at_ (show i < l.length by omega)
    refine Ev.step (fun k => rfl) (Ev.pos (by omega) (Ev.pos (by omega) (Ev.pos (by omega) ?_)))
    rw [rdR, w64 (by omega) (by omega)]
    refine Ev.bind (has_ev _ w hw h3) (Ev.pos (by unfold textsS; rw [List.length_map, List.length_take]; omega) ?_)
    have e : textsS w (l.take i) ++ [hasS (l.getD i z65) w] = textsS w (l.take (i + 1)) := by
      unfold textsS
      rw [getD_lt l _ (by omega : i < l.length), List.take_succ_eq_append_getElem (by omega), List.map_append]; rfl
    rw [e]
    exact ih (i + 1) (by omega)
theorem of_ev (ws : List ByteArray) (l : List S65) (s : ByteArray) (hw : Small ws) (hwl : ws.length ≤ 1000000) (hs : SmallR l) : Ev (fun k => apparatus_Of.f k ws l s) (ofS ws l s) := by
  unfold apparatus_Of.f ofS
  refine Ev.bind (wit_ev ws l s hw hwl hs) ?_
  unfold witS
  by_cases h : appS ws l = 0
  · rw [if_pos h, if_pos h]
    by_cases h1 : idxF s ws 0 < 0
    · rw [if_pos h1, if_pos h1]
      exact Ev.neg (by decide) (Ev.val rfl)
    · rw [if_neg h1, if_neg h1]
      exact Ev.pos rfl (of_loop _ (by omega) l hs l.length 0 (by omega))
  · rw [if_neg h, if_neg h]
    exact Ev.neg h (Ev.val rfl)
end Go.Proofs.Ytmjigfoldeekmaa.Lem
namespace Go.Proofs.Ytmjigfoldeekmaa.Lem
open Go.RowKit Go.Proofs.Ytmjigfoldeekmaa.X Go.Proofs.YtmjigfoldeekmaaW.PrintWords Go.Proofs.YtmjigfoldeekmaaW.PrintLast
theorem rtexts_loop (ws : List ByteArray) (w : Int) (hw : 0 ≤ w) (l : List S65) (hs : SmallR l) (d : Nat) : ∀ i : Nat, i + d = l.length → Ev (fun k => ancepsref57_texts.l0 k w (textsS w (l.take i)) (i : Int) ws l) (textsS w l) := by
  have hl := hs.1
  induction d with
  | zero =>
    intro i hi
    rw [List.take_of_length_le (by omega)]
    exact Ev.step (fun k => rfl) (Ev.neg (by omega) (Ev.val rfl))
  | succ d ih =>
    intro i hi
    obtain ⟨h1, h2, h3⟩ := hs.at_ (show i < l.length by omega)
    refine Ev.step (fun k => rfl) (Ev.pos (by omega) (Ev.pos (by omega) ?_))
    rw [rdR, w64 (by omega) (by omega)]
    refine Ev.bind (rhas_ev _ w hw h3) (Ev.pos (by unfold textsS; rw [List.length_map, List.length_take]; omega) ?_)
    have e : textsS w (l.take i) ++ [hasS (l.getD i z65) w] = textsS w (l.take (i + 1)) := by
      unfold textsS
      rw [getD_lt l _ (by omega : i < l.length), List.take_succ_eq_append_getElem (by omega), List.map_append]; rfl
    rw [e]
    exact ih (i + 1) (by omega)
theorem rof_ev (ws : List ByteArray) (l : List S65) (s : ByteArray) (hw : Small ws) (hwl : ws.length ≤ 1000000) (hs : SmallR l) : Ev (fun k => ancepsref57_Of.f k ws l s) (ofS ws l s) := by
  unfold ancepsref57_Of.f ofS
  refine Ev.bind (rappV_ev ws l hw hwl hs) (Ev.cond (fun h => ?_) (fun h => Ev.val (by rw [if_neg h])))
  rw [if_pos h]
  refine Ev.bind (find_ev ws s (by omega)) (Ev.cond (fun h1 => Ev.val (by rw [if_pos h1])) (fun h1 => ?_))
  rw [if_neg h1]
  exact Ev.bind (rtexts_loop ws _ (by omega) l hs l.length 0 (by omega)) (Ev.val rfl)
end Go.Proofs.Ytmjigfoldeekmaa.Lem
namespace Go.Proofs.Ytmjigfoldeekmaa.Lem
open Go.RowKit Go.Proofs.Ytmjigfoldeekmaa.X Go.Proofs.YtmjigfoldeekmaaW.PrintWords Go.Proofs.YtmjigfoldeekmaaW.PrintLast
theorem equal_loop (l : List ByteArray) (hl : l.length ≤ 1000000000) (d : Nat) : ∀ i : Nat, i + d = l.length → Ev (fun k => ancepsref01_Equal.l0 k l l (i : Int)) true := by
  induction d with
  | zero => intro i hi; exact Ev.step (fun k => rfl) (Ev.neg (by omega) (Ev.val rfl))
  | succ d ih =>
    intro i hi
    refine Ev.step (fun k => rfl) (Ev.pos (by omega) (Ev.pos (by omega) (Ev.pos (by omega) (Ev.pos rfl ?_))))
    rw [w64 (by omega) (by omega)]
    exact ih (i + 1) (by omega)
theorem equal_ev (l : List ByteArray) (hl : l.length ≤ 1000000000) : Ev (fun k => ancepsref01_Equal.f k l l) true := by
  unfold ancepsref01_Equal.f
  exact Ev.pos rfl (equal_loop l hl l.length 0 (by omega))
end Go.Proofs.Ytmjigfoldeekmaa.Lem
namespace Go.Proofs.Ytmjigfoldeekmaa.Lem
open Go.RowKit Go.Proofs.Ytmjigfoldeekmaa.X Go.Proofs.YtmjigfoldeekmaaW.PrintWords Go.Proofs.YtmjigfoldeekmaaW.PrintLast
theorem sum_some (l : List ByteArray) (hs : Small l) (hl : l.length ≤ 140737488355328) (m : Int) (hm : 0 ≤ m ∧ m ≤ 1000000) (d : Nat) : ∀ (i : Nat) (n : Int), i + d = l.length → 0 ≤ n → n ≤ 140737488355328 + m + 1 → ∃ r, 0 ≤ r ∧ n ≤ r ∧ r ≤ 140737488355328 + m + 1 ∧ Ev (fun k => ancepsref01_Sum.l0 k l m n (i : Int)) r := by
  induction d with
  | zero =>
    intro i n hi h0 h1
    exact ⟨n, h0, Int.le_refl _, h1, Ev.step (fun k => rfl) (Ev.neg (by omega) (Ev.val rfl))⟩
  | succ d ih =>
    intro i n hi h0 h1
    have hsz := hs.at_ (show i < l.length by omega)
    by_cases h : n ≤ m
    · obtain ⟨r, r0, rn, r1, hr⟩ := ih (i + 1) (n + 1 + (l.getD i ByteArray.empty).size) (by omega) (by omega) (by omega)
      refine ⟨r, r0, by omega, r1, Ev.step (fun k => rfl) (Ev.pos (by omega) (Ev.pos h (Ev.pos (by omega) ?_)))⟩
      rw [rdOf_getD, w64 (i := n + 1) (by omega) (by omega), w64 (by omega) (by omega), w64 (i := (i : Int) + 1) (by omega) (by omega)]
      exact hr
    · exact ⟨n, h0, Int.le_refl _, h1, Ev.step (fun k => rfl) (Ev.pos (by omega) (Ev.neg h (Ev.val rfl)))⟩
def BigR (l : List S65) : Prop := l.length ≤ 140737488355328 ∧ ∀ x ∈ l, x.f0.size ≤ 140737488355328 ∧ SmallV x.f1 ∧ x.f1.length ≤ 140737488355328
theorem BigR.at_ {l : List S65} (h : BigR l) {i : Nat} (hi : i < l.length) : (l.getD i z65).f0.size ≤ 140737488355328 ∧ SmallV (l.getD i z65).f1 ∧ (l.getD i z65).f1.length ≤ 140737488355328 := h.2 _ (getD_in l _ hi)
theorem few_end (ws : List ByteArray) (l : List S65) (n : Int) (i : Int) (P : Prop) (hP : ws.length ≤ 12 → l.length ≤ 210 → n ≤ 4000 → P) : ∃ b, Ev (fun k => ancepsref57_Few.j1 k n i false ws l) b ∧ (b = true → P) := by
  by_cases h1 : (ws.length : Int) ≤ 12
  · by_cases h2 : (l.length : Int) ≤ 210
    · exact ⟨decide (n ≤ 4000), Ev.step (fun k => ancepsref57_Few.j1.eq_2 _ _ _ _ _ _) (Ev.neg Bool.false_ne_true (Ev.pos h1 (Ev.pos h2 (Ev.val rfl)))), fun h => hP (by omega) (by omega) (of_decide_eq_true h)⟩
    · exact ⟨false, Ev.step (fun k => ancepsref57_Few.j1.eq_2 _ _ _ _ _ _) (Ev.neg Bool.false_ne_true (Ev.pos h1 (Ev.neg h2 (Ev.val rfl)))), fun h => by cases h⟩
  · exact ⟨false, Ev.step (fun k => ancepsref57_Few.j1.eq_2 _ _ _ _ _ _) (Ev.neg Bool.false_ne_true (Ev.neg h1 (Ev.val rfl))), fun h => by cases h⟩
theorem few_in (ws : List ByteArray) (l : List S65) (hs : BigR l) (i : Nat) (hi : i < l.length) (P : Int → Prop) (hP : ∀ n m, n ≤ m → P m → P n) (hnext : ∀ n : Int, 0 ≤ n → n ≤ 140737488359329 → ∃ b, Ev (fun k => ancepsref57_Few.l0 k n ((i : Int) + 1) ws l) b ∧ (b = true → n ≤ 4000 ∧ P n)) (d : Nat) :
    ∀ (j : Nat) (n : Int), j + d = (l.getD i z65).f1.length → 0 ≤ n → n ≤ 140737488359329 → ∃ b, Ev (fun k => ancepsref57_Few.l1 k n (i : Int) (j : Int) ws l) b ∧ (b = true → n ≤ 4000 ∧ P n ∧ (d : Int) ≤ 4000 - n) := by
  obtain ⟨h1, h2, h3⟩ := hs.at_ hi
  have hl := hs.1
  induction d with
  | zero =>
    intro j n hj h0 hn
    obtain ⟨b, hb, hb2⟩ := hnext n h0 hn
    refine ⟨b, Ev.step (fun k => ancepsref57_Few.l1.eq_2 _ _ _ _ _ _) (Ev.pos (by omega) (Ev.pos (by omega) ?_)), fun h => ⟨(hb2 h).1, (hb2 h).2, by have := (hb2 h).1; omega⟩⟩
    rw [rdR, w64 (i := (i : Int) + 1) (by omega) (by omega)]
    exact Ev.neg (by omega) hb
  | succ d ih =>
    intro j n hj h0 hn
    by_cases h : n ≤ 4000
    · have hv := h2.at_ (show j < (l.getD i z65).f1.length by omega)
      obtain ⟨b, hb, hb2⟩ := ih (j + 1) (n + 1 + ((l.getD i z65).f1.getD j z67).f0.size) (by omega) (by omega) (by omega)
      refine ⟨b, Ev.step (fun k => ancepsref57_Few.l1.eq_2 _ _ _ _ _ _) (Ev.pos (by omega) (Ev.pos (by omega) ?_)), fun h => ⟨by omega, hP _ _ (by omega) (hb2 h).2.1, by have := (hb2 h).2.2; omega⟩⟩
      rw [rdR, rdV, w64 (i := n + 1) (by omega) (by omega), w64 (i := n + 1 + _) (by omega) (by omega), w64 (i := (j : Int) + 1) (by omega) (by omega)]
      exact Ev.pos (by omega) (Ev.pos h (Ev.pos (by omega) hb))
    · obtain ⟨b, hb, hb2⟩ := hnext n h0 hn
      refine ⟨b, Ev.step (fun k => ancepsref57_Few.l1.eq_2 _ _ _ _ _ _) (Ev.pos (by omega) (Ev.pos (by omega) ?_)), fun e => absurd (hb2 e).1 h⟩
      rw [rdR, w64 (i := (i : Int) + 1) (by omega) (by omega)]
      exact Ev.pos (by omega) (Ev.neg h hb)
theorem few_loop (ws : List ByteArray) (l : List S65) (hs : BigR l) (d : Nat) : ∀ (i : Nat) (n : Int), i + d = l.length → 0 ≤ n → n ≤ 140737488359329 → ∃ b, Ev (fun k => ancepsref57_Few.l0 k n (i : Int) ws l) b ∧ (b = true → n ≤ 4000 ∧ ws.length ≤ 12 ∧ l.length ≤ 210 ∧ ∀ j, i ≤ j → j < l.length → (l.getD j z65).f1.length ≤ 4000) := by
  have hl := hs.1
  induction d with
  | zero =>
    intro i n hi h0 hn
    obtain ⟨b, hb, hb2⟩ := few_end ws l n (i : Int) _ (fun h1 h2 h3 => (⟨h3, h1, h2, fun j hj hjl => by omega⟩ : n ≤ 4000 ∧ ws.length ≤ 12 ∧ l.length ≤ 210 ∧ ∀ j, i ≤ j → j < l.length → (l.getD j z65).f1.length ≤ 4000))
    exact ⟨b, Ev.step (fun k => ancepsref57_Few.l0.eq_2 _ _ _ _ _) (Ev.neg (by omega) hb), hb2⟩
  | succ d ih =>
    intro i n hi h0 hn
    obtain ⟨h1, h2, h3⟩ := hs.at_ (show i < l.length by omega)
    by_cases h : n ≤ 4000
    · obtain ⟨b, hb, hb2⟩ := few_in ws l hs i (by omega) (fun _ => ws.length ≤ 12 ∧ l.length ≤ 210 ∧ ∀ j, i + 1 ≤ j → j < l.length → (l.getD j z65).f1.length ≤ 4000) (fun _ _ _ h => h) (fun n' h0' hn' => ih (i + 1) n' (by omega) h0' hn') _ 0 (n + 1 + (l.getD i z65).f0.size) (Nat.zero_add _) (by omega) (by omega)
      refine ⟨b, Ev.step (fun k => ancepsref57_Few.l0.eq_2 _ _ _ _ _) (Ev.pos (by omega) ?_), fun e => ?_⟩
      · rw [decide_eq_true h]
        refine Ev.step (fun k => ancepsref57_Few.j1.eq_2 _ _ _ _ _ _) (Ev.pos rfl (Ev.pos (by omega) (Ev.pos (by omega) ?_)))
        rw [rdR, w64 (i := n + 1) (by omega) (by omega), w64 (i := n + 1 + _) (by omega) (by omega)]
        exact hb
      · obtain ⟨e1, ⟨e2, e3, e4⟩, e5⟩ := hb2 e
        refine ⟨by omega, e2, e3, fun j hj hjl => ?_⟩
        by_cases ej : j = i
        · subst ej; omega
        · exact e4 j (by omega) hjl
    · obtain ⟨b, hb, hb2⟩ := few_end ws l n (i : Int) False (fun _ _ h3 => h h3)
      exact ⟨b, Ev.step (fun k => ancepsref57_Few.l0.eq_2 _ _ _ _ _) (Ev.pos (by omega) (by rw [decide_eq_false h]; exact hb)), fun e => (hb2 e).elim⟩
theorem few_ev (ws : List ByteArray) (l : List S65) (hw : Small ws) (hwl : ws.length ≤ 140737488355328) (hs : BigR l) : ∃ b, Ev (fun k => ancepsref57_Few.f k ws l) b ∧ (b = true → ws.length ≤ 12 ∧ l.length ≤ 210 ∧ SmallR l) := by
  unfold ancepsref57_Few.f
  obtain ⟨r, r0, _, r1, hr⟩ := sum_some ws hw hwl 4000 (by decide) ws.length 0 0 (by omega) (by omega) (by omega)
  obtain ⟨b, hb, hb2⟩ := few_loop ws l hs l.length 0 r (by omega) r0 (by omega)
  refine ⟨b, Ev.bind hr hb, fun e => ?_⟩
  obtain ⟨_, e1, e2, e3⟩ := hb2 e
  refine ⟨e1, e2, by omega, fun x hx => ?_⟩
  obtain ⟨j, hj, rfl⟩ := List.mem_iff_getElem.1 hx
  obtain ⟨h1, h2, _⟩ := hs.at_ hj
  have h3 := e3 j (Nat.zero_le _) hj
  rw [getD_lt l _ hj] at h1 h2 h3
  exact ⟨h1, h2, by omega⟩

end Go.Proofs.Ytmjigfoldeekmaa.Lem
