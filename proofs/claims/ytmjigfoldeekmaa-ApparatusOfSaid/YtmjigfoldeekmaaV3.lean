/- Plain lemmas of chapter 57: Of, Unique, Agree; lists that are equal; an apparatus that is small. -/
import Derived.Test.YtmjigfoldeekmaaV2
import Derived.Test.YtmjigfoldeekmaaX16
import Derived.Test.YtmjigfoldeekmaaX17
import Derived.Test.YtmjigfoldeekmaaX18
import Derived.Test.YtmjigfoldeekmaaX13
import Derived.Test.YtmjigfoldeekmaaX19
import Derived.Test.YtmjigfoldeekmaaX12
namespace Go.Proofs.Ytmjigfoldeekmaa.Lem
open Go.RowKit Go.Proofs.Ytmjigfoldeekmaa.X Go.Proofs.YtmjigfoldeekmaaW.PrintWords Go.Proofs.YtmjigfoldeekmaaW.PrintLast
/-! lists of strings that are equal -/
theorem equal_loop (l : List ByteArray) (hl : l.length ≤ 1000000000) (d : Nat) : ∀ i : Nat, i + d = l.length → Ev (fun k => ancepsref01_Equal.l0 k l l (i : Int)) true := by
  induction d with
  | zero => intro i hi; exact Ev.step (fun k => rfl) (Ev.neg (by omega) (Ev.val rfl))
  | succ d ih =>
    intro i hi
    refine Ev.step (fun k => rfl) (Ev.pos (by omega) (Ev.pos (by omega) (Ev.pos (by omega) (Ev.pos rfl ?_))))
    rw [w64 (by omega) (by omega)]
    exact ih (i + 1) (by omega)
theorem equal_ev (l : List ByteArray) (hl : l.length ≤ 1000000000) : Ev (fun k => ancepsref01_Equal.f k l l) true := by
  unfold ancepsref01_Equal.f
  exact Ev.pos rfl (equal_loop l hl l.length 0 (by omega))
theorem ints_loop (l : List Int) (hl : l.length ≤ 1000000000) (d : Nat) : ∀ i : Nat, i + d = l.length → Ev (fun k => slices_Equal_int_int.l0 k l l (l.length : Int) (i : Int)) true := by
  induction d with
  | zero => intro i hi; exact Ev.step (fun k => rfl) (Ev.neg (by omega) (Ev.val rfl))
  | succ d ih =>
    intro i hi
    refine Ev.step (fun k => rfl) (Ev.pos (by omega) (Ev.pos (by omega) (Ev.pos (by omega) (Ev.pos (by omega) (Ev.pos rfl ?_)))))
    rw [w64 (by omega) (by omega)]
    exact ih (i + 1) (by omega)
theorem ints_ev (l : List Int) (hl : l.length ≤ 1000000000) : Ev (fun k => slices_Equal_int_int.f k l l) true := by
  unfold slices_Equal_int_int.f
  exact Ev.pos rfl (ints_loop l hl l.length 0 (by omega))
/-! what a witness has, in all rows -/
def textsS (w : Int) (l : List S65) : List ByteArray := l.map (fun r => hasS r w)
def ofS (ws : List ByteArray) (l : List S65) (s : ByteArray) : List ByteArray × Int := if appS ws l = 0 then (if idxF s ws 0 < 0 then ([], 4) else (textsS (idxF s ws 0) l, 0)) else ([], appS ws l)
theorem of_loop (w : Int) (hw : 0 ≤ w) (l : List S65) (hs : SmallR l) (d : Nat) : ∀ i : Nat, i + d = l.length → Ev (fun k => apparatus_Of.l0 k w (textsS w (l.take i)) l (l.length : Int) (i : Int)) (textsS w l, 0) := by
  have hl := hs.1
  induction d with
  | zero =>
    intro i hi
    rw [List.take_of_length_le (by omega)]
    exact Ev.step (fun k => rfl) (Ev.neg (by omega) (Ev.val rfl))
  | succ d ih =>
    intro i hi
    obtain ⟨h1, h2, h3⟩ := hs.at_ (show i < l.length by omega)
    refine Ev.step (fun k => rfl) (Ev.pos (by omega) (Ev.pos (by omega) (Ev.pos (by omega) ?_)))
    rw [rdR, w64 (by omega) (by omega)]
    refine Ev.bind (has_ev _ w hw h3) (Ev.pos (by unfold textsS; rw [List.length_map, List.length_take]; omega) ?_)
    have e : textsS w (l.take i) ++ [hasS (l.getD i z65) w] = textsS w (l.take (i + 1)) := by
      unfold textsS
      rw [getD_lt l _ (by omega : i < l.length), List.take_succ_eq_append_getElem (by omega), List.map_append]; rfl
    rw [e]
    exact ih (i + 1) (by omega)
theorem of_ev (ws : List ByteArray) (l : List S65) (s : ByteArray) (hw : Small ws) (hwl : ws.length ≤ 1000000) (hs : SmallR l) : Ev (fun k => apparatus_Of.f k ws l s) (ofS ws l s) := by
  unfold apparatus_Of.f ofS
  refine Ev.bind (wit_ev ws l s hw hwl hs) ?_
  unfold witS
  by_cases h : appS ws l = 0
  · rw [if_pos h, if_pos h]
    by_cases h1 : idxF s ws 0 < 0
    · rw [if_pos h1, if_pos h1]
      exact Ev.neg (by decide) (Ev.val rfl)
    · rw [if_neg h1, if_neg h1]
      exact Ev.pos rfl (of_loop _ (by omega) l hs l.length 0 (by omega))
  · rw [if_neg h, if_neg h]
    exact Ev.neg h (Ev.val rfl)
theorem rtexts_loop (ws : List ByteArray) (w : Int) (hw : 0 ≤ w) (l : List S65) (hs : SmallR l) (d : Nat) : ∀ i : Nat, i + d = l.length → Ev (fun k => ancepsref57_texts.l0 k w (textsS w (l.take i)) (i : Int) ws l) (textsS w l) := by
  have hl := hs.1
  induction d with
  | zero =>
    intro i hi
    rw [List.take_of_length_le (by omega)]
    exact Ev.step (fun k => rfl) (Ev.neg (by omega) (Ev.val rfl))
  | succ d ih =>
    intro i hi
    obtain ⟨h1, h2, h3⟩ := hs.at_ (show i < l.length by omega)
    refine Ev.step (fun k => rfl) (Ev.pos (by omega) (Ev.pos (by omega) ?_))
    rw [rdR, w64 (by omega) (by omega)]
    refine Ev.bind (rhas_ev _ w hw h3) (Ev.pos (by unfold textsS; rw [List.length_map, List.length_take]; omega) ?_)
    have e : textsS w (l.take i) ++ [hasS (l.getD i z65) w] = textsS w (l.take (i + 1)) := by
      unfold textsS
      rw [getD_lt l _ (by omega : i < l.length), List.take_succ_eq_append_getElem (by omega), List.map_append]; rfl
    rw [e]
    exact ih (i + 1) (by omega)
theorem rof_ev (ws : List ByteArray) (l : List S65) (s : ByteArray) (hw : Small ws) (hwl : ws.length ≤ 1000000) (hs : SmallR l) : Ev (fun k => ancepsref57_Of.f k ws l s) (ofS ws l s) := by
  unfold ancepsref57_Of.f ofS
  refine Ev.bind (rappV_ev ws l hw hwl hs) (Ev.cond (fun h => ?_) (fun h => Ev.val (by rw [if_neg h])))
  rw [if_pos h]
  refine Ev.bind (find_ev ws s (by omega)) (Ev.cond (fun h1 => Ev.val (by rw [if_pos h1])) (fun h1 => ?_))
  rw [if_neg h1]
  exact Ev.bind (rtexts_loop ws _ (by omega) l hs l.length 0 (by omega)) (Ev.val rfl)
/-! where a witness stands alone -/
def aloneF (r : S65) (w : Int) : Nat → Nat → Bool → Bool
  | 0, _, b => b
  | d + 1, v, b => aloneF r w d (v + 1) (b && (decide ((v : Int) = w) || (hasS r v).toList != (hasS r w).toList))
def uniqF (w : Int) (n : Nat) : List S65 → Nat → List Int
  | [], _ => []
  | r :: l, i => (if aloneF r w n 0 true = true then [(i : Int)] else []) ++ uniqF w n l (i + 1)
theorem aloneF_false (r : S65) (w : Int) : ∀ d v, aloneF r w d v false = false
  | 0, _ => rfl
  | d + 1, v => by rw [aloneF, Bool.false_and]; exact aloneF_false r w d (v + 1)
theorem uniqF_len (w : Int) (n : Nat) : ∀ (l : List S65) (i : Nat), (uniqF w n l i).length ≤ l.length
  | [], i => Nat.le_refl _
  | r :: l, i => by
    have := uniqF_len w n l (i + 1)
    rw [uniqF, List.length_append, List.length_cons]
    split <;> simp only [List.length_cons, List.length_nil] <;> omega
def uniqS (ws : List ByteArray) (l : List S65) (s : ByteArray) : List Int × Int := if appS ws l = 0 then (if idxF s ws 0 < 0 then ([], 4) else (uniqF (idxF s ws 0) ws.length l 0, 0)) else ([], appS ws l)
theorem uniq1_loop (ws : List ByteArray) (hwl : ws.length ≤ 1000000) (l : List S65) (w : Int) (hw : 0 ≤ w) (acc : List Int) (hacc : acc.length ≤ 1000000) (i : Nat) (hi : i < l.length) (hs : SmallR l) (r0 : List Int × Int)
    (hy : Ev (fun k => apparatus_Unique.l0 k w (acc ++ [(i : Int)]) l (l.length : Int) ((i : Int) + 1) ws l) r0) (r1 : List Int × Int) (hn : Ev (fun k => apparatus_Unique.l0 k w acc l (l.length : Int) ((i : Int) + 1) ws l) r1) (d : Nat) :
    ∀ (v : Nat) (b : Bool), v + d = ws.length → Ev (fun k => apparatus_Unique.l1 k w acc (i : Int) b l (l.length : Int) (i : Int) (ws.length : Int) (v : Int) ws l (l.getD i z65).f0 (l.getD i z65).f1) (if aloneF (l.getD i z65) w d v b = true then r0 else r1) := by
  have hl := hs.1
  obtain ⟨h1, h2, h3⟩ := hs.at_ hi
  induction d with
  | zero =>
    intro v b hv
    refine Ev.step (fun k => apparatus_Unique.l1.eq_2 _ _ _ _ _ _ _ _ _ _ _ _ _ _) (Ev.neg (by omega) ?_)
    rw [w64 (by omega) (by omega)]
    cases b with
    | true => rw [aloneF, if_pos rfl]; exact Ev.pos rfl (Ev.pos (by omega) hy)
    | false => rw [aloneF, if_neg Bool.false_ne_true]; exact Ev.neg (by decide) hn
  | succ d ih =>
    intro v b hv
    refine Ev.step (fun k => apparatus_Unique.l1.eq_2 _ _ _ _ _ _ _ _ _ _ _ _ _ _) (Ev.pos (by omega) ?_)
    rw [w64 (by omega) (by omega)]
    cases b with
    | true =>
      refine Ev.pos rfl (Ev.cond (fun h => ?_) (fun h => ?_))
      · rw [aloneF, Bool.true_and, decide_eq_true h, Bool.true_or]
        exact ih (v + 1) true (by omega)
      · refine Ev.bind (has_ev _ (v : Int) (by omega) h3) (Ev.bind (has_ev _ w hw h3) ?_)
        rw [aloneF, Bool.true_and, decide_eq_false h, Bool.false_or]
        exact ih (v + 1) _ (by omega)
    | false =>
      rw [aloneF, Bool.false_and]
      exact Ev.neg (by decide) (ih (v + 1) false (by omega))
theorem uniq_loop (ws : List ByteArray) (hwl : ws.length ≤ 1000000) (l : List S65) (w : Int) (hw : 0 ≤ w) (hs : SmallR l) (d : Nat) : ∀ (i : Nat) (acc : List Int), i + d = l.length → acc.length ≤ i → Ev (fun k => apparatus_Unique.l0 k w acc l (l.length : Int) (i : Int) ws l) (acc ++ uniqF w ws.length (l.drop i) i, 0) := by
  have hl := hs.1
  induction d with
  | zero =>
    intro i acc hi ha
    rw [List.drop_of_length_le (by omega), uniqF, List.append_nil]
    exact Ev.step (fun k => apparatus_Unique.l0.eq_2 _ _ _ _ _ _ _ _) (Ev.neg (by omega) (Ev.val rfl))
  | succ d ih =>
    intro i acc hi ha
    refine Ev.step (fun k => apparatus_Unique.l0.eq_2 _ _ _ _ _ _ _ _) (Ev.pos (by omega) (Ev.pos (by omega) (Ev.pos (by omega) ?_)))
    rw [rdR, drop_getD l z65 (by omega), uniqF]
    have hy := ih (i + 1) (acc ++ [(i : Int)]) (by omega) (by rw [List.length_append]; simp only [List.length_cons, List.length_nil]; omega)
    have hn := ih (i + 1) acc (by omega) (by omega)
    refine Ev.eq ?_ (uniq1_loop ws hwl l w hw acc (by omega) i (by omega) hs _ hy _ hn ws.length 0 true (by omega))
    split
    · rw [List.append_assoc]
    · rw [List.nil_append]
theorem uniq_ev (ws : List ByteArray) (l : List S65) (s : ByteArray) (hw : Small ws) (hwl : ws.length ≤ 1000000) (hs : SmallR l) : Ev (fun k => apparatus_Unique.f k ws l s) (uniqS ws l s) := by
  unfold apparatus_Unique.f uniqS
  refine Ev.bind (wit_ev ws l s hw hwl hs) ?_
  unfold witS
  by_cases h : appS ws l = 0
  · rw [if_pos h, if_pos h]
    by_cases h1 : idxF s ws 0 < 0
    · rw [if_pos h1, if_pos h1]
      exact Ev.neg (by decide) (Ev.val rfl)
    · rw [if_neg h1, if_neg h1]
      exact Ev.pos rfl (uniq_loop ws hwl l _ (by omega) hs l.length 0 [] (by omega) (Nat.le_refl _))
  · rw [if_neg h, if_neg h]
    exact Ev.neg h (Ev.val rfl)
theorem runiq1_loop (ws : List ByteArray) (hwl : ws.length ≤ 1000000) (l : List S65) (w : Int) (hw : 0 ≤ w) (acc : List Int) (hacc : acc.length ≤ 1000000) (i : Nat) (hi : i < l.length) (hs : SmallR l) (r0 : List Int × Int)
    (hy : Ev (fun k => ancepsref57_Unique.l0 k w (acc ++ [(i : Int)]) ((i : Int) + 1) ws l) r0) (r1 : List Int × Int) (hn : Ev (fun k => ancepsref57_Unique.l0 k w acc ((i : Int) + 1) ws l) r1) (d : Nat) :
    ∀ (v : Nat) (b : Bool), v + d = ws.length → Ev (fun k => ancepsref57_Unique.l1 k w acc (i : Int) b (v : Int) ws l) (if aloneF (l.getD i z65) w d v b = true then r0 else r1) := by
  have hl := hs.1
  obtain ⟨h1, h2, h3⟩ := hs.at_ hi
  induction d with
  | zero =>
    intro v b hv
    refine Ev.step (fun k => ancepsref57_Unique.l1.eq_2 _ _ _ _ _ _ _ _) (Ev.neg (by omega) ?_)
    rw [w64 (by omega) (by omega)]
    cases b with
    | true => rw [aloneF, if_pos rfl]; exact Ev.pos rfl (Ev.pos (by omega) hy)
    | false => rw [aloneF, if_neg Bool.false_ne_true]; exact Ev.neg (by decide) hn
  | succ d ih =>
    intro v b hv
    refine Ev.step (fun k => ancepsref57_Unique.l1.eq_2 _ _ _ _ _ _ _ _) (Ev.pos (by omega) ?_)
    rw [w64 (by omega) (by omega), rdR]
    cases b with
    | true =>
      refine Ev.pos rfl (Ev.cond (fun h => ?_) (fun h => ?_))
      · rw [aloneF, Bool.true_and, decide_eq_true h, Bool.true_or]
        exact ih (v + 1) true (by omega)
      · refine Ev.pos (by omega) (Ev.pos (by omega) (Ev.bind (rhas_ev _ (v : Int) (by omega) h3) (Ev.bind (rhas_ev _ w hw h3) ?_)))
        rw [aloneF, Bool.true_and, decide_eq_false h, Bool.false_or]
        exact ih (v + 1) _ (by omega)
    | false =>
      rw [aloneF, Bool.false_and]
      exact Ev.neg (by decide) (ih (v + 1) false (by omega))
theorem runiq_loop (ws : List ByteArray) (hwl : ws.length ≤ 1000000) (l : List S65) (w : Int) (hw : 0 ≤ w) (hs : SmallR l) (d : Nat) : ∀ (i : Nat) (acc : List Int), i + d = l.length → acc.length ≤ i → Ev (fun k => ancepsref57_Unique.l0 k w acc (i : Int) ws l) (acc ++ uniqF w ws.length (l.drop i) i, 0) := by
  have hl := hs.1
  induction d with
  | zero =>
    intro i acc hi ha
    rw [List.drop_of_length_le (by omega), uniqF, List.append_nil]
    exact Ev.step (fun k => ancepsref57_Unique.l0.eq_2 _ _ _ _ _ _) (Ev.neg (by omega) (Ev.val rfl))
  | succ d ih =>
    intro i acc hi ha
    refine Ev.step (fun k => ancepsref57_Unique.l0.eq_2 _ _ _ _ _ _) (Ev.pos (by omega) ?_)
    rw [drop_getD l z65 (by omega), uniqF]
    have hy := ih (i + 1) (acc ++ [(i : Int)]) (by omega) (by rw [List.length_append]; simp only [List.length_cons, List.length_nil]; omega)
    have hn := ih (i + 1) acc (by omega) (by omega)
    refine Ev.eq ?_ (runiq1_loop ws hwl l w hw acc (by omega) i (by omega) hs _ hy _ hn ws.length 0 true (by omega))
    split
    · rw [List.append_assoc]
    · rw [List.nil_append]
theorem runiq_ev (ws : List ByteArray) (l : List S65) (s : ByteArray) (hw : Small ws) (hwl : ws.length ≤ 1000000) (hs : SmallR l) : Ev (fun k => ancepsref57_Unique.f k ws l s) (uniqS ws l s) := by
  unfold ancepsref57_Unique.f uniqS
  refine Ev.bind (rappV_ev ws l hw hwl hs) (Ev.cond (fun h => ?_) (fun h => Ev.val (by rw [if_neg h])))
  rw [if_pos h]
  refine Ev.bind (find_ev ws s (by omega)) (Ev.cond (fun h1 => Ev.val (by rw [if_pos h1])) (fun h1 => ?_))
  rw [if_neg h1]
  exact runiq_loop ws hwl l _ (by omega) hs l.length 0 [] (by omega) (Nat.le_refl _)
/-! how often two agree -/
def agrS (ws : List ByteArray) (l : List S65) (x y : ByteArray) : Int × Int := if appS ws l = 0 then (if idxF x ws 0 < 0 ∨ idxF y ws 0 < 0 then (0, 4) else ((agreeF (idxF x ws 0) (idxF y ws 0) l : Int), 0)) else (0, appS ws l)
theorem agr_ev (ws : List ByteArray) (l : List S65) (x y : ByteArray) (hw : Small ws) (hwl : ws.length ≤ 1000000) (hs : SmallR l) : Ev (fun k => apparatus_Agree.f k ws l x y) (agrS ws l x y) := by
  unfold apparatus_Agree.f agrS
  refine Ev.bind (wit_ev ws l x hw hwl hs) ?_
  have hy := wit_ev ws l y hw hwl hs
  unfold witS at hy ⊢
  by_cases h : appS ws l = 0
  · rw [if_pos h] at hy
    rw [if_pos h, if_pos h]
    by_cases h1 : idxF x ws 0 < 0
    · rw [if_pos h1, if_pos (.inl h1)]
      exact Ev.neg (by decide) (Ev.val rfl)
    · rw [if_neg h1]
      refine Ev.pos rfl (Ev.bind hy ?_)
      by_cases h2 : idxF y ws 0 < 0
      · rw [if_pos h2, if_pos (.inr h2)]
        exact Ev.neg (by decide) (Ev.val rfl)
      · rw [if_neg h2, if_neg (fun e => e.elim h1 h2)]
        exact Ev.pos rfl (Ev.bind (agree_ev ws _ _ (by omega) (by omega) l hs) (Ev.val rfl))
  · rw [if_neg h, if_neg h]
    exact Ev.neg h (Ev.val rfl)
theorem ragr_ev (ws : List ByteArray) (l : List S65) (x y : ByteArray) (hw : Small ws) (hwl : ws.length ≤ 1000000) (hs : SmallR l) : Ev (fun k => ancepsref57_Agree.f k ws l x y) (agrS ws l x y) := by
  unfold ancepsref57_Agree.f agrS
  refine Ev.bind (rappV_ev ws l hw hwl hs) (Ev.cond (fun h => ?_) (fun h => Ev.val (by rw [if_neg h])))
  rw [if_pos h]
  refine Ev.bind (find_ev ws x (by omega)) (Ev.bind (find_ev ws y (by omega)) (Ev.cond (fun h1 => Ev.val (by rw [if_pos (.inl h1)])) (fun h1 => Ev.cond (fun h2 => Ev.val (by rw [if_pos (.inr h2)])) (fun h2 => ?_))))
  rw [if_neg (fun e => e.elim h1 h2)]
  exact Ev.bind (ragree_ev ws _ _ (by omega) (by omega) l hs) (Ev.val rfl)
theorem agrS_comm (ws : List ByteArray) (l : List S65) (x y : ByteArray) : agrS ws l x y = agrS ws l y x := by
  unfold agrS
  rw [agreeF_comm]
  simp only [or_comm (a := idxF x ws 0 < 0)]
/-! an apparatus that is small -/
theorem sum_some (l : List ByteArray) (hs : Small l) (hl : l.length ≤ 140737488355328) (m : Int) (hm : 0 ≤ m ∧ m ≤ 1000000) (d : Nat) : ∀ (i : Nat) (n : Int), i + d = l.length → 0 ≤ n → n ≤ 140737488355328 + m + 1 → ∃ r, 0 ≤ r ∧ n ≤ r ∧ r ≤ 140737488355328 + m + 1 ∧ Ev (fun k => ancepsref01_Sum.l0 k l m n (i : Int)) r := by
  induction d with
  | zero =>
    intro i n hi h0 h1
    exact ⟨n, h0, Int.le_refl _, h1, Ev.step (fun k => rfl) (Ev.neg (by omega) (Ev.val rfl))⟩
  | succ d ih =>
    intro i n hi h0 h1
    have hsz := hs.at_ (show i < l.length by omega)
    by_cases h : n ≤ m
    · obtain ⟨r, r0, rn, r1, hr⟩ := ih (i + 1) (n + 1 + (l.getD i ByteArray.empty).size) (by omega) (by omega) (by omega)
      refine ⟨r, r0, by omega, r1, Ev.step (fun k => rfl) (Ev.pos (by omega) (Ev.pos h (Ev.pos (by omega) ?_)))⟩
      rw [rdOf_getD, w64 (i := n + 1) (by omega) (by omega), w64 (by omega) (by omega), w64 (i := (i : Int) + 1) (by omega) (by omega)]
      exact hr
    · exact ⟨n, h0, Int.le_refl _, h1, Ev.step (fun k => rfl) (Ev.pos (by omega) (Ev.neg h (Ev.val rfl)))⟩
def BigR (l : List S65) : Prop := l.length ≤ 140737488355328 ∧ ∀ x ∈ l, x.f0.size ≤ 140737488355328 ∧ SmallV x.f1 ∧ x.f1.length ≤ 140737488355328
theorem BigR.at_ {l : List S65} (h : BigR l) {i : Nat} (hi : i < l.length) : (l.getD i z65).f0.size ≤ 140737488355328 ∧ SmallV (l.getD i z65).f1 ∧ (l.getD i z65).f1.length ≤ 140737488355328 := h.2 _ (getD_in l _ hi)
theorem few_end (ws : List ByteArray) (l : List S65) (n : Int) (i : Int) (P : Prop) (hP : ws.length ≤ 12 → l.length ≤ 210 → n ≤ 4000 → P) : ∃ b, Ev (fun k => ancepsref57_Few.j1 k n i false ws l) b ∧ (b = true → P) := by
  by_cases h1 : (ws.length : Int) ≤ 12
  · by_cases h2 : (l.length : Int) ≤ 210
    · exact ⟨decide (n ≤ 4000), Ev.step (fun k => ancepsref57_Few.j1.eq_2 _ _ _ _ _ _) (Ev.neg Bool.false_ne_true (Ev.pos h1 (Ev.pos h2 (Ev.val rfl)))), fun h => hP (by omega) (by omega) (of_decide_eq_true h)⟩
    · exact ⟨false, Ev.step (fun k => ancepsref57_Few.j1.eq_2 _ _ _ _ _ _) (Ev.neg Bool.false_ne_true (Ev.pos h1 (Ev.neg h2 (Ev.val rfl)))), fun h => by cases h⟩
  · exact ⟨false, Ev.step (fun k => ancepsref57_Few.j1.eq_2 _ _ _ _ _ _) (Ev.neg Bool.false_ne_true (Ev.neg h1 (Ev.val rfl))), fun h => by cases h⟩
theorem few_in (ws : List ByteArray) (l : List S65) (hs : BigR l) (i : Nat) (hi : i < l.length) (P : Int → Prop) (hP : ∀ n m, n ≤ m → P m → P n) (hnext : ∀ n : Int, 0 ≤ n → n ≤ 140737488359329 → ∃ b, Ev (fun k => ancepsref57_Few.l0 k n ((i : Int) + 1) ws l) b ∧ (b = true → n ≤ 4000 ∧ P n)) (d : Nat) :
    ∀ (j : Nat) (n : Int), j + d = (l.getD i z65).f1.length → 0 ≤ n → n ≤ 140737488359329 → ∃ b, Ev (fun k => ancepsref57_Few.l1 k n (i : Int) (j : Int) ws l) b ∧ (b = true → n ≤ 4000 ∧ P n ∧ (d : Int) ≤ 4000 - n) := by
  obtain ⟨h1, h2, h3⟩ := hs.at_ hi
  have hl := hs.1
  induction d with
  | zero =>
    intro j n hj h0 hn
    obtain ⟨b, hb, hb2⟩ := hnext n h0 hn
    refine ⟨b, Ev.step (fun k => ancepsref57_Few.l1.eq_2 _ _ _ _ _ _) (Ev.pos (by omega) (Ev.pos (by omega) ?_)), fun h => ⟨(hb2 h).1, (hb2 h).2, by have := (hb2 h).1; omega⟩⟩
    rw [rdR, w64 (i := (i : Int) + 1) (by omega) (by omega)]
    exact Ev.neg (by omega) hb
  | succ d ih =>
    intro j n hj h0 hn
    by_cases h : n ≤ 4000
    · have hv := h2.at_ (show j < (l.getD i z65).f1.length by omega)
      obtain ⟨b, hb, hb2⟩ := ih (j + 1) (n + 1 + ((l.getD i z65).f1.getD j z67).f0.size) (by omega) (by omega) (by omega)
      refine ⟨b, Ev.step (fun k => ancepsref57_Few.l1.eq_2 _ _ _ _ _ _) (Ev.pos (by omega) (Ev.pos (by omega) ?_)), fun h => ⟨by omega, hP _ _ (by omega) (hb2 h).2.1, by have := (hb2 h).2.2; omega⟩⟩
      rw [rdR, rdV, w64 (i := n + 1) (by omega) (by omega), w64 (i := n + 1 + _) (by omega) (by omega), w64 (i := (j : Int) + 1) (by omega) (by omega)]
      exact Ev.pos (by omega) (Ev.pos h (Ev.pos (by omega) hb))
    · obtain ⟨b, hb, hb2⟩ := hnext n h0 hn
      refine ⟨b, Ev.step (fun k => ancepsref57_Few.l1.eq_2 _ _ _ _ _ _) (Ev.pos (by omega) (Ev.pos (by omega) ?_)), fun e => absurd (hb2 e).1 h⟩
      rw [rdR, w64 (i := (i : Int) + 1) (by omega) (by omega)]
      exact Ev.pos (by omega) (Ev.neg h hb)
theorem few_loop (ws : List ByteArray) (l : List S65) (hs : BigR l) (d : Nat) : ∀ (i : Nat) (n : Int), i + d = l.length → 0 ≤ n → n ≤ 140737488359329 → ∃ b, Ev (fun k => ancepsref57_Few.l0 k n (i : Int) ws l) b ∧ (b = true → n ≤ 4000 ∧ ws.length ≤ 12 ∧ l.length ≤ 210 ∧ ∀ j, i ≤ j → j < l.length → (l.getD j z65).f1.length ≤ 4000) := by
  have hl := hs.1
  induction d with
  | zero =>
    intro i n hi h0 hn
    obtain ⟨b, hb, hb2⟩ := few_end ws l n (i : Int) _ (fun h1 h2 h3 => (⟨h3, h1, h2, fun j hj hjl => by omega⟩ : n ≤ 4000 ∧ ws.length ≤ 12 ∧ l.length ≤ 210 ∧ ∀ j, i ≤ j → j < l.length → (l.getD j z65).f1.length ≤ 4000))
    exact ⟨b, Ev.step (fun k => ancepsref57_Few.l0.eq_2 _ _ _ _ _) (Ev.neg (by omega) hb), hb2⟩
  | succ d ih =>
    intro i n hi h0 hn
    obtain ⟨h1, h2, h3⟩ := hs.at_ (show i < l.length by omega)
    by_cases h : n ≤ 4000
    · obtain ⟨b, hb, hb2⟩ := few_in ws l hs i (by omega) (fun _ => ws.length ≤ 12 ∧ l.length ≤ 210 ∧ ∀ j, i + 1 ≤ j → j < l.length → (l.getD j z65).f1.length ≤ 4000) (fun _ _ _ h => h) (fun n' h0' hn' => ih (i + 1) n' (by omega) h0' hn') _ 0 (n + 1 + (l.getD i z65).f0.size) (Nat.zero_add _) (by omega) (by omega)
      refine ⟨b, Ev.step (fun k => ancepsref57_Few.l0.eq_2 _ _ _ _ _) (Ev.pos (by omega) ?_), fun e => ?_⟩
      · rw [decide_eq_true h]
        refine Ev.step (fun k => ancepsref57_Few.j1.eq_2 _ _ _ _ _ _) (Ev.pos rfl (Ev.pos (by omega) (Ev.pos (by omega) ?_)))
        rw [rdR, w64 (i := n + 1) (by omega) (by omega), w64 (i := n + 1 + _) (by omega) (by omega)]
        exact hb
      · obtain ⟨e1, ⟨e2, e3, e4⟩, e5⟩ := hb2 e
        refine ⟨by omega, e2, e3, fun j hj hjl => ?_⟩
        by_cases ej : j = i
        · subst ej; omega
        · exact e4 j (by omega) hjl
    · obtain ⟨b, hb, hb2⟩ := few_end ws l n (i : Int) False (fun _ _ h3 => h h3)
      exact ⟨b, Ev.step (fun k => ancepsref57_Few.l0.eq_2 _ _ _ _ _) (Ev.pos (by omega) (by rw [decide_eq_false h]; exact hb)), fun e => (hb2 e).elim⟩
theorem few_ev (ws : List ByteArray) (l : List S65) (hw : Small ws) (hwl : ws.length ≤ 140737488355328) (hs : BigR l) : ∃ b, Ev (fun k => ancepsref57_Few.f k ws l) b ∧ (b = true → ws.length ≤ 12 ∧ l.length ≤ 210 ∧ SmallR l) := by
  unfold ancepsref57_Few.f
  obtain ⟨r, r0, _, r1, hr⟩ := sum_some ws hw hwl 4000 (by decide) ws.length 0 0 (by omega) (by omega) (by omega)
  obtain ⟨b, hb, hb2⟩ := few_loop ws l hs l.length 0 r (by omega) r0 (by omega)
  refine ⟨b, Ev.bind hr hb, fun e => ?_⟩
  obtain ⟨_, e1, e2, e3⟩ := hb2 e
  refine ⟨e1, e2, by omega, fun x hx => ?_⟩
  obtain ⟨j, hj, rfl⟩ := List.mem_iff_getElem.1 hx
  obtain ⟨h1, h2, _⟩ := hs.at_ hj
  have h3 := e3 j (Nat.zero_le _) hj
  rw [getD_lt l _ hj] at h1 h2 h3
  exact ⟨h1, h2, by omega⟩
end Go.Proofs.Ytmjigfoldeekmaa.Lem
