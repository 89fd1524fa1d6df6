/- Plain lemmas of chapter 57: the reference: rows, an apparatus, what a witness has, how often two agree. -/
import Derived.Test.YtmjigfoldeekmaaV2
import Derived.Test.YtmjigfoldeekmaaX16
import Derived.Test.YtmjigfoldeekmaaX17
namespace Go.Proofs.Ytmjigfoldeekmaa.Lem
open Go.RowKit Go.Proofs.Ytmjigfoldeekmaa.X Go.Proofs.YtmjigfoldeekmaaW.PrintWords Go.Proofs.YtmjigfoldeekmaaW.PrintLast
theorem rrow1_loop (t : ByteArray) (l : List S67) (n i : Nat) (taken : Int) (s : ByteArray) (b r : Int) (hi : i < l.length) (hl : l.length ≤ 1000000) (hr : Ev (fun k => if b < 0 then ancepsref57_row.j2 k (n : Int) taken (i : Int) true t l s b else if 0 ≤ (n : Int) then ancepsref57_row.j2 k (n : Int) taken (i : Int) (decide (b ≥ shl .i64 1 (n : Int))) t l s b else none) r) (d : Nat) :
    ∀ j : Nat, j + d = i → Ev (fun k => ancepsref57_row.l1 k (n : Int) taken (i : Int) (j : Int) t l s b) (if 0 ≤ idxF s (((l.take i).drop j).map (·.f0)) j then 5 else r) := by
  induction d with
  | zero =>
    intro j hj
    rw [List.drop_of_length_le (by rw [List.length_take]; omega), if_neg (by simp [idxF])]
    exact Ev.step (fun k => rfl) (Ev.neg (by omega) hr)
  | succ d ih =>
    intro j hj
    have ht : (l.take i).length = i := by rw [List.length_take]; omega
    rw [drop_getD (l.take i) z67 (by omega), List.map_cons, idxF]
    have e : (l.take i).getD j z67 = l.getD j z67 := by
      rw [getD_lt _ _ (by omega : j < (l.take i).length), getD_lt _ _ (by omega : j < l.length), List.getElem_take]
    rw [e]
    refine Ev.step (fun k => rfl) (Ev.pos (by omega) (Ev.pos (by omega) (Ev.pos (by omega) ?_)))
    rw [rdV, w64 (by omega) (by omega)]
    refine Ev.cond (fun h => Ev.val ?_) (fun h => ?_)
    · rw [if_pos (bytes_ext.1 h), if_pos (by omega)]
    · rw [if_neg (show ¬ (l.getD j z67).f0 = s from fun e' => h (by rw [e']))]
      exact ih (j + 1) (by omega)
theorem rrow_loop (t : ByteArray) (l : List S67) (n : Nat) (hn : n ≤ 62) (hs : SmallV l) (hl : l.length ≤ 1000000) (d : Nat) : ∀ (i : Nat) (taken : Int), i + d = l.length → Ev (fun k => ancepsref57_row.l0 k (n : Int) taken (i : Int) t l) (rowF t l n d i taken) := by
  induction d with
  | zero =>
    intro i taken hi
    exact Ev.step (fun k => rfl) (Ev.neg (by omega) (Ev.val rfl))
  | succ d ih =>
    intro i taken hi
    refine Ev.step (fun k => rfl) (Ev.pos (by omega) (Ev.pos (by omega) ?_))
    rw [rdV, rowF]
    refine Ev.bind (rvalid_ev _ (hs.at_ (by omega))) (Ev.cond (fun h => ?_) (fun h => Ev.val (by rw [if_neg h])))
    rw [if_pos h]
    refine Ev.cond (fun h1 => Ev.val (by rw [if_pos (bytes_ext.1 h1)])) (fun h1 => ?_)
    rw [if_neg (fun e => h1 (by rw [e]))]
    refine rrow1_loop t l n i taken _ _ _ (by omega) hl ?_ i 0 (by omega)
    rw [shl_one n hn]
    refine Ev.cond (fun h3 => ?_) (fun h3 => ?_)
    · rw [if_pos (.inl h3)]
      exact Ev.step (fun k => ancepsref57_row.j2.eq_2 _ _ _ _ _ _ _ _ _) (Ev.pos rfl (Ev.val rfl))
    · refine Ev.pos (by omega) ?_
      by_cases h4 : (l.getD i z67).f1 ≥ 2 ^ n
      · rw [if_pos (.inr h4), decide_eq_true h4]
        exact Ev.step (fun k => ancepsref57_row.j2.eq_2 _ _ _ _ _ _ _ _ _) (Ev.pos rfl (Ev.val rfl))
      · rw [if_neg (fun e => e.elim h3 h4), decide_eq_false h4]
        refine Ev.step (fun k => ancepsref57_row.j2.eq_2 _ _ _ _ _ _ _ _ _) (Ev.neg Bool.false_ne_true ?_)
        rw [w64 (by omega) (by omega)]
        exact Ev.cond (fun h5 => by rw [if_pos h5]; exact ih (i + 1) _ (by omega)) (fun h5 => Ev.val (by rw [if_neg h5]))
theorem rrow_ev (t : ByteArray) (l : List S67) (n : Nat) (hn : n ≤ 62) (ht : t.size ≤ 140737488355328) (hs : SmallV l) (hl : l.length ≤ 1000000) : Ev (fun k => ancepsref57_row.f k t l (n : Int)) (rowS t l n) := by
  unfold ancepsref57_row.f rowS
  refine Ev.bind (rvalid_ev t ht) (Ev.cond (fun h => ?_) (fun h => Ev.val (by rw [if_neg h])))
  rw [if_pos h]
  refine Ev.cond (fun h1 => Ev.val (by rw [if_pos (by omega)])) (fun h1 => ?_)
  rw [if_neg (by omega)]
  exact rrow_loop t l n hn hs hl l.length 0 0 (by omega)
theorem rappV_loop (ws : List ByteArray) (hw : ws.length ≤ 62) (l : List S65) (hs : SmallR l) (d : Nat) : ∀ i : Nat, i + d = l.length → Ev (fun k => ancepsref57_Valid.l0 k (i : Int) ws l) (rowsF l ws.length d i) := by
  have hl := hs.1
  induction d with
  | zero =>
    intro i hi
    exact Ev.step (fun k => rfl) (Ev.neg (by omega) (Ev.val rfl))
  | succ d ih =>
    intro i hi
    obtain ⟨h1, h2, h3⟩ := hs.at_ (show i < l.length by omega)
    refine Ev.step (fun k => rfl) (Ev.pos (by omega) (Ev.pos (by omega) ?_))
    rw [rdR, rowsF, w64 (by omega) (by omega)]
    refine Ev.bind (rrow_ev _ _ ws.length hw h1 h2 h3) (Ev.cond (fun h => ?_) (fun h => Ev.val (by rw [if_neg h])))
    rw [if_pos h]
    exact ih (i + 1) (by omega)
theorem rappV_ev (ws : List ByteArray) (l : List S65) (hw : Small ws) (hwl : ws.length ≤ 1000000) (hs : SmallR l) : Ev (fun k => ancepsref57_Valid.f k ws l) (appS ws l) := by
  unfold ancepsref57_Valid.f appS
  refine Ev.bind (rnames_ev ws hw hwl) (Ev.cond (fun h => ?_) (fun h => Ev.val (by rw [if_neg h])))
  rw [if_pos h]
  have := namesS_len h
  refine Ev.cond (fun h1 => Ev.val (by rw [if_pos (by omega)])) (fun h1 => ?_)
  rw [if_neg (by omega)]
  exact rappV_loop ws (by omega) l hs l.length 0 (by omega)
theorem rhas_loop (t : ByteArray) (w : Int) (hw : 0 ≤ w) (l : List S67) (hl : l.length ≤ 1000000) (d : Nat) : ∀ i : Nat, i + d = l.length → Ev (fun k => ancepsref57_has.l0 k w (i : Int) t l) (hasF t w (l.drop i)) := by
  induction d with
  | zero =>
    intro i hi
    rw [List.drop_of_length_le (by omega)]
    exact Ev.step (fun k => rfl) (Ev.neg (by omega) (Ev.val rfl))
  | succ d ih =>
    intro i hi
    rw [drop_getD l z67 (by omega), hasF]
    refine Ev.step (fun k => rfl) (Ev.pos (by omega) (Ev.pos (by omega) (Ev.pos hw ?_)))
    rw [rdV, w64 (by omega) (by omega)]
    refine Ev.cond (fun h => Ev.val (by rw [if_pos h])) (fun h => ?_)
    rw [if_neg h]
    exact ih (i + 1) (by omega)
theorem rhas_ev (r : S65) (w : Int) (hw : 0 ≤ w) (hl : r.f1.length ≤ 1000000) : Ev (fun k => ancepsref57_has.f k r.f0 r.f1 w) (hasS r w) := rhas_loop r.f0 w hw r.f1 hl r.f1.length 0 (by omega)
theorem ragree_loop (ws : List ByteArray) (x y : Int) (hx : 0 ≤ x) (hy : 0 ≤ y) (l : List S65) (hs : SmallR l) (d : Nat) : ∀ (i : Nat) (n : Nat), i + d = l.length → n ≤ i → Ev (fun k => ancepsref57_agree.l0 k x y (n : Int) (i : Int) ws l) ((n + agreeF x y (l.drop i) : Nat) : Int) := by
  have hl := hs.1
  induction d with
  | zero =>
    intro i n hi hn
    rw [List.drop_of_length_le (by omega)]
    exact Ev.step (fun k => rfl) (Ev.neg (by omega) (Ev.val rfl))
  | succ d ih =>
    intro i n hi hn
    obtain ⟨h1, h2, h3⟩ := hs.at_ (show i < l.length by omega)
    rw [drop_getD l z65 (by omega), agreeF]
    refine Ev.step (fun k => rfl) (Ev.pos (by omega) (Ev.pos (by omega) ?_))
    rw [rdR, w64 (by omega) (by omega), w64 (by omega) (by omega)]
    refine Ev.bind (rhas_ev _ x hx h3) (Ev.bind (rhas_ev _ y hy h3) (Ev.cond (fun h => ?_) (fun h => ?_)))
    · rw [if_pos (bytes_ext.1 h)]
      exact Ev.eq (by congr 1; omega) (ih (i + 1) (n + 1) (by omega) (by omega))
    · rw [if_neg (fun e => h (by rw [e]))]
      exact Ev.eq (by congr 1; omega) (ih (i + 1) n (by omega) (by omega))
theorem ragree_ev (ws : List ByteArray) (x y : Int) (hx : 0 ≤ x) (hy : 0 ≤ y) (l : List S65) (hs : SmallR l) : Ev (fun k => ancepsref57_agree.f k ws l x y) (agreeF x y l : Int) := Ev.eq (by rw [Nat.zero_add, List.drop_zero]) (ragree_loop ws x y hx hy l hs l.length 0 0 (by omega) (Nat.le_refl _))
end Go.Proofs.Ytmjigfoldeekmaa.Lem
