/- Plain lemmas over the printed functions of chapter 1: words put together, and found again. -/
import Derived.Test.YteokimhjojppcaaLemC
import Derived.Test.YteokimhjojppcaaX15
import Derived.Test.YteokimhjojppcaaX14
namespace Go.Proofs.Yteokimhjojppcaa.Lem
open Go.RowKit Go.Proofs.Yteokimhjojppcaa.X Go.Proofs.YteokimhjojppcaaW.PrintWords Go.Proofs.YteokimhjojppcaaW.PrintLast
theorem Ev.condJ {α : Type} {c : Prop} [Decidable c] {f g : Nat → Option α} {r : α} (h : c → Ev f r) (h' : ¬ c → Ev g r) : Ev (fun n => if c then f n else g n) r := by
  by_cases hc : c
  · exact Ev.pos hc (h hc)
  · exact Ev.neg hc (h' hc)
theorem Ev.now' {α : Type} {x : Option α} {r : α} (h : x = some r) : Ev (fun _ => x) r := h ▸ Ev.now _
theorem rdOf_at (l : List ByteArray) (i : Nat) (h : i < l.length) : rdOf ByteArray.empty l (i : Int) = l[i] := by
  unfold rdOf; rw [Int.toNat_natCast, List.getD_eq_getElem?_getD, List.getElem?_eq_getElem h]; rfl
theorem nil_at {s : ByteArray} : s.toList = ([] : List UInt8) ↔ s.size = 0 := by
  rw [Lib.toList_data, ← data_length, List.length_eq_zero_iff]
theorem drop_at (s : ByteArray) (i : Nat) (h : i < s.size) : (bytesOf s).drop i = bt s i :: (bytesOf s).drop (i + 1) := by
  rw [List.drop_eq_getElem_cons (by rw [bytesOf_length]; exact h), bytesOf_get s i h]
theorem drop_end (s : ByteArray) (i : Nat) (h : s.size ≤ i) : (bytesOf s).drop i = [] := List.drop_eq_nil_of_le (by rw [bytesOf_length]; exact h)
theorem inj_map : ∀ {a b : List UInt8}, a.map (fun x => (x.toNat : Int)) = b.map (fun x => (x.toNat : Int)) → a = b
  | [], [], _ => rfl
  | [], _ :: _, h => by simp at h
  | _ :: _, [], h => by simp at h
  | x :: a, y :: b, h => by
    rw [List.map_cons, List.map_cons] at h
    obtain ⟨h1, h2⟩ := List.cons.inj h
    obtain rfl := inj_map h2
    obtain rfl : x = y := UInt8.toNat_inj.1 (by omega)
    rfl
theorem bytes_inj {a b : ByteArray} (h : bytesOf a = bytesOf b) : a = b := by
  have : a.data.toList = b.data.toList := inj_map h
  cases a; cases b
  congr 1
  exact Array.toList_inj.1 this
theorem str_bytesJ (s : ByteArray) : strOfNums (bytesOf s) = s := bytes_inj (bytesOf_str _ (fun c hc => bytesOf_range s c hc))
theorem str_appJ (l m : List Int) : strOfNums l ++ strOfNums m = strOfNums (l ++ m) := by
  apply ByteArray.ext
  rw [ByteArray.data_append]
  apply Array.toList_inj.1
  rw [Array.toList_append, strOfNums_data, strOfNums_data, strOfNums_data, List.map_append]
/-! the check -/
def chk : List ByteArray → Int
  | [] => 0
  | w :: r => if w.size = 0 then 7 else if (bytesOf w).all letterB then chk r else 2
theorem notLetter_f {c : Int} (h : 0 ≤ c ∧ c ≤ 255) : text_Join_1.f c = some (!letterB c) := by unfold text_Join_1.f; rw [letter_f h]; rfl
theorem has_loop (s : ByteArray) (hs : s.size ≤ 1000000) (d : Nat) : ∀ i : Nat, i + d = s.size → ∃ t : Int, Ev (fun k => slices_IndexFunc_byte_byte_text_Join_1.l0 k (bytesOf s) ((bytesOf s).length : Int) (i : Int)) t ∧ (t ≥ 0 ↔ ((bytesOf s).drop i).all letterB = false) := by
  induction d with
  | zero =>
    intro i hi
    refine ⟨-1, Ev.step (fun k => rfl) (Ev.neg (by rw [bytesOf_length]; omega) (Ev.val rfl)), ?_⟩
    rw [drop_end s i (by omega)]
    exact ⟨fun h => absurd h (by decide), fun h => absurd h (by decide)⟩
  | succ d ih =>
    intro i hi
    obtain ⟨t, ht, hh⟩ := ih (i + 1) (by omega)
    rw [drop_at s i (by omega), List.all_cons]
    cases hin : letterB (bt s i) with
    | false =>
      refine ⟨(i : Int), Ev.step (fun k => rfl) (Ev.pos (by rw [bytesOf_length]; omega) (Ev.pos (by omega) (Ev.pos (by rw [bytesOf_length]; omega) ?_))), ⟨fun _ => rfl, fun _ => by omega⟩⟩
      rw [rd_bytesOf, notLetter_f (Lem.bt_range s i), hin]
      exact Ev.just (Ev.pos rfl (Ev.val rfl))
    | true =>
      refine ⟨t, Ev.step (fun k => rfl) (Ev.pos (by rw [bytesOf_length]; omega) (Ev.pos (by omega) (Ev.pos (by rw [bytesOf_length]; omega) ?_))), by rw [Bool.true_and]; exact hh⟩
      rw [rd_bytesOf, notLetter_f (Lem.bt_range s i), hin, w64 (by omega) (by omega)]
      exact Ev.just (Ev.neg (by decide) ht)
theorem has_ev (s : ByteArray) (hs : s.size ≤ 1000000) : Ev (fun k => slices_ContainsFunc_byte_byte_text_Join_1.f k (bytesOf s)) (!(bytesOf s).all letterB) := by
  obtain ⟨t, ht, hh⟩ := has_loop s hs s.size 0 (by omega)
  rw [List.drop_zero] at hh
  unfold slices_ContainsFunc_byte_byte_text_Join_1.f slices_IndexFunc_byte_byte_text_Join_1.f
  refine Ev.bind ht (Ev.val ?_)
  rw [Bool.eq_iff_iff, decide_eq_true_iff, Bool.not_eq_true']
  exact hh
/-! words put together -/
def joinW : List ByteArray → List Int
  | [] => []
  | [w] => bytesOf w
  | w :: u :: r => bytesOf w ++ 32 :: joinW (u :: r)
def sumW : List ByteArray → Nat
  | [] => 0
  | w :: r => 1 + w.size + sumW r
theorem joinW_len : ∀ ws : List ByteArray, (joinW ws).length ≤ sumW ws
  | [] => Nat.zero_le _
  | [w] => by rw [joinW, bytesOf_length, sumW]; omega
  | w :: u :: r => by have := joinW_len (u :: r); rw [joinW, List.length_append, List.length_cons, bytesOf_length, sumW]; omega
theorem join_ccJ (x y : List UInt8) (r : List (List UInt8)) (sep : List UInt8) : Lib.join (x :: y :: r) sep = x ++ (sep ++ Lib.join (y :: r) sep) := by
  simp [Lib.join, List.intercalate]
theorem joinW_map : ∀ ws : List ByteArray, (Lib.join (ws.map (·.data.toList)) [32]).map (fun b => (b.toNat : Int)) = joinW ws
  | [] => rfl
  | [w] => by rw [List.map_cons, List.map_nil, Lib.join_one]; rfl
  | w :: u :: r => by
    have := joinW_map (u :: r)
    rw [List.map_cons] at this
    rw [List.map_cons, List.map_cons, join_ccJ, joinW, List.map_append, List.map_append, this]; rfl
theorem joinW_range : ∀ ws : List ByteArray, ∀ c ∈ joinW ws, 0 ≤ c ∧ c ≤ 255
  | [], c, hc => by rw [joinW] at hc; simp at hc
  | [w], c, hc => by rw [joinW] at hc; exact bytesOf_range w c hc
  | w :: u :: r, c, hc => by
    rw [joinW] at hc
    rcases List.mem_append.1 hc with h | h
    · exact bytesOf_range w c h
    · rcases List.mem_cons.1 h with rfl | h
      · decide
      · exact joinW_range (u :: r) c h
def joinS (ws : List ByteArray) : ByteArray × Int := if chk ws = 0 then (if (joinW ws).length > 120 then (⟨#[]⟩, 3) else (strOfNums (joinW ws), 0)) else (⟨#[]⟩, chk ws)
theorem joinF (ws : List ByteArray) (h : ws.length ≤ 100000) (h2 : sumW ws ≤ 100000) : strings_Join.f ws (⟨#[32]⟩ : ByteArray) = some (strOfNums (joinW ws)) := by
  unfold strings_Join.f
  have hj := joinW_map ws
  have hl := joinW_len ws
  have hll : (Lib.join (ws.map (·.data.toList)) [32]).length = (joinW ws).length := by rw [← hj, List.length_map]
  rw [if_pos ⟨by omega, by show (Lib.join (ws.map (·.data.toList)) [32]).length ≤ _; omega⟩]
  congr 1
  apply bytes_inj
  rw [bytesOf_str _ (joinW_range ws)]
  exact hj
theorem sum_at : ∀ {ws : List ByteArray} {w : ByteArray}, w ∈ ws → w.size ≤ sumW ws
  | [], w, h => by simp at h
  | u :: r, w, h => by
    rw [sumW]
    rcases List.mem_cons.1 h with rfl | h
    · omega
    · have := sum_at h; omega
theorem chk_at (ws : List ByteArray) (i : Nat) (h : i < ws.length) (hp : chk ws = chk (ws.drop i)) : chk ws = if (ws[i]).size = 0 then 7 else if (bytesOf ws[i]).all letterB then chk (ws.drop (i + 1)) else 2 := by
  rw [hp, List.drop_eq_getElem_cons h, chk]
theorem join_loop (ws : List ByteArray) (h : ws.length ≤ 100000) (h2 : sumW ws ≤ 100000) (d : Nat) : ∀ i : Nat, i + d = ws.length → chk ws = chk (ws.drop i) → Ev (fun k => text_Join.l0 k ws ws (ws.length : Int) (i : Int)) (joinS ws) := by
  induction d with
  | zero =>
    intro i hi hc
    rw [List.drop_eq_nil_of_le (by omega), chk] at hc
    refine Ev.step (fun k => rfl) (Ev.neg (by omega) (Ev.bind (Ev.now' (joinF ws h h2)) ?_))
    unfold joinS
    rw [if_pos hc, strOfNums_size]
    exact Ev.condJ (fun h3 => Ev.val (by rw [if_pos (by omega)])) (fun h3 => Ev.val (by rw [if_neg (by omega)]))
  | succ d ih =>
    intro i hi hc
    have hlt : i < ws.length := by omega
    have hsz := sum_at (List.getElem_mem hlt)
    have hca := chk_at ws i hlt hc
    refine Ev.step (fun k => rfl) (Ev.pos (by omega) (Ev.pos (by omega) (Ev.pos (by omega) ?_)))
    rw [rdOf_at ws i hlt]
    refine Ev.condJ (fun h3 => Ev.val ?_) (fun h3 => Ev.pos (by omega) (Ev.bind (has_ev ws[i] (by omega)) (Ev.condJ (fun h4 => Ev.val ?_) (fun h4 => ?_))))
    · rw [nil_at] at h3
      rw [if_pos h3] at hca
      unfold joinS; rw [hca, if_neg (by decide)]
    · rw [nil_at] at h3
      rw [if_neg h3, if_neg (by simpa using h4)] at hca
      unfold joinS; rw [hca, if_neg (by decide)]
    · rw [nil_at] at h3
      rw [if_neg h3, if_pos (by simpa using h4)] at hca
      rw [w64 (by omega) (by omega)]
      exact ih (i + 1) (by omega) hca
theorem join_ev (ws : List ByteArray) (h : ws.length ≤ 100000) (h2 : sumW ws ≤ 100000) : Ev (fun k => text_Join.f k ws) (joinS ws) := by
  unfold text_Join.f
  exact join_loop ws h h2 ws.length 0 (by omega) rfl
/-! the reference -/
theorem joinW_snoc : ∀ (ws : List ByteArray) (w : ByteArray), joinW (ws ++ [w]) = (if ws = [] then [] else joinW ws ++ [32]) ++ bytesOf w
  | [], w => rfl
  | [u], w => by rw [List.cons_append, List.nil_append, joinW, joinW, joinW, if_neg (by simp)]; simp
  | u :: v :: r, w => by
    have := joinW_snoc (v :: r) w
    rw [if_neg (by simp)] at this
    rw [List.cons_append, List.cons_append, joinW, ← List.cons_append, this, if_neg (by simp), joinW]
    simp
theorem joinW_take : ∀ (ws : List ByteArray) (i : Nat), (joinW (ws.take i)).length ≤ (joinW ws).length
  | [], i => by rw [List.take_nil]; exact Nat.le_refl _
  | [t], 0 => by rw [List.take_zero]; exact Nat.zero_le _
  | [t], i + 1 => by rw [List.take_succ_cons, List.take_nil]; exact Nat.le_refl _
  | t :: u :: r, 0 => by rw [List.take_zero]; exact Nat.zero_le _
  | t :: u :: r, 1 => by rw [List.take_succ_cons, List.take_zero, joinW, joinW, List.length_append]; omega
  | t :: u :: r, i + 2 => by
    have := joinW_take (u :: r) (i + 1)
    rw [List.take_succ_cons] at this
    rw [List.take_succ_cons, List.take_succ_cons, joinW, joinW, List.length_append, List.length_append, List.length_cons, List.length_cons]; omega
theorem rjoin_l2 (ws : List ByteArray) (h : ws.length ≤ 100000) (h2 : sumW ws ≤ 100000) (d : Nat) : ∀ i : Nat, i + d = ws.length → Ev (fun k => ancepsref01_Join.l2 k ws (strOfNums (joinW (ws.take i))) (i : Int)) (if (joinW ws).length > 120 then (⟨#[]⟩, 3) else (strOfNums (joinW ws), 0)) := by
  have hlen := joinW_len ws
  induction d with
  | zero =>
    intro i hi
    rw [List.take_of_length_le (by omega)]
    refine Ev.step (fun k => ancepsref01_Join.l2.eq_2 _ _ _ _) (Ev.neg (by omega) (Ev.step (fun k => ancepsref01_Join.j3.eq_2 _ _ _ _ _) (Ev.neg (by decide) ?_)))
    rw [strOfNums_size]
    exact Ev.condJ (fun h3 => Ev.val (by rw [if_pos (by omega)])) (fun h3 => Ev.val (by rw [if_neg (by omega)]))
  | succ d ih =>
    intro i hi
    have hlt : i < ws.length := by omega
    have hm := joinW_take ws i
    have hm1 := joinW_take ws (i + 1)
    have hsz := sum_at (List.getElem_mem hlt)
    have hnext := ih (i + 1) (by omega)
    rw [List.take_succ_eq_append_getElem hlt, joinW_snoc] at hm1 hnext
    have hsp : (⟨#[32]⟩ : ByteArray) = strOfNums [32] := rfl
    refine Ev.step (fun k => ancepsref01_Join.l2.eq_2 _ _ _ _) (Ev.pos (by omega) (Ev.step (fun k => ancepsref01_Join.j3.eq_2 _ _ _ _ _) ?_))
    rw [strOfNums_size]
    by_cases hbig : (joinW (ws.take i)).length ≤ 120
    · rw [decide_eq_true (by omega : ((joinW (ws.take i)).length : Int) ≤ 120)]
      refine Ev.pos rfl ?_
      rw [rdOf_at ws i hlt, w64 (by omega) (by omega), hsp, ← str_bytesJ ws[i]]
      rw [str_appJ, str_appJ, str_appJ]
      simp only [strOfNums_size, List.length_append, List.length_singleton, bytesOf_length]
      refine Ev.condJ (fun h3 => Ev.pos (by omega) (Ev.pos (by omega) (Ev.pos (by omega) (Ev.pos (by omega) ?_)))) (fun h3 => Ev.pos (by omega) (Ev.pos (by omega) (Ev.pos (by omega) ?_)))
      · rw [if_neg (by intro e; have := congrArg List.length e; rw [List.length_take, List.length_nil] at this; omega)] at hnext
        exact hnext
      · have hz : i = 0 := by omega
        subst hz
        rw [List.take_zero, if_pos rfl] at hnext
        rw [List.take_zero, joinW]; exact hnext
    · rw [decide_eq_false (by omega : ¬ ((joinW (ws.take i)).length : Int) ≤ 120)]
      refine Ev.neg (by decide) (Ev.pos (by omega) (Ev.val ?_))
      rw [if_pos (by omega)]
theorem rjoin_l01 (ws : List ByteArray) (h : ws.length ≤ 100000) (h2 : sumW ws ≤ 100000) (d : Nat) : ∀ i : Nat, i + d = ws.length → chk ws = chk (ws.drop i) → Ev (fun k => ancepsref01_Join.l0 k ws (i : Int)) (joinS ws) := by
  induction d with
  | zero =>
    intro i hi hc
    rw [List.drop_eq_nil_of_le (by omega), chk] at hc
    refine Ev.step (fun k => ancepsref01_Join.l0.eq_2 _ _ _) (Ev.neg (by omega) ?_)
    unfold joinS
    rw [if_pos hc]
    exact rjoin_l2 ws h h2 ws.length 0 (by omega)
  | succ d ih =>
    intro i hi hc
    have hlt : i < ws.length := by omega
    have hsz := sum_at (List.getElem_mem hlt)
    have hca := chk_at ws i hlt hc
    refine Ev.step (fun k => ancepsref01_Join.l0.eq_2 _ _ _) (Ev.pos (by omega) (Ev.pos (by omega) ?_))
    rw [rdOf_at ws i hlt]
    refine Ev.condJ (fun h3 => Ev.val ?_) (fun h3 => ?_)
    · rw [nil_at] at h3
      rw [if_pos h3] at hca
      unfold joinS; rw [hca, if_neg (by decide)]
    · rw [nil_at] at h3
      rw [if_neg h3] at hca
      have inner : ∀ e j : Nat, j + e = (ws[i]).size → chk ws = (if ((bytesOf ws[i]).drop j).all letterB then chk (ws.drop (i + 1)) else 2) → Ev (fun k => ancepsref01_Join.l1 k ws (i : Int) (j : Int)) (joinS ws) := by
        intro e
        induction e with
        | zero =>
          intro j hj hcj
          rw [drop_end _ _ (by omega)] at hcj
          refine Ev.step (fun k => ancepsref01_Join.l1.eq_2 _ _ _ _) (Ev.pos (by omega) (Ev.pos (by omega) ?_))
          rw [rdOf_at ws i hlt]
          refine Ev.neg (by omega) ?_
          rw [w64 (i := (i : Int) + 1) (by omega) (by omega)]
          exact ih (i + 1) (by omega) hcj
        | succ e ihe =>
          intro j hj hcj
          rw [drop_at _ _ (by omega), List.all_cons] at hcj
          refine Ev.step (fun k => ancepsref01_Join.l1.eq_2 _ _ _ _) (Ev.pos (by omega) (Ev.pos (by omega) ?_))
          rw [rdOf_at ws i hlt]
          refine Ev.pos (by omega) (Ev.pos (by omega) (Ev.bind (rletter_ev (Lem.bt_range ws[i] j)) (Ev.condJ (fun h4 => ?_) (fun h4 => Ev.val ?_))))
          · rw [h4, Bool.true_and] at hcj
            rw [w64 (by omega) (by omega)]
            exact ihe (j + 1) (by omega) hcj
          · rw [Bool.eq_false_iff.2 h4, Bool.false_and] at hcj
            unfold joinS; rw [hcj]; rfl
      exact inner (ws[i]).size 0 (by omega) (by rw [List.drop_zero]; exact hca)
theorem rjoin_ev (ws : List ByteArray) (h : ws.length ≤ 100000) (h2 : sumW ws ≤ 100000) : Ev (fun k => ancepsref01_Join.f k ws) (joinS ws) := by
  unfold ancepsref01_Join.f
  exact rjoin_l01 ws h h2 ws.length 0 (by omega) rfl
/-! the sum -/
theorem sum_drop (ws : List ByteArray) (i : Nat) (h : i < ws.length) : sumW (ws.drop i) = 1 + (ws[i]).size + sumW (ws.drop (i + 1)) := by rw [List.drop_eq_getElem_cons h, sumW]
theorem sum_loop (ws : List ByteArray) (hl : ws.length ≤ 100000) (hs : ∀ w ∈ ws, w.size ≤ 140737488351232) (d : Nat) : ∀ i n : Nat, i + d = ws.length → n + sumW (ws.drop i) = sumW ws → ∃ t : Int, Ev (fun k => ancepsref01_Sum.l0 k ws 500 (n : Int) (i : Int)) t ∧ (t ≤ 500 → sumW ws ≤ 500) := by
  induction d with
  | zero =>
    intro i n hi hn
    rw [List.drop_eq_nil_of_le (by omega), sumW] at hn
    exact ⟨(n : Int), Ev.step (fun k => rfl) (Ev.neg (by omega) (Ev.val rfl)), fun h => by omega⟩
  | succ d ih =>
    intro i n hi hn
    have hlt : i < ws.length := by omega
    have hw := hs _ (List.getElem_mem hlt)
    rw [sum_drop ws i hlt] at hn
    by_cases h : (n : Int) ≤ 500
    · obtain ⟨t, ht, hh⟩ := ih (i + 1) (n + 1 + (ws[i]).size) (by omega) (by omega)
      refine ⟨t, Ev.step (fun k => rfl) (Ev.pos (by omega) (Ev.pos h (Ev.pos (by omega) ?_))), hh⟩
      rw [rdOf_at ws i hlt, w64 (i := (n : Int) + 1) (by omega) (by omega), w64 (i := (n : Int) + 1 + _) (by omega) (by omega), w64 (by omega) (by omega)]
      exact ht
    · exact ⟨(n : Int), Ev.step (fun k => rfl) (Ev.pos (by omega) (Ev.neg h (Ev.val rfl))), fun e => absurd e h⟩
theorem sum_ev (ws : List ByteArray) (hl : ws.length ≤ 100000) (hs : ∀ w ∈ ws, w.size ≤ 140737488351232) : ∃ t : Int, Ev (fun k => ancepsref01_Sum.f k ws 500) t ∧ (t ≤ 500 → sumW ws ≤ 500) := by
  unfold ancepsref01_Sum.f
  exact sum_loop ws hl hs ws.length 0 0 (by omega) (by rw [List.drop_zero, Nat.zero_add])
/-! the words of what is put together -/
theorem rd_drop (L : List Int) (i j : Nat) : rd L ((i + j : Nat) : Int) = (L.drop i).getD j 0 := by
  unfold rd; rw [Int.toNat_natCast, List.getD_eq_getElem?_getD, List.getD_eq_getElem?_getD, List.getElem?_drop]
theorem span_word (L : List Int) (i : Nat) (hb : ¬ (0 < i ∧ letterB (rd L ((i - 1 : Nat) : Int)) = true)) : ∀ n : Nat, (∀ j, j < n + 1 → letterB (rd L ((i + j : Nat) : Int)) = true) → spans L (i + (n + 1)) = spans L i ++ [⟨(i : Int), ((i + (n + 1) : Nat) : Int)⟩]
  | 0, h => by
    have : letterB (rd L (i : Int)) = true := h 0 (by omega)
    show grow1 L (spans L i) i = _
    unfold grow1
    rw [if_pos this, if_neg hb]; rfl
  | n + 1, h => by
    have ih := span_word L i hb n (fun j hj => h j (by omega))
    have h1 := h (n + 1) (by omega)
    have h0 := h n (by omega)
    show grow1 L (spans L (i + (n + 1))) (i + (n + 1)) = _
    unfold grow1
    rw [if_pos h1, if_pos ⟨by omega, by rw [show i + (n + 1) - 1 = i + n by omega]; exact h0⟩, ih, List.length_append, List.length_singleton, Nat.add_sub_cancel, getD_app, if_pos rfl, List.set_append_right _ _ (Nat.le_refl _), Nat.sub_self]
    rfl
theorem span_space (L : List Int) (i : Nat) (h : letterB (rd L (i : Int)) = false) : spans L (i + 1) = spans L i := by
  show grow1 L (spans L i) i = _
  unfold grow1
  rw [h]; rfl
def places (i : Nat) : List ByteArray → List S31
  | [] => []
  | w :: r => ⟨(i : Int), ((i + w.size : Nat) : Int)⟩ :: places (i + w.size + 1) r
def goodW (w : ByteArray) : Prop := 0 < w.size ∧ (bytesOf w).all letterB = true
theorem word_letters (L : List Int) (i : Nat) (w : ByteArray) (rest : List Int) (hd : L.drop i = bytesOf w ++ rest) (hw : goodW w) : ∀ j, j < w.size → letterB (rd L ((i + j : Nat) : Int)) = true := fun j hj => by
  rw [rd_drop, hd, List.getD_eq_getElem?_getD, List.getElem?_append_left (by rw [bytesOf_length]; exact hj), List.getElem?_eq_getElem (by rw [bytesOf_length]; exact hj)]
  exact List.all_eq_true.1 hw.2 _ (List.getElem_mem _)
theorem spans_join (L : List Int) : ∀ (ws : List ByteArray) (i : Nat), i ≤ L.length → L.drop i = joinW ws → (∀ w ∈ ws, goodW w) → ¬ (0 < i ∧ letterB (rd L ((i - 1 : Nat) : Int)) = true) → spans L L.length = spans L i ++ places i ws
  | [], i, hi, hd, _, _ => by
    have hl := congrArg List.length hd
    rw [List.length_drop, joinW, List.length_nil] at hl
    rw [show L.length = i by omega, places, List.append_nil]
  | [w], i, hi, hd, hw, hb => by
    have hg := hw w List.mem_cons_self
    have hl := congrArg List.length hd
    rw [List.length_drop, joinW, bytesOf_length] at hl
    obtain ⟨n, hn⟩ : ∃ n, w.size = n + 1 := ⟨w.size - 1, by have := hg.1; omega⟩
    have := span_word L i hb n (fun j hj => word_letters L i w [] (by rw [List.append_nil]; exact hd) hg j (by omega))
    rw [show L.length = i + (n + 1) by omega, this, places, places, hn]
  | w :: u :: r, i, hi, hd, hw, hb => by
    have hg := hw w List.mem_cons_self
    rw [joinW] at hd
    have hl := congrArg List.length hd
    rw [List.length_drop, List.length_append, List.length_cons, bytesOf_length] at hl
    obtain ⟨n, hn⟩ : ∃ n, w.size = n + 1 := ⟨w.size - 1, by have := hg.1; omega⟩
    have h1 := span_word L i hb n (fun j hj => word_letters L i w _ hd hg j (by omega))
    have hsp : rd L ((i + w.size : Nat) : Int) = 32 := by
      rw [rd_drop, hd, List.getD_eq_getElem?_getD, List.getElem?_append_right (by rw [bytesOf_length]; exact Nat.le_refl _), bytesOf_length, Nat.sub_self]; rfl
    have h2 := span_space L (i + w.size) (by rw [hsp]; decide)
    have hd2 : L.drop (i + w.size + 1) = joinW (u :: r) := by
      rw [Nat.add_assoc, ← List.drop_drop, hd, List.drop_append, bytesOf_length, List.drop_eq_nil_of_le (by rw [bytesOf_length]; omega), show w.size + 1 - w.size = 1 by omega]; rfl
    have ih := spans_join L (u :: r) (i + w.size + 1) (by omega) hd2 (fun x hx => hw x (List.mem_cons_of_mem _ hx)) (fun e => by
      rw [Nat.add_sub_cancel, hsp] at e; exact absurd e.2 (by decide))
    rw [ih, h2, hn, h1, places, ← hn, List.append_assoc]; rfl
theorem places_len : ∀ (ws : List ByteArray) (i : Nat), (places i ws).length = ws.length
  | [], _ => rfl
  | w :: r, i => by rw [places, List.length_cons, places_len r, List.length_cons]
theorem places_at (L : List Int) : ∀ (ws : List ByteArray) (i : Nat), i ≤ L.length → L.drop i = joinW ws → ∀ (k : Nat) (x : S31) (w : ByteArray), (places i ws)[k]? = some x → ws[k]? = some w → 0 ≤ x.f0 ∧ x.f0 ≤ x.f1 ∧ x.f1 ≤ (L.length : Int) ∧ (L.take x.f1.toNat).drop x.f0.toNat = bytesOf w
  | [], i, _, _, k, x, w, h, _ => by rw [places] at h; simp at h
  | [v], i, hi, hd, 0, x, w, h, h' => by
    have hl := congrArg List.length hd
    rw [List.length_drop, joinW, bytesOf_length] at hl
    rw [joinW] at hd
    obtain rfl : (⟨(i : Int), ((i + v.size : Nat) : Int)⟩ : S31) = x := by simpa [places] using h
    obtain rfl : v = w := by simpa using h'
    refine ⟨by simp only; omega, by simp only; omega, by simp only; omega, ?_⟩
    simp only [Int.toNat_natCast]
    rw [List.drop_take, Nat.add_sub_cancel_left, hd, List.take_of_length_le (by rw [bytesOf_length]; exact Nat.le_refl _)]
  | [v], i, _, _, k + 1, x, w, h, _ => by rw [places, places] at h; simp at h
  | v :: u :: r, i, hi, hd, 0, x, w, h, h' => by
    rw [joinW] at hd
    have hl := congrArg List.length hd
    rw [List.length_drop, List.length_append, List.length_cons, bytesOf_length] at hl
    obtain rfl : (⟨(i : Int), ((i + v.size : Nat) : Int)⟩ : S31) = x := by simpa [places] using h
    obtain rfl : v = w := by simpa using h'
    refine ⟨by simp only; omega, by simp only; omega, by simp only; omega, ?_⟩
    simp only [Int.toNat_natCast]
    rw [List.drop_take, Nat.add_sub_cancel_left, hd, List.take_left' (bytesOf_length v)]
  | v :: u :: r, i, hi, hd, k + 1, x, w, h, h' => by
    rw [joinW] at hd
    have hl := congrArg List.length hd
    rw [List.length_drop, List.length_append, List.length_cons, bytesOf_length] at hl
    have hd2 : L.drop (i + v.size + 1) = joinW (u :: r) := by
      rw [Nat.add_assoc, ← List.drop_drop, hd, List.drop_append, bytesOf_length, List.drop_eq_nil_of_le (by rw [bytesOf_length]; omega), show v.size + 1 - v.size = 1 by omega]; rfl
    rw [places] at h
    exact places_at L (u :: r) (i + v.size + 1) (by omega) hd2 k x w (by simpa using h) (by simpa using h')
theorem chk_good : ∀ ws : List ByteArray, chk ws = 0 → ∀ w ∈ ws, goodW w
  | [], _, w, hw => by simp at hw
  | v :: r, h, w, hw => by
    rw [chk] at h
    by_cases h1 : v.size = 0
    · rw [if_pos h1] at h; exact absurd h (by decide)
    · rw [if_neg h1] at h
      by_cases h2 : (bytesOf v).all letterB = true
      · rw [if_pos h2] at h
        rcases List.mem_cons.1 hw with rfl | hw
        · exact ⟨by omega, h2⟩
        · exact chk_good r h w hw
      · rw [if_neg h2] at h; exact absurd h (by decide)
theorem letter_ok {c : Int} (h : letterB c = true) : okB c = true := by
  unfold letterB at h
  rw [Bool.and_eq_true, Bool.and_eq_true, decide_eq_true_iff, decide_eq_true_iff] at h
  exact decide_eq_true ⟨h.1.1, h.1.2⟩
theorem joinW_ok : ∀ ws : List ByteArray, (∀ w ∈ ws, goodW w) → (joinW ws).all okB = true
  | [], _ => rfl
  | [w], h => by
    rw [joinW, List.all_eq_true]
    exact fun c hc => letter_ok (List.all_eq_true.1 (h w List.mem_cons_self).2 c hc)
  | w :: u :: r, h => by
    rw [joinW, List.all_append, List.all_cons, joinW_ok (u :: r) (fun x hx => h x (List.mem_cons_of_mem _ hx)), Bool.and_eq_true, List.all_eq_true]
    exact ⟨fun c hc => letter_ok (List.all_eq_true.1 (h w List.mem_cons_self).2 c hc), rfl⟩
end Go.Proofs.Yteokimhjojppcaa.Lem
