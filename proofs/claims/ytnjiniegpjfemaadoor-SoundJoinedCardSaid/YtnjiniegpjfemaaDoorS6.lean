/- Plain lemmas of the sounds' chapter: the text of a list, and the way back. -/
import Derived.Test.YtnjiniegpjfemaaDoorS4
namespace Go.Proofs.YtnjiniegpjfemaaDoor.Lem
open Go.RowKit Go.Proofs.YtnjiniegpjfemaaDoor.X Go.Proofs.YtnjiniegpjfemaaDoorW.PrintWords Go.Proofs.YtnjiniegpjfemaaDoorW.PrintLast
theorem ext_k (a : Int) (h : 1 ≤ a) (h' : a ≤ 9) : (⟨#[118, 100, 109, 108, 110, 115, 120, 103, 98]⟩ : ByteArray).extract ((a - 1 : Int).toNat) ((a : Int).toNat) = mkB [klOf a] := by
  rcases nine h h' with rfl | rfl | rfl | rfl | rfl | rfl | rfl | rfl | rfl <;> rfl
theorem ext_k10 (a : Int) (h : 1 ≤ a) (h' : a ≤ 9) : (⟨#[32, 118, 100, 109, 108, 110, 115, 120, 103, 98]⟩ : ByteArray).extract ((a : Int).toNat) ((a + 1 : Int).toNat) = mkB [klOf a] := by
  rcases nine h h' with rfl | rfl | rfl | rfl | rfl | rfl | rfl | rfl | rfl <;> rfl
theorem ext_d (b : Int) (h : 1 ≤ b ∧ b ≤ 3) : (⟨#[48, 49, 50, 51]⟩ : ByteArray).extract ((b : Int).toNat) ((b + 1 : Int).toNat) = mkB [(48 + b).toNat.toUInt8] := by
  rcases three h with rfl | rfl | rfl <;> rfl
theorem slash (t : ByteArray) : t ++ (⟨#[47]⟩ : ByteArray) = mkB (t.data.toList ++ [47]) := app_mkB t [47]
theorem wl_nuc (x : S23) (h : nuc x.f0 = true) : ((x.f2.data.toList ++ [47]) ++ [klOf x.f0]) ++ [(48 + x.f1).toNat.toUInt8] = wl x := by
  unfold wl sfx
  rw [if_pos h]; simp
theorem wl_other (x : S23) (h : ¬ nuc x.f0 = true) : ((x.f2.data.toList ++ [47]) ++ [klOf x.f0]) = wl x := by
  unfold wl sfx
  rw [if_neg h]; simp
theorem dlen (t : ByteArray) : t.data.toList.length = t.size := by simp
theorem join_cc (x y : List UInt8) (r : List (List UInt8)) (sep : List UInt8) : Lib.join (x :: y :: r) sep = x ++ (sep ++ Lib.join (y :: r) sep) := by
  simp [Lib.join, List.intercalate]
theorem join_len : ∀ ws : List (List UInt8), (∀ w ∈ ws, w.length ≤ 11) → (Lib.join ws [32]).length ≤ 12 * ws.length
  | [], _ => by simp [Lib.join_nil]
  | [w], h => by rw [Lib.join_one]; have := h w (List.mem_cons_self ..); simp only [List.length_singleton]; omega
  | w :: y :: r, h => by
    have h1 := join_len (y :: r) (fun z hz => h z (List.mem_cons_of_mem _ hz))
    have h2 := h w (List.mem_cons_self ..)
    rw [join_cc]
    simp only [List.length_append, List.length_cons, List.length_nil] at *
    omega
theorem join_f (ws : List (List UInt8)) (hl : ws.length ≤ 1000) (hw : ∀ w ∈ ws, w.length ≤ 11) : strings_Join.f (ws.map mkB) (⟨#[32]⟩ : ByteArray) = some (joinB ws) := by
  have h1 := join_len ws hw
  have h2 : (ws.map mkB).map (·.data.toList) = ws := by
    rw [List.map_map]
    exact (List.map_congr_left (g := id) fun c _ => by simp).trans (List.map_id _)
  unfold strings_Join.f
  rw [h2]
  have h3 : (⟨#[32]⟩ : ByteArray).data.toList = [32] := rfl
  rw [h3, if_pos ⟨by rw [List.length_map]; omega, by omega⟩]; rfl
theorem format_loop (l : List S23) (hl : l.length ≤ 1000) (d : Nat) : ∀ (i : Nat) (a : List (List UInt8)), i + d = l.length → a.length ≤ i → (∀ w ∈ a, w.length ≤ 11) →
    Ev (fun k => sound_Format.l0 k (a.map mkB) l (l.length : Int) (i : Int)) (if errF (l.drop i) = 0 then (joinB (a ++ (l.drop i).map wl), 0) else ((⟨#[]⟩ : ByteArray), errF (l.drop i))) := by
  induction d with
  | zero =>
    intro i a hi ha hw
    rw [List.drop_of_length_le (by omega)]
    refine Ev.step (fun k => rfl) (Ev.neg (by omega) (Ev.bind (Ev.now' (join_f a (by omega) hw)) (Ev.val ?_)))
    rw [List.map_nil, List.append_nil]; rfl
  | succ d ih =>
    intro i a hi ha hw
    have hlt : i < l.length := by omega
    rw [List.drop_eq_getElem_cons hlt]
    refine Ev.step (fun k => rfl) (Ev.pos (by omega) (Ev.pos (by omega) (Ev.pos (by omega) ?_)))
    rw [rd_at l i hlt]
    refine Ev.bind (valid_ev _ _ _) ?_
    by_cases h0 : validS l[i].f0 l[i].f1 l[i].f2 = 0
    · obtain ⟨v1, v2, v3, v4, v5, v6⟩ := validS_zero h0
      have hw' := wl_len _ h0
      rw [errF, if_pos h0, w64 (i := l[i].f0 - 1) (by omega) (by omega), w64 (i := (i : Int) + 1) (by omega) (by omega), ext_k _ v1 v2, slash, mkB_app]
      have hih := ih (i + 1) (a ++ [wl l[i]]) (by omega) (by rw [List.length_append]; simp; omega) (fun w hx => by
        rcases List.mem_append.1 hx with hx | hx
        · exact hw w hx
        · rw [List.mem_singleton.1 hx]; exact hw')
      rw [List.map_append, List.append_assoc] at hih
      have hsz : (mkB (l[i].f2.data.toList ++ [47])).size ≤ 9 := by rw [mkB_size, List.length_append, dlen]; simp; omega
      have hsz1 : (mkB [klOf l[i].f0]).size = 1 := by rw [mkB_size]; rfl
      refine Ev.pos h0 (Ev.pos (by omega) (Ev.pos (by omega) (Ev.pos (by omega) (Ev.pos (by omega) (Ev.pos (by omega) (Ev.bind (Ev.now' (nucleus_f _ _ _)) (Ev.cond (fun h => ?_) (fun h => ?_))))))))
      · have hb := quant_nuc v3 h
        rw [w64 (i := l[i].f1 + 1) (by omega) (by omega), ext_d _ hb, mkB_app, wl_nuc _ h]
        have hsz2 : (mkB (l[i].f2.data.toList ++ [47] ++ [klOf l[i].f0])).size ≤ 10 := by rw [mkB_size, List.length_append, List.length_append, dlen]; simp; omega
        have hsz3 : (mkB [(48 + l[i].f1).toNat.toUInt8]).size = 1 := by rw [mkB_size]; rfl
        exact Ev.pos (by omega) (Ev.pos (by omega) (Ev.pos (by omega) (Ev.pos (by omega) (Ev.pos (by rw [List.length_map]; omega) hih))))
      · rw [wl_other _ h]
        exact Ev.pos (by rw [List.length_map]; omega) hih
    · rw [errF, if_neg h0, if_neg h0]
      exact Ev.neg h0 (Ev.now _)
theorem format_ev (l : List S23) : Ev (fun k => sound_Format.f k l) (fmtS l) := by
  unfold sound_Format.f fmtS
  by_cases h : 200 < l.length
  · rw [if_pos h]; exact Ev.pos (by omega) (Ev.now _)
  · rw [if_neg h]
    have := format_loop l (by omega) l.length 0 [] (by omega) (by simp) (by simp)
    rw [List.drop_zero] at this
    exact Ev.neg (by omega) this
/-! there and back -/
theorem let_ne {c : UInt8} (h : isLet (c.toNat : Int) = true) : c ≠ 47 ∧ c ≠ 32 := by
  constructor <;> rintro rfl <;> revert h <;> decide
theorem index_at (t : List UInt8) (c : UInt8) (r : List UInt8) (h : ∀ x ∈ t, x ≠ c) : Lib.indexByte (t ++ c :: r) c = (t.length : Int) := by
  have hr := indexByte_range (t ++ c :: r) c
  by_cases h1 : Lib.indexByte (t ++ c :: r) c = -1
  · have := Lib.indexByte_none h1 t.length
    rw [List.getElem?_append_right (Nat.le_refl _), Nat.sub_self] at this
    exact absurd rfl this
  · obtain ⟨o, ho⟩ : ∃ o : Nat, Lib.indexByte (t ++ c :: r) c = o := ⟨(Lib.indexByte (t ++ c :: r) c).toNat, by omega⟩
    obtain ⟨h2, h3⟩ := Lib.indexByte_some ho
    rw [ho]
    rcases Nat.lt_trichotomy o t.length with h4 | h4 | h4
    · rw [List.getElem?_append_left h4, List.getElem?_eq_getElem h4] at h2
      exact absurd (Option.some.inj h2) (h _ (List.getElem_mem h4))
    · omega
    · have := h3 t.length h4
      rw [List.getElem?_append_right (Nat.le_refl _), Nat.sub_self] at this
      exact absurd rfl this
theorem text_of (t : ByteArray) (h : ∀ c ∈ bytesOf t, isLet c = true) : ∀ x ∈ t.data.toList, x ≠ 47 ∧ x ≠ 32 := by
  intro x hx
  refine let_ne (h _ ?_)
  unfold bytesOf
  exact List.mem_map.2 ⟨x, hx, rfl⟩
theorem at1_of (t r : List UInt8) (h : ∀ x ∈ t, x ≠ 47) : strings_Cut.at1 (mkB (t ++ 47 :: r)) 47 = (mkB t, mkB r, true) := by
  have hd : (mkB (t ++ 47 :: r)).data.toList = t ++ 47 :: r := by simp
  unfold strings_Cut.at1
  rw [hd, index_at t 47 r h, if_pos (by omega), Int.toNat_natCast, extract_mkB, extract_mkB, hd, mkB_size]
  have hdr : (t ++ 47 :: r).drop (t.length + 1) = r := by simp
  rw [List.take_left, List.drop_zero, List.take_of_length_le (Nat.le_refl _), hdr]
theorem kd_kl (a : Int) (h : 1 ≤ a) (h' : a ≤ 9) : kdOf ((klOf a).toNat : Int) = a := by
  rcases nine h h' with rfl | rfl | rfl | rfl | rfl | rfl | rfl | rfl | rfl <;> decide
theorem bt_mkB (l : List UInt8) (i : Nat) (h : i < l.length) : bt (mkB l) (i : Int) = (l[i].toNat : Int) := by
  have hd : (mkB l).data.toList = l := by simp
  rw [bt_data (mkB l) i (by rw [hd]; exact h)]
theorem parse1_wl (x : S23) (h : validS x.f0 x.f1 x.f2 = 0) : parse1 (mkB (wl x)) = some x := by
  obtain ⟨v1, v2, v3, v4, v5, v6⟩ := validS_zero h
  have hc : strings_Cut.at1 (mkB (wl x)) 47 = (mkB x.f2.data.toList, mkB (klOf x.f0 :: (if nuc x.f0 = true then [(48 + x.f1).toNat.toUInt8] else [])), true) := at1_of _ _ (fun y hy => (text_of x.f2 v6 y hy).1)
  unfold parse1
  rw [hc, if_pos rfl]
  show readR (mkB x.f2.data.toList) _ = _
  rw [mkB_data]
  unfold readR
  rw [mkB_size]
  by_cases hn : nuc x.f0 = true
  · have hb := quant_nuc v3 hn
    rw [if_pos hn, if_neg (by simp)]
    have b0 : bt (mkB (klOf x.f0 :: [(48 + x.f1).toNat.toUInt8])) 0 = ((klOf x.f0).toNat : Int) := bt_mkB _ 0 (by simp)
    have b1 : bt (mkB (klOf x.f0 :: [(48 + x.f1).toNat.toUInt8])) 1 = (((48 + x.f1).toNat.toUInt8).toNat : Int) := bt_mkB _ 1 (by simp)
    have b2 : (((48 + x.f1).toNat.toUInt8).toNat : Int) = 48 + x.f1 := by rcases three hb with e | e | e <;> rw [e] <;> rfl
    rw [b0, b1, b2, kd_kl _ v1 v2, if_pos hn, if_pos ⟨rfl, by omega, by omega⟩, show 48 + x.f1 - 48 = x.f1 by omega]
    unfold fin1
    rw [if_pos h]
  · have hb := quant_other v3 hn
    rw [if_neg hn, if_neg (by simp)]
    have b0 : bt (mkB [klOf x.f0]) 0 = ((klOf x.f0).toNat : Int) := bt_mkB _ 0 (by simp)
    rw [b0, kd_kl _ v1 v2, if_neg hn, if_pos (show [klOf x.f0].length = 1 from rfl), ← hb]
    unfold fin1
    rw [if_pos h]
theorem kl_kd (n : Fin 256) : 1 ≤ kdOf (n.val : Int) → (klOf (kdOf (n.val : Int))).toNat = n.val := by
  revert n
  decide +kernel
theorem fin1_some {a b : Int} {t : ByteArray} {x : S23} (h : fin1 a b t = some x) : validS a b t = 0 ∧ x = ⟨a, b, t⟩ := by
  unfold fin1 at h
  split at h
  · rename_i h0
    exact ⟨h0, (Option.some.inj h).symm⟩
  · cases h
theorem kl_bt (r : ByteArray) (h : 1 ≤ kdOf (bt r 0)) : ((klOf (kdOf (bt r 0))).toNat : Int) = bt r 0 := by
  obtain ⟨n, hn⟩ := byte_fin (bt_range r 0)
  rw [hn] at h ⊢
  have := kl_kd n h
  omega
theorem parse1_some {w : ByteArray} {x : S23} (h : parse1 w = some x) : validS x.f0 x.f1 x.f2 = 0 ∧ w = mkB (wl x) := by
  unfold parse1 at h
  split at h
  · rename_i hc
    -- the cut
    unfold strings_Cut.at1 at hc h
    by_cases hi : 0 ≤ Lib.indexByte w.data.toList 47
    · obtain ⟨o, ho⟩ : ∃ o : Nat, Lib.indexByte w.data.toList 47 = o := ⟨(Lib.indexByte w.data.toList 47).toNat, by omega⟩
      rw [if_pos hi, ho, Int.toNat_natCast] at h
      obtain ⟨h2, h3⟩ := Lib.indexByte_some ho
      have hlt := (List.getElem?_eq_some_iff.1 h2).1
      have hsp : w.data.toList = w.data.toList.take o ++ 47 :: w.data.toList.drop (o + 1) := by
        conv => lhs; rw [← List.take_append_drop o w.data.toList, List.drop_eq_getElem_cons hlt, (List.getElem?_eq_some_iff.1 h2).2]
      have ht : (w.extract 0 o).data.toList = w.data.toList.take o := by rw [extract_mkB]; simp
      have hr : w.data.toList.drop (o + 1) = (w.extract (o + 1) w.size).data.toList := by
        rw [extract_mkB, ← dlen w, List.take_of_length_le (Nat.le_refl _)]
      rw [← ht, hr] at hsp
      simp only at h
      generalize w.extract 0 o = t at h hsp
      generalize w.extract (o + 1) w.size = r at h hsp
      have hw : w = mkB (t.data.toList ++ 47 :: r.data.toList) := by rw [← hsp]
      unfold readR at h
      by_cases h0 : r.size = 0
      · rw [if_pos h0] at h; cases h
      · rw [if_neg h0] at h
        have hrl : r.data.toList.length = r.size := dlen r
        have e0 : bt r 0 = (r.data.toList[0]'(by omega)).toNat := bt_data r 0 (by omega)
        by_cases hn : nuc (kdOf (bt r 0)) = true
        · rw [if_pos hn] at h
          by_cases h2' : r.size = 2 ∧ 49 ≤ bt r 1 ∧ bt r 1 ≤ 51
          · rw [if_pos h2'] at h
            obtain ⟨hv, rfl⟩ := fin1_some h
            refine ⟨hv, ?_⟩
            obtain ⟨v1, v2, v3, v4, v5, v6⟩ := validS_zero hv
            have hk := kl_bt r v1
            have e1 : bt r 1 = (r.data.toList[1]'(by omega)).toNat := bt_data r 1 (by omega)
            rw [hw]
            unfold wl sfx
            simp only
            rw [if_pos hn]
            have : r.data.toList = [klOf (kdOf (bt r 0)), (48 + (bt r 1 - 48)).toNat.toUInt8] := by
              have hk' : klOf (kdOf (bt r 0)) = r.data.toList[0]'(by omega) := UInt8.toNat_inj.1 (by omega)
              rw [hk', show 48 + (bt r 1 - 48) = bt r 1 by omega, e1, Int.toNat_natCast, Nat.toUInt8_eq, UInt8.ofNat_toNat]
              apply List.ext_getElem
              · simp; omega
              · intro n h1 h2
                simp at h2
                match n with
                | 0 => rfl
                | 1 => rfl
                | n + 2 => omega
            rw [← this]
          · rw [if_neg h2'] at h; cases h
        · rw [if_neg hn] at h
          by_cases h1 : r.size = 1
          · rw [if_pos h1] at h
            obtain ⟨hv, rfl⟩ := fin1_some h
            refine ⟨hv, ?_⟩
            obtain ⟨v1, v2, v3, v4, v5, v6⟩ := validS_zero hv
            have hk := kl_bt r v1
            rw [hw]
            unfold wl sfx
            simp only
            rw [if_neg hn]
            have : r.data.toList = [klOf (kdOf (bt r 0))] := by
              have hk' : klOf (kdOf (bt r 0)) = r.data.toList[0]'(by omega) := UInt8.toNat_inj.1 (by omega)
              rw [hk']
              apply List.ext_getElem
              · simp; omega
              · intro n h1 h2
                simp at h2
                subst h2; rfl
            rw [← this]
          · rw [if_neg h1] at h; cases h
    · rw [if_neg hi] at hc; cases hc
  · cases h
theorem errF_zero {l : List S23} : errF l = 0 ↔ ∀ x ∈ l, validS x.f0 x.f1 x.f2 = 0 := by
  induction l with
  | nil => simp [errF]
  | cons x r ih =>
    rw [errF]
    constructor
    · intro h
      by_cases h0 : validS x.f0 x.f1 x.f2 = 0
      · rw [if_pos h0] at h
        intro y hy
        rcases List.mem_cons.1 hy with rfl | hy
        · exact h0
        · exact ih.1 h y hy
      · rw [if_neg h0] at h; exact absurd h h0
    · intro h
      rw [if_pos (h x (List.mem_cons_self ..))]
      exact ih.2 fun y hy => h y (List.mem_cons_of_mem _ hy)
theorem parseL_some : ∀ {ws : List ByteArray} {l : List S23}, parseL ws = some l → ws = l.map (fun x => mkB (wl x)) ∧ ∀ x ∈ l, validS x.f0 x.f1 x.f2 = 0
  | [], l, h => by cases h; exact ⟨rfl, fun x hx => by simp at hx⟩
  | w :: r, l, h => by
    rw [parseL] at h
    cases h1 : parse1 w with
    | none => rw [h1] at h; cases h
    | some x =>
      rw [h1] at h
      cases h2 : parseL r with
      | none => rw [h2] at h; cases h
      | some m =>
        rw [h2] at h
        obtain rfl := Option.some.inj h
        obtain ⟨h3, h4⟩ := parseL_some h2
        obtain ⟨h5, h6⟩ := parse1_some h1
        refine ⟨by rw [h6, h3]; rfl, fun y hy => ?_⟩
        rcases List.mem_cons.1 hy with rfl | hy
        · exact h5
        · exact h4 y hy
theorem parseL_wl : ∀ (l : List S23), (∀ x ∈ l, validS x.f0 x.f1 x.f2 = 0) → parseL (l.map (fun x => mkB (wl x))) = some l
  | [], _ => rfl
  | x :: r, h => by
    rw [List.map_cons, parseL, parse1_wl x (h x (List.mem_cons_self ..)), parseL_wl r (fun y hy => h y (List.mem_cons_of_mem _ hy))]; rfl
theorem join_pieces (c : UInt8) : ∀ l : List UInt8, Lib.join (strings_Split.pieces c l) [c] = l
  | [] => by rw [strings_Split.pieces, Lib.join_one]
  | x :: r => by
    have ih := join_pieces c r
    rw [strings_Split.pieces]
    cases hs : strings_Split.pieces c r with
    | nil => exact absurd hs (strings_Split.pieces_ne c r)
    | cons y t =>
      rw [hs] at ih
      split
      · rename_i hx
        rw [join_cc, ih]
        simp only [List.nil_append, List.singleton_append]
        rw [beq_iff_eq.1 hx]
      · cases t with
        | nil => rw [Lib.join_one] at *; rw [ih]
        | cons z t => rw [join_cc] at *; rw [← ih]; rfl
theorem pieces_app (c : UInt8) : ∀ (w r : List UInt8), (∀ x ∈ w, x ≠ c) → strings_Split.pieces c (w ++ c :: r) = w :: strings_Split.pieces c r
  | [], r, _ => by rw [List.nil_append, strings_Split.pieces, if_pos (by simp)]
  | x :: w, r, h => by
    rw [List.cons_append, strings_Split.pieces, if_neg (by simpa using h x (List.mem_cons_self ..)), pieces_app c w r (fun y hy => h y (List.mem_cons_of_mem _ hy))]
theorem pieces_no (c : UInt8) : ∀ (w : List UInt8), (∀ x ∈ w, x ≠ c) → strings_Split.pieces c w = [w]
  | [], _ => rfl
  | x :: w, h => by
    rw [strings_Split.pieces, if_neg (by simpa using h x (List.mem_cons_self ..)), pieces_no c w (fun y hy => h y (List.mem_cons_of_mem _ hy))]
theorem pieces_join (c : UInt8) : ∀ (ws : List (List UInt8)), ws ≠ [] → (∀ w ∈ ws, ∀ x ∈ w, x ≠ c) → strings_Split.pieces c (Lib.join ws [c]) = ws
  | [], h, _ => absurd rfl h
  | [w], _, h => by rw [Lib.join_one]; exact pieces_no c w (h w (List.mem_cons_self ..))
  | w :: y :: r, _, h => by
    rw [join_cc, List.singleton_append, pieces_app c w _ (h w (List.mem_cons_self ..)), pieces_join c (y :: r) (by simp) (fun z hz => h z (List.mem_cons_of_mem _ hz))]
theorem wl_no32 (x : S23) (h : validS x.f0 x.f1 x.f2 = 0) : ∀ y ∈ wl x, y ≠ 32 := by
  obtain ⟨v1, v2, v3, v4, v5, v6⟩ := validS_zero h
  intro y hy
  unfold wl sfx at hy
  rcases List.mem_append.1 hy with hy | hy
  · exact (text_of x.f2 v6 y hy).2
  · rcases List.mem_cons.1 hy with rfl | hy
    · decide
    · rcases List.mem_cons.1 hy with rfl | hy
      · rcases nine v1 v2 with e | e | e | e | e | e | e | e | e <;> rw [e] <;> decide
      · by_cases hn : nuc x.f0 = true
        · rw [if_pos hn] at hy
          rw [List.mem_singleton.1 hy]
          rcases three (quant_nuc v3 hn) with e | e | e <;> rw [e] <;> decide
        · rw [if_neg hn] at hy; simp at hy
theorem joinB_size (l : List S23) (h : ∀ x ∈ l, validS x.f0 x.f1 x.f2 = 0) : (joinB (l.map wl)).size ≤ 12 * l.length := by
  have := join_len (l.map wl) (fun w hw => by
    obtain ⟨x, hx, rfl⟩ := List.mem_map.1 hw
    exact wl_len x (h x hx))
  rw [List.length_map] at this
  rw [joinB, mkB_size]; exact this
theorem joinB_zero (l : List S23) (hne : l ≠ []) : (joinB (l.map wl)).size ≠ 0 := by
  rw [joinB, mkB_size]
  match l, hne with
  | [x], _ => rw [List.map_cons, List.map_nil, Lib.join_one]; unfold wl sfx; simp
  | x :: y :: r, _ => rw [List.map_cons, List.map_cons, join_cc]; unfold wl sfx; simp
/-- Parse leads back from the text of valid sounds. -/
theorem parse_format (l : List S23) (hl : l.length ≤ 200) (h : ∀ x ∈ l, validS x.f0 x.f1 x.f2 = 0) : parseS (joinB (l.map wl)) = (l, 0) := by
  have hs := joinB_size l h
  unfold parseS
  rw [if_neg (by omega)]
  by_cases hne : l = []
  · subst hne; rfl
  · rw [if_neg (joinB_zero l hne)]
    have hp : piecesB (joinB (l.map wl)) = l.map (fun x => mkB (wl x)) := by
      unfold piecesB joinB
      rw [show (mkB (Lib.join (l.map wl) [32])).data.toList = Lib.join (l.map wl) [32] by simp, pieces_join 32 _ (by simpa using hne) (fun w hw => by
        obtain ⟨x, hx, rfl⟩ := List.mem_map.1 hw
        exact wl_no32 x (h x hx)), List.map_map]
      rfl
    rw [hp, parseL_wl l h]
    unfold finP
    simp only
    rw [if_neg (by omega)]
/-- What Parse gives has the text. -/
theorem parse_ok {s : ByteArray} (h : (parseS s).2 = 0) : (parseS s).1.length ≤ 200 ∧ (∀ x ∈ (parseS s).1, validS x.f0 x.f1 x.f2 = 0) ∧ joinB ((parseS s).1.map wl) = s := by
  unfold parseS at h ⊢
  by_cases h0 : 4000 < s.size
  · rw [if_pos h0] at h; simp at h
  · rw [if_neg h0] at h ⊢
    by_cases h1 : s.size = 0
    · rw [if_pos h1]
      refine ⟨by simp, fun x hx => by simp at hx, ?_⟩
      have h9 : s.data.toList = [] := List.length_eq_zero_iff.1 (by rw [dlen]; exact h1)
      have : s = mkB [] := by rw [← mkB_data s, h9]
      rw [this]; rfl
    · rw [if_neg h1] at h ⊢
      cases h2 : parseL (piecesB s) with
      | none => rw [h2] at h; simp [finP] at h
      | some l =>
        rw [h2] at h
        unfold finP at h ⊢
        simp only at h ⊢
        by_cases h3 : 200 < l.length
        · rw [if_pos h3] at h; simp at h
        · rw [if_neg h3]
          obtain ⟨h4, h5⟩ := parseL_some h2
          refine ⟨by simp only; omega, h5, ?_⟩
          simp only
          have h6 : (strings_Split.pieces 32 s.data.toList).map mkB = (l.map wl).map mkB := by
            rw [List.map_map]; exact h4
          have h7 : strings_Split.pieces 32 s.data.toList = l.map wl := by
            have inj : ∀ (a b : List (List UInt8)), a.map mkB = b.map mkB → a = b := by
              intro a
              induction a with
              | nil => intro b hb; cases b with
                | nil => rfl
                | cons y t => simp at hb
              | cons x r ih => intro b hb; cases b with
                | nil => simp at hb
                | cons y t =>
                  rw [List.map_cons, List.map_cons] at hb
                  obtain ⟨e1, e2⟩ := List.cons.inj hb
                  rw [mkB_inj.1 e1, ih t e2]
            exact inj _ _ h6
          rw [← h7]
          unfold joinB
          rw [join_pieces]
theorem parse_err {s : ByteArray} (h : s.size ≤ 4000) (h' : (parseS s).2 ≠ 0) : (parseS s).2 = 2 := by
  unfold parseS at h' ⊢
  rw [if_neg (by omega)] at h' ⊢
  by_cases h1 : s.size = 0
  · rw [if_pos h1] at h'; simp at h'
  · rw [if_neg h1] at h' ⊢
    unfold finP at h' ⊢
    generalize parseL (piecesB s) = o at h' ⊢
    cases o with
    | none => rfl
    | some l =>
      simp only at h' ⊢
      by_cases h3 : 200 < l.length
      · rw [if_pos h3]
      · rw [if_neg h3] at h'; simp at h'
theorem parse_errl {s : ByteArray} (h' : (parseS s).2 ≠ 0) : (parseS s).1 = [] := by
  unfold parseS at h' ⊢
  by_cases h0 : 4000 < s.size
  · rw [if_pos h0]
  · rw [if_neg h0] at h' ⊢
    by_cases h1 : s.size = 0
    · rw [if_pos h1]
    · rw [if_neg h1] at h' ⊢
      unfold finP at h' ⊢
      generalize parseL (piecesB s) = o at h' ⊢
      cases o with
      | none => rfl
      | some l =>
        simp only at h' ⊢
        by_cases h3 : 200 < l.length
        · rw [if_pos h3]
        · rw [if_neg h3] at h'; simp at h'
end Go.Proofs.YtnjiniegpjfemaaDoor.Lem
