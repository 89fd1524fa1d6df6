/- Parse gives the list with any text, or the error, as the reference does; Format leads back. -/
import Derived.Test.YtnjiniegpjfemaaDoorS2
import Derived.Test.YtnjiniegpjfemaaDoorS6
import Derived.Test.YtnjiniegpjfemaaDoorX19
import Derived.Test.YtnjiniegpjfemaaDoorX20
import Derived.Test.YtnjiniegpjfemaaDoorX21
namespace Go.Proofs.YtnjiniegpjfemaaDoor.Pure
open Go.RowKit Go.Proofs.YtnjiniegpjfemaaDoor.X Go.Proofs.YtnjiniegpjfemaaDoor.Lem Go.Proofs.YtnjiniegpjfemaaDoorW.PrintWords Go.Proofs.YtnjiniegpjfemaaDoorW.PrintLast
/-! the parts between spaces -/
theorem rd_snocB (us : List (List UInt8)) (z : List UInt8) : rdOf ByteArray.empty ((us ++ [z]).map mkB) (us.length : Int) = mkB z := by
  have hm : (us.map mkB).length = us.length := List.length_map _
  rw [List.map_append, List.map_singleton, ← hm]
  exact rdOf_snoc _ _
theorem last_atB (us : List (List UInt8)) (z : List UInt8) (h : us.length ≤ 100000) : wrap64 ((((us ++ [z]).map mkB).length : Int) - 1) = (us.length : Int) := by
  rw [List.length_map, List.length_append, List.length_singleton, w64 (by omega) (by omega)]
  omega
theorem set_snocB (us : List (List UInt8)) (z y : List UInt8) : ((us ++ [z]).map mkB).set ((us.length : Int)).toNat (mkB y) = (us ++ [y]).map mkB := by
  rw [Int.toNat_natCast, List.map_append, List.map_singleton, List.map_append, List.map_singleton, List.set_append_right _ _ (by rw [List.length_map]; exact Nat.le_refl _), List.length_map, Nat.sub_self]; rfl
theorem split_loop (s : ByteArray) (hs : s.size ≤ 4000) (d : Nat) : ∀ (i : Nat) (us : List (List UInt8)) (z : List UInt8), i + d = s.size → us.length ≤ i → z.length ≤ i →
    Ev (fun k => ancepsref11_split.l0 k s ((us ++ [z]).map mkB) (i : Int)) ((us ++ pre z (strings_Split.pieces 32 (s.data.toList.drop i))).map mkB) := by
  have hl : s.data.toList.length = s.size := dlen s
  induction d with
  | zero =>
    intro i us z hi hu hz
    rw [List.drop_of_length_le (by omega)]
    refine Ev.step (fun k => rfl) (Ev.neg (by omega) (Ev.val ?_))
    rw [strings_Split.pieces, pre, List.append_nil]
  | succ d ih =>
    intro i us z hi hu hz
    have hlt : i < s.data.toList.length := by omega
    have hb := bt_data s i hlt
    rw [List.drop_eq_getElem_cons hlt]
    have hun : (us ++ [z]).map mkB ++ [(⟨#[]⟩ : ByteArray)] = ((us ++ [z]) ++ [[]]).map mkB := (List.map_append (l₁ := us ++ [z]) (l₂ := [[]])).symm
    refine Ev.step (fun k => rfl) (Ev.pos (by omega) (Ev.pos (by omega) (Ev.cond (fun h => ?_) (fun h => ?_))))
    · have hc : s.data.toList[i] = 32 := UInt8.toNat_inj.1 (by rw [hb] at h; show s.data.toList[i].toNat = 32; omega)
      rw [hc, strings_Split.pieces, if_pos (by decide), pre, List.append_nil, hun, w64 (by omega) (by omega)]
      refine Ev.pos (by rw [List.length_map, List.length_append]; simp; omega) ?_
      have := ih (i + 1) (us ++ [z]) [] (by omega) (by rw [List.length_append]; simp; omega) (by simp)
      rw [pre_nil (strings_Split.pieces_ne 32 _)] at this
      rw [show us ++ z :: strings_Split.pieces 32 (s.data.toList.drop (i + 1)) = us ++ [z] ++ strings_Split.pieces 32 (s.data.toList.drop (i + 1)) by simp]
      exact this
    · have hc : ¬ (s.data.toList[i] == 32) = true := by
        intro e
        rw [beq_iff_eq] at e
        rw [hb, e] at h
        exact h rfl
      have hih := ih (i + 1) us (z ++ [s.data.toList[i]]) (by omega) (by omega) (by rw [List.length_append]; simp; omega)
      have hex : s.extract (i : Int).toNat ((i + 1 : Nat) : Int).toNat = mkB [s.data.toList[i]] := by
        rw [extract_mkB, Int.toNat_natCast, Int.toNat_natCast, take_next _ i i hlt (Nat.le_refl _), List.drop_of_length_le (by rw [List.length_take]; omega)]; rfl
      have z1 : (mkB z).size = z.length := mkB_size z
      have z2 : (mkB [s.data.toList[i]]).size = 1 := mkB_size _
      rw [last_atB us z (by omega), rd_snocB, w64 (i := (i : Int) + 1) (by omega) (by omega), show (i : Int) + 1 = ((i + 1 : Nat) : Int) by omega, hex, mkB_app, set_snocB]
      refine Ev.pos (by omega) (Ev.pos (by rw [List.length_map, List.length_append]; simp; omega) (Ev.pos (by omega) (Ev.pos (by omega) (Ev.pos (by omega) ?_))))
      have e : pre (z ++ [s.data.toList[i]]) (strings_Split.pieces 32 (s.data.toList.drop (i + 1))) = pre z (strings_Split.pieces 32 (s.data.toList[i] :: s.data.toList.drop (i + 1))) := by
        rw [strings_Split.pieces.eq_2, if_neg hc]
        cases hp : strings_Split.pieces 32 (s.data.toList.drop (i + 1)) with
        | nil => exact absurd hp (strings_Split.pieces_ne 32 _)
        | cons a b => simp [pre]
      rw [← e]
      exact hih
theorem split_ev (s : ByteArray) (hs : s.size ≤ 4000) : Ev (fun k => ancepsref11_split.f k s) (piecesB s) := by
  have h := split_loop s hs s.size 0 [] [] (by omega) (by simp) (by simp)
  rw [List.drop_zero, pre_nil (strings_Split.pieces_ne 32 _), List.nil_append] at h
  exact h
/-! one sound -/
def readK (a : Int) (t r : ByteArray) : Option S23 :=
  if nuc a = true then (if r.size = 2 ∧ 49 ≤ bt r 1 ∧ bt r 1 ≤ 51 then fin1 a (bt r 1 - 48) t else none)
  else if r.size = 1 then fin1 a 0 t else none
theorem readR_K (t r : ByteArray) (h : r.size ≠ 0) : readR t r = readK (kdOf (bt r 0)) t r := by
  unfold readR readK
  rw [if_neg h]
def letB : ByteArray := ⟨#[32, 118, 100, 109, 108, 110, 115, 120, 103, 98]⟩
def kf : Nat → Int → Int → Int
  | 0, a, _ => a
  | d + 1, a, c => kf d (if bt letB ((9 - d : Nat) : Int) = c then ((9 - d : Nat) : Int) else a) c
theorem kf_kd (n : Fin 256) : kf 9 0 (n.val : Int) = kdOf (n.val : Int) := by
  revert n
  decide +kernel
theorem letters_f : ancepsref11_letters.f = some letB := rfl
theorem letB_size : (letB.size : Int) = 10 := rfl
theorem bt_rest (r : ByteArray) (h : 1 < r.size) : bt (r.extract 1 r.size) 0 = bt r 1 := by
  have e := bytesOf_tail r 1
  rw [drop_lt r 1 h] at e
  exact (bt_head _ _ _ e).1
theorem fin1_nuc (a : Int) (t : ByteArray) (h : nuc a = true) : (validS a 0 t == 0) = false := by
  rw [beq_eq_false_iff_ne]
  intro h0
  obtain ⟨_, _, h3, _⟩ := validS_zero h0
  have := quant_nuc h3 h
  omega
theorem one_tail (a : Int) (t r : ByteArray) (hr : r.size ≠ 0) (hs : r.size ≤ 4000) : ∃ v, Ev (fun k => ancepsref11_one.l1 k r 10 a 0 t) v ∧ Lem.Told (readK a t r) v := by
  have hz : (r.extract 1 r.size).size = r.size - 1 := by rw [extract_size]; omega
  have hnil : (r.extract 1 r.size).toList = ([] : List UInt8) ↔ r.size = 1 := by rw [list_nil, hz]; omega
  have no : ∀ x, Lem.Told none (a, x, t, false) := fun x => rfl
  unfold readK
  by_cases hn : nuc a = true
  · rw [if_pos hn]
    by_cases h2 : r.size = 2
    · have hb := bt_rest r (by omega)
      have hr1 := Lem.bt_range r 1
      by_cases h3 : 49 ≤ bt r 1
      · by_cases h4 : bt r 1 ≤ 51
        · rw [if_pos ⟨h2, h3, h4⟩]
          refine ⟨_, Ev.step (fun k => ancepsref11_one.l1.eq_2 _ _ _ _ _ _) (Ev.bind (Ev.now' letters_f) (Ev.neg (by rw [letB_size]; omega) (Ev.pos (by omega) (Ev.bind (Ev.now' (rNucleus_f _ _ _)) (Ev.pos hn (Ev.pos (by omega) (Ev.pos (by omega) (Ev.pos (by omega) (Ev.pos (by omega) (Ev.pos rfl (Ev.bind (rValid_ev _ _ _) (Ev.now _)))))))))))), ?_⟩
          rw [hb, w64 (i := bt r 1) (by omega) (by omega), w64 (by omega) (by omega)]
          exact told_fin _ _ _
        · rw [if_neg (fun z => h4 z.2.2)]
          exact ⟨_, Ev.step (fun k => ancepsref11_one.l1.eq_2 _ _ _ _ _ _) (Ev.bind (Ev.now' letters_f) (Ev.neg (by rw [letB_size]; omega) (Ev.pos (by omega) (Ev.bind (Ev.now' (rNucleus_f _ _ _)) (Ev.pos hn (Ev.pos (by omega) (Ev.pos (by omega) (Ev.pos (by omega) (Ev.neg (by omega) (Ev.neg (fun z => by have := hnil.1 z; omega) (Ev.now _))))))))))), no _⟩
      · rw [if_neg (fun z => h3 z.2.1)]
        exact ⟨_, Ev.step (fun k => ancepsref11_one.l1.eq_2 _ _ _ _ _ _) (Ev.bind (Ev.now' letters_f) (Ev.neg (by rw [letB_size]; omega) (Ev.pos (by omega) (Ev.bind (Ev.now' (rNucleus_f _ _ _)) (Ev.pos hn (Ev.pos (by omega) (Ev.pos (by omega) (Ev.neg (by omega) (Ev.neg (fun z => by have := hnil.1 z; omega) (Ev.now _)))))))))), no _⟩
    · rw [if_neg (fun z => h2 z.1)]
      by_cases h1 : r.size = 1
      · refine ⟨_, Ev.step (fun k => ancepsref11_one.l1.eq_2 _ _ _ _ _ _) (Ev.bind (Ev.now' letters_f) (Ev.neg (by rw [letB_size]; omega) (Ev.pos (by omega) (Ev.bind (Ev.now' (rNucleus_f _ _ _)) (Ev.pos hn (Ev.neg (by omega) (Ev.pos (hnil.2 h1) (Ev.bind (rValid_ev _ _ _) (Ev.now _))))))))), ?_⟩
        rw [fin1_nuc a t hn]
        exact no _
      · exact ⟨_, Ev.step (fun k => ancepsref11_one.l1.eq_2 _ _ _ _ _ _) (Ev.bind (Ev.now' letters_f) (Ev.neg (by rw [letB_size]; omega) (Ev.pos (by omega) (Ev.bind (Ev.now' (rNucleus_f _ _ _)) (Ev.pos hn (Ev.neg (by omega) (Ev.neg (fun z => h1 (hnil.1 z)) (Ev.now _)))))))), no _⟩
  · rw [if_neg hn]
    by_cases h1 : r.size = 1
    · rw [if_pos h1]
      exact ⟨_, Ev.step (fun k => ancepsref11_one.l1.eq_2 _ _ _ _ _ _) (Ev.bind (Ev.now' letters_f) (Ev.neg (by rw [letB_size]; omega) (Ev.pos (by omega) (Ev.bind (Ev.now' (rNucleus_f _ _ _)) (Ev.neg hn (Ev.pos (hnil.2 h1) (Ev.bind (rValid_ev _ _ _) (Ev.now _)))))))), told_fin _ _ _⟩
    · rw [if_neg h1]
      exact ⟨_, Ev.step (fun k => ancepsref11_one.l1.eq_2 _ _ _ _ _ _) (Ev.bind (Ev.now' letters_f) (Ev.neg (by rw [letB_size]; omega) (Ev.pos (by omega) (Ev.bind (Ev.now' (rNucleus_f _ _ _)) (Ev.neg hn (Ev.neg (fun z => h1 (hnil.1 z)) (Ev.now _))))))), no _⟩
theorem one_l1 (t r : ByteArray) (hr : r.size ≠ 0) (hs : r.size ≤ 4000) : ∀ (d : Nat) (a : Int), d ≤ 9 → ∃ v, Ev (fun k => ancepsref11_one.l1 k r ((10 - d : Nat) : Int) a 0 t) v ∧ Lem.Told (readK (kf d a (bt r 0)) t r) v
  | 0, a, _ => one_tail a t r hr hs
  | d + 1, a, hd => by
    obtain ⟨v, h1, h2⟩ := one_l1 t r hr hs d (if bt letB ((9 - d : Nat) : Int) = bt r 0 then ((9 - d : Nat) : Int) else a) (by omega)
    refine ⟨v, ?_, h2⟩
    refine Ev.step (fun k => ancepsref11_one.l1.eq_2 _ _ _ _ _ _) (Ev.bind (Ev.now' letters_f) (Ev.pos (by rw [letB_size]; omega) (Ev.bind (Ev.now' letters_f) (Ev.pos (by omega) (Ev.pos (by rw [letB_size]; omega) (Ev.pos (by omega) ?_))))))
    rw [w64 (by omega) (by omega), show ((10 - (d + 1) : Nat) : Int) = ((9 - d : Nat) : Int) by omega, show ((9 - d : Nat) : Int) + 1 = ((10 - d : Nat) : Int) by omega]
    by_cases h : bt letB ((9 - d : Nat) : Int) = bt r 0
    · rw [if_pos h] at h1; exact Ev.pos h h1
    · rw [if_neg h] at h1; exact Ev.neg h h1
theorem one_l0 (s : ByteArray) (hs : s.size ≤ 4000) (d : Nat) : ∀ i : Nat, i + d = s.size → (∀ j, j < i → s.data.toList[j]? ≠ some 47) → ∃ v, Ev (fun k => ancepsref11_one.l0 k s (i : Int)) v ∧ Lem.Told (parse1 s) v := by
  have hl : s.data.toList.length = s.size := dlen s
  induction d with
  | zero =>
    intro i hi hno
    have hx : Lib.indexByte s.data.toList 47 = -1 := by
      have hr := indexByte_range s.data.toList 47
      by_cases h1 : Lib.indexByte s.data.toList 47 = -1
      · exact h1
      · obtain ⟨o, ho⟩ : ∃ o : Nat, Lib.indexByte s.data.toList 47 = o := ⟨(Lib.indexByte s.data.toList 47).toNat, by omega⟩
        have h2 := (Lib.indexByte_some ho).1
        have h3 := (List.getElem?_eq_some_iff.1 h2).1
        exact absurd h2 (hno o (by omega))
    have hp : parse1 s = none := by
      unfold parse1 strings_Cut.at1
      simp [hx]
    rw [hp]
    exact ⟨_, Ev.step (fun k => ancepsref11_one.l0.eq_2 _ _ _) (Ev.neg (by omega) (Ev.step (fun k => ancepsref11_one.j1.eq_2 _ _ _) (Ev.neg (by omega) (Ev.step (fun k => ancepsref11_one.j2.eq_2 _ _ _ _) (Ev.pos (list_nil.2 rfl) (Ev.now _)))))), rfl⟩
  | succ d ih =>
    intro i hi hno
    have hlt : i < s.data.toList.length := by omega
    have hb := bt_data s i hlt
    by_cases h : bt s (i : Int) = 47
    · have hc : s.data.toList[i] = 47 := UInt8.toNat_inj.1 (by rw [hb] at h; show s.data.toList[i].toNat = 47; omega)
      have hx : Lib.indexByte s.data.toList 47 = (i : Int) := by
        have hr := indexByte_range s.data.toList 47
        have hi2 : s.data.toList[i]? = some 47 := by rw [List.getElem?_eq_getElem hlt, hc]
        by_cases h1 : Lib.indexByte s.data.toList 47 = -1
        · exact absurd hi2 (Lib.indexByte_none h1 i)
        · obtain ⟨o, ho⟩ : ∃ o : Nat, Lib.indexByte s.data.toList 47 = o := ⟨(Lib.indexByte s.data.toList 47).toNat, by omega⟩
          obtain ⟨h2, h3⟩ := Lib.indexByte_some ho
          rw [ho]
          rcases Nat.lt_trichotomy o i with h4 | h4 | h4
          · exact absurd h2 (hno o h4)
          · omega
          · exact absurd hi2 (h3 i h4)
      have hp : parse1 s = readR (s.extract 0 i) (s.extract (i + 1) s.size) := by
        unfold parse1 strings_Cut.at1
        simp [hx]
      have hrs : (s.extract (i + 1) s.size).size ≤ 4000 := by rw [extract_size]; omega
      have hw : wrap64 ((i : Int) + 1) = ((i + 1 : Nat) : Int) := by rw [w64 (by omega) (by omega)]; omega
      have hgo : ∀ v, Ev (fun k => ancepsref11_one.j2 k s (i : Int) (s.extract (i + 1) s.size)) v → Ev (fun k => ancepsref11_one.l0 k s (i : Int)) v := by
        intro v hv
        refine Ev.step (fun k => ancepsref11_one.l0.eq_2 _ _ _) (Ev.pos (by omega) (Ev.pos (by omega) (Ev.pos h (Ev.step (fun k => ancepsref11_one.j1.eq_2 _ _ _) (Ev.pos (by omega) ?_)))))
        rw [hw, Int.toNat_natCast]
        exact Ev.pos (by omega) (Ev.pos (by omega) hv)
      rw [hp]
      by_cases h0 : (s.extract (i + 1) s.size).size = 0
      · refine ⟨_, hgo _ (Ev.step (fun k => ancepsref11_one.j2.eq_2 _ _ _ _) (Ev.pos (list_nil.2 h0) (Ev.now _))), ?_⟩
        unfold Lem.Told readR
        rw [if_pos h0]; rfl
      · obtain ⟨n, hn⟩ := byte_fin (Lem.bt_range (s.extract (i + 1) s.size) 0)
        obtain ⟨v, h1, h2⟩ := one_l1 (s.extract 0 i) (s.extract (i + 1) s.size) h0 hrs 9 0 (by omega)
        rw [hn, kf_kd n, ← hn, ← readR_K _ _ h0] at h2
        refine ⟨v, hgo v (Ev.step (fun k => ancepsref11_one.j2.eq_2 _ _ _ _) (Ev.neg (fun z => h0 (list_nil.1 z)) (Ev.pos (by omega) (Ev.pos (by omega) ?_)))), h2⟩
        rw [Int.toNat_natCast]
        exact h1
    · obtain ⟨v, h1, h2⟩ := ih (i + 1) (by omega) (fun j hj => by
        rcases Nat.lt_or_ge j i with h3 | h3
        · exact hno j h3
        · obtain rfl : j = i := by omega
          rw [List.getElem?_eq_getElem hlt]
          intro e
          rw [hb, Option.some.inj e] at h
          exact h rfl)
      refine ⟨v, Ev.step (fun k => ancepsref11_one.l0.eq_2 _ _ _) (Ev.pos (by omega) (Ev.pos (by omega) (Ev.neg h ?_))), h2⟩
      rw [w64 (by omega) (by omega)]
      exact h1
theorem one_ev (s : ByteArray) (hs : s.size ≤ 4000) : ∃ v, Ev (fun k => ancepsref11_one.f k s) v ∧ Lem.Told (parse1 s) v :=
  one_l0 s hs s.size 0 (by omega) (fun j hj => by omega)
theorem rParse_loop (ws : List ByteArray) (hl : ws.length ≤ 100000) (hw : ∀ w ∈ ws, w.size ≤ 4000) (d : Nat) : ∀ (i : Nat) (a : List S23), i + d = ws.length → a.length ≤ i → Ev (fun k => ancepsref11_Parse.l0 k a ws (i : Int)) (finP ((parseL (ws.drop i)).map (a ++ ·))) := by
  induction d with
  | zero =>
    intro i a hi ha
    rw [List.drop_of_length_le (by omega)]
    refine Ev.step (fun k => rfl) (Ev.neg (by omega) ?_)
    unfold parseL finP
    simp only [Option.map_some, List.append_nil]
    refine Ev.cond (fun h => ?_) (fun h => ?_)
    · rw [if_pos (by omega)]; exact Ev.now _
    · rw [if_neg (by omega)]; exact Ev.now _
  | succ d ih =>
    intro i a hi ha
    have hlt : i < ws.length := by omega
    rw [List.drop_eq_getElem_cons hlt]
    obtain ⟨v, h1, h2⟩ := one_ev ws[i] (hw _ (List.getElem_mem hlt))
    rw [← rdB_at ws i hlt] at h1
    refine Ev.step (fun k => rfl) (Ev.pos (by omega) (Ev.pos (by omega) (Ev.bind h1 (Ev.cond (fun h => ?_) (fun h => ?_)))))
    · have he : parse1 ws[i] = some ⟨v.1, v.2.1, v.2.2.1⟩ := by rw [h2, if_pos h]
      refine Ev.pos (by omega) ?_
      rw [parseL, he, w64 (by omega) (by omega)]
      have := ih (i + 1) (a ++ [⟨v.1, v.2.1, v.2.2.1⟩]) (by omega) (by rw [List.length_append]; simp; omega)
      rw [show Option.map (a ++ ·) (Option.map (fun x => (⟨v.1, v.2.1, v.2.2.1⟩ : S23) :: x) (parseL (ws.drop (i + 1)))) = Option.map ((a ++ [⟨v.1, v.2.1, v.2.2.1⟩]) ++ ·) (parseL (ws.drop (i + 1))) by
        cases parseL (ws.drop (i + 1)) <;> simp]
      exact this
    · have he : parse1 ws[i] = none := by rw [h2, if_neg h]
      rw [parseL, he]
      exact Ev.now _
theorem rParse_ev (s : ByteArray) : Ev (fun k => ancepsref11_Parse.f k s) (parseS s) := by
  unfold ancepsref11_Parse.f parseS
  by_cases h0 : 4000 < s.size
  · rw [if_pos h0]; exact Ev.pos (by omega) (Ev.now _)
  · rw [if_neg h0]
    refine Ev.neg (by omega) ?_
    by_cases h1 : s.size = 0
    · rw [if_pos h1]; exact Ev.pos (list_nil.2 h1) (Ev.now _)
    · rw [if_neg h1]
      obtain ⟨h2, _⟩ := piecesB_ok s (by omega)
      have h3 : ∀ w ∈ piecesB s, w.size ≤ 4000 := by
        intro w hw
        obtain ⟨u, hu, rfl⟩ := List.mem_map.1 hw
        rw [mkB_size]
        have := pieces_size 32 _ u hu
        rw [dlen] at this
        omega
      refine Ev.neg (fun z => h1 (list_nil.1 z)) (Ev.bind (split_ev s (by omega)) ?_)
      have := rParse_loop (piecesB s) h2 h3 (piecesB s).length 0 [] (by omega) (by simp)
      rw [List.drop_zero] at this
      simpa using this
theorem parseS_len (s : ByteArray) : (parseS s).1.length ≤ 200 := by
  by_cases h : (parseS s).2 = 0
  · exact (parse_ok h).1
  · rw [parse_errl h]; simp
theorem parse_j0 (s : ByteArray) (x : Bool) : Ev (fun k => ancepslaw11_SoundParse.j0 k s x) true := by
  refine Ev.step (fun k => ancepslaw11_SoundParse.j0.eq_2 _ _ _) (Ev.cond (fun h => Ev.bind awake_ev (Ev.now _)) (fun h => ?_))
  have hl := parseS_len s
  have hsame := same_self (parseS s).1 (by omega)
  refine Ev.bind (parse_ev s) (Ev.bind (rParse_ev s) (Ev.pos rfl (Ev.bind hsame (Ev.pos rfl (Ev.step (fun k => ancepslaw11_SoundParse.j1.eq_2 _ _ _ _ _ _ _) (Ev.cond (fun h => Ev.pos rfl (Ev.bind hsame (Ev.now _))) (fun h => ?_)))))))
  have h0 : (parseS s).2 = 0 := by simpa using h
  obtain ⟨q1, q2, q3⟩ := parse_ok h0
  have hf : fmtS (parseS s).1 = (s, 0) := by
    unfold fmtS
    rw [if_neg (by omega), if_pos (errF_zero.2 q2), q3]
  have he := format_ev (parseS s).1
  rw [hf] at he
  exact Ev.bind he (Ev.pos rfl (Ev.val (by simp)))
theorem SoundParse : ancepslaw11_SoundParse.Pure := by
  intro s _
  refine Ev.rounds ?_
  unfold ancepslaw11_SoundParse.f
  exact Ev.bind awake_ev (Ev.pos rfl (parse_j0 s _))
end Go.Proofs.YtnjiniegpjfemaaDoor.Pure
