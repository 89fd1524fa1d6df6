/- Plain lemmas of chapter 57: Collate: the apparatus of the texts of witnesses, and the reference's; each witness has its text there. -/
import Derived.Test.YtmjigfoldeekmaaV5
import Derived.Test.YtmjigfoldeekmaaVE
import Derived.Test.YtmjigfoldeekmaaX7
import Derived.Test.YtmjigfoldeekmaaX22
import Derived.Test.YtmjigfoldeekmaaX20
import Derived.Test.YtmjigfoldeekmaaX23
namespace Go.Proofs.Ytmjigfoldeekmaa.Lem
open Go.RowKit Go.Proofs.Ytmjigfoldeekmaa.X Go.Proofs.YtmjigfoldeekmaaW.PrintWords Go.Proofs.YtmjigfoldeekmaaW.PrintLast
theorem rdC (l : List (List ByteArray)) (i : Nat) : apparatus_Collate.rdL l (i : Int) = l.getD i [] := by unfold apparatus_Collate.rdL; rw [Int.toNat_natCast]
theorem rdG (l : List (List ByteArray)) (i : Nat) : rd_L8 l (i : Int) = l.getD i [] := by unfold rd_L8; rw [Int.toNat_natCast]
theorem rdC0 (l : List (List ByteArray)) : apparatus_Collate.rdL l 0 = l.getD 0 [] := rdC l 0
theorem rdG0 (l : List (List ByteArray)) : rd_L8 l 0 = l.getD 0 [] := rdG l 0
def cellT (texts : List (List ByteArray)) (i w : Nat) : ByteArray := (texts.getD w []).getD i ByteArray.empty
def rowC (texts : List (List ByteArray)) (i : Nat) : S65 := ⟨cellT texts i 0, colF (cellT texts i) (cellT texts i 0) texts.length 0 []⟩
def rowsC (texts : List (List ByteArray)) (L : Nat) : List S65 := (List.range L).map (rowC texts)
/-- All texts have as many lines as the first one. -/
def sameT (texts : List (List ByteArray)) (l : List (List ByteArray)) : Bool := l.all (fun x => decide (x.length = (texts.getD 0 []).length))
theorem sameT_at {texts : List (List ByteArray)} (h : sameT texts texts = true) {j : Nat} (hj : j < texts.length) : (texts.getD j []).length = (texts.getD 0 []).length := of_decide_eq_true (List.all_eq_true.1 h _ (getD_in _ _ hj))
/-! the code -/
theorem i0_loop (texts : List (List ByteArray)) (ht : texts.length ≤ 1000000) (d : Nat) : ∀ i : Nat, i + d = texts.length → ∃ r, Ev (fun k => apparatus_Collate.i0 k texts (i : Int)) r ∧ (0 ≤ r ↔ sameT texts (texts.drop i) = false) := by
  induction d with
  | zero =>
    intro i hi
    refine ⟨-1, Ev.step (fun k => apparatus_Collate.i0.eq_2 _ _ _) (Ev.neg (by omega) (Ev.val rfl)), ?_⟩
    rw [List.drop_of_length_le (by omega)]
    simp [sameT]
  | succ d ih =>
    intro i hi
    rw [drop_getD texts [] (by omega)]
    obtain ⟨r, hr, hr2⟩ := ih (i + 1) (by omega)
    by_cases h : (texts.getD i []).length = (texts.getD 0 []).length
    · refine ⟨r, Ev.step (fun k => apparatus_Collate.i0.eq_2 _ _ _) (Ev.pos (by omega) (Ev.pos (by omega) ?_)), ?_⟩
      · rw [rdC, rdC0, h, w64 (by omega) (by omega)]
        exact Ev.neg (by simp) hr
      · unfold sameT at hr2 ⊢
        rw [List.all_cons, decide_eq_true h, Bool.true_and]
        exact hr2
    · refine ⟨i, Ev.step (fun k => apparatus_Collate.i0.eq_2 _ _ _) (Ev.pos (by omega) (Ev.pos (by omega) ?_)), ?_⟩
      · rw [rdC, rdC0]
        refine Ev.pos ?_ (Ev.val rfl)
        rw [bne_iff_ne]
        omega
      · unfold sameT
        rw [List.all_cons, decide_eq_false h, Bool.false_and]
        simp
def vS : List ByteArray → Int
  | [] => 0
  | x :: l => if validS x = 0 then vS l else validS x
theorem vS_app : ∀ a b : List ByteArray, vS (a ++ b) = if vS a = 0 then vS b else vS a
  | [], b => by rw [vS, if_pos rfl]; rfl
  | x :: a, b => by
    rw [List.cons_append, vS, vS, vS_app a b]
    by_cases h : validS x = 0
    · rw [if_pos h, if_pos h]
    · rw [if_neg h, if_neg h, if_neg h]
theorem vS_mem : ∀ {l : List ByteArray}, vS l = 0 → ∀ x ∈ l, validS x = 0
  | y :: l, h, x, hx => by
    rw [vS] at h
    by_cases e : validS y = 0
    · rw [if_pos e] at h
      rcases List.mem_cons.1 hx with rfl | hx
      · exact e
      · exact vS_mem h x hx
    · rw [if_neg e] at h; exact absurd h e
theorem v0_loop (l : List ByteArray) (hs : Small l) (hl : l.length ≤ 1000000) (d : Nat) : ∀ i : Nat, i + d = l.length → Ev (fun k => apparatus_Collate.v0 k l (i : Int)) (vS (l.drop i)) := by
  induction d with
  | zero =>
    intro i hi
    rw [List.drop_of_length_le (by omega)]
    exact Ev.step (fun k => apparatus_Collate.v0.eq_2 _ _ _) (Ev.neg (by omega) (Ev.val rfl))
  | succ d ih =>
    intro i hi
    rw [drop_getD l ByteArray.empty (by omega), vS]
    refine Ev.step (fun k => apparatus_Collate.v0.eq_2 _ _ _) (Ev.pos (by omega) (Ev.pos (by omega) ?_))
    rw [rdOf_getD, w64 (by omega) (by omega)]
    refine Ev.bind (valid_ev _ (hs.at_ (by omega))) (Ev.cond (fun h => ?_) (fun h => Ev.val (by rw [if_neg h])))
    rw [if_pos h]
    exact ih (i + 1) (by omega)
theorem p0_loop (texts : List (List ByteArray)) (ht : texts.length ≤ 60) (i : Nat) (hi : ∀ j, j < texts.length → i < (texts.getD j []).length) (t : ByteArray) (d : Nat) : ∀ (j : Nat) (l : List S67), j + d = texts.length → l.length ≤ j → Ev (fun k => apparatus_Collate.p0 k texts t (i : Int) (j : Int) l) (colF (cellT texts i) t d j l) := by
  induction d with
  | zero =>
    intro j l hj hl
    exact Ev.step (fun k => apparatus_Collate.p0.eq_2 _ _ _ _ _ _) (Ev.neg (by omega) (Ev.val rfl))
  | succ d ih =>
    intro j l hj hl
    have h1 := hi j (by omega)
    refine Ev.step (fun k => apparatus_Collate.p0.eq_2 _ _ _ _ _ _) (Ev.pos (by omega) (Ev.pos (by omega) ?_))
    rw [rdC, rdOf_getD, w64 (by omega) (by omega)]
    refine Ev.pos ⟨by omega, by omega⟩ (Ev.bind (put_ev t _ j (by omega) l (by omega)) ?_)
    exact ih (j + 1) _ (by omega) (by have := putS_len t (cellT texts i j) j l; unfold cellT at this; omega)
theorem rowsC_succ (texts : List (List ByteArray)) (i : Nat) : rowsC texts (i + 1) = rowsC texts i ++ [rowC texts i] := by
  unfold rowsC; rw [List.range_succ, List.map_append]; rfl
theorem r0_loop (texts : List (List ByteArray)) (ht : texts.length ≤ 60) (hs : sameT texts texts = true) (hL : (texts.getD 0 []).length ≤ 200) (d : Nat) : ∀ i : Nat, i + d = (texts.getD 0 []).length → Ev (fun k => apparatus_Collate.r0 k texts (i : Int) (rowsC texts i)) (rowsC texts (texts.getD 0 []).length) := by
  induction d with
  | zero =>
    intro i hi
    obtain rfl : i = (texts.getD 0 []).length := by omega
    refine Ev.step (fun k => apparatus_Collate.r0.eq_2 _ _ _ _) ?_
    rw [rdC0]
    exact Ev.neg (by omega) (Ev.val rfl)
  | succ d ih =>
    intro i hi
    refine Ev.step (fun k => apparatus_Collate.r0.eq_2 _ _ _ _) ?_
    rw [rdC0, rdOf_getD, w64 (by omega) (by omega)]
    refine Ev.pos (by omega) (Ev.pos ⟨by omega, by unfold rowsC; rw [List.length_map, List.length_range]; omega⟩ ?_)
    have hp := p0_loop texts ht i (fun j hj => by rw [sameT_at hs hj]; omega) ((texts.getD 0 []).getD i ByteArray.empty) texts.length 0 [] (by omega) (Nat.le_refl _)
    refine Ev.bind hp ?_
    have := ih (i + 1) (by omega)
    rw [rowsC_succ] at this
    exact this
def collS (ws : List ByteArray) (texts : List (List ByteArray)) : List ByteArray × List S65 × Int :=
  if namesS ws = 0 then (if texts.length = ws.length then (if sameT texts texts = true then (if 200 < (texts.getD 0 []).length then ([], [], 3) else if vS texts.flatten = 0 then (ws, rowsC texts (texts.getD 0 []).length, 0) else ([], [], vS texts.flatten)) else ([], [], 6)) else ([], [], 6)) else ([], [], namesS ws)
theorem clone_eq (l : List ByteArray) (h : l.length ≤ 1000000) : slices_Clone_string_string.f l = some l := by
  unfold slices_Clone_string_string.f
  rw [Option.bind_some, if_pos (by rw [List.length_nil]; omega), List.nil_append]
structure TextsOk (texts : List (List ByteArray)) : Prop where
  len : texts.length ≤ 1000000
  flat : texts.flatten.length ≤ 1000000
  small : Small texts.flatten
theorem coll_ev (ws : List ByteArray) (texts : List (List ByteArray)) (hw : Small ws) (hwl : ws.length ≤ 1000000) (ht : TextsOk texts) : Ev (fun k => apparatus_Collate.f k ws texts) (collS ws texts) := by
  unfold apparatus_Collate.f collS
  refine Ev.bind (names_ev ws hw hwl) (Ev.cond (fun h => ?_) (fun h => Ev.val (by rw [if_neg h])))
  have hn := namesS_len h
  rw [if_pos h]
  refine Ev.cond (fun h1 => ?_) (fun h1 => Ev.val (by rw [if_neg (by omega)]))
  rw [if_pos (by omega)]
  refine Ev.pos (by omega) ?_
  obtain ⟨r, hr, hr2⟩ := i0_loop texts ht.len texts.length 0 (by omega)
  rw [List.drop_zero] at hr2
  refine Ev.bind hr ?_
  by_cases h2 : sameT texts texts = true
  · rw [if_pos h2]
    refine Ev.neg (fun e => by rw [hr2.1 e] at h2; cases h2) ?_
    rw [rdC0]
    refine Ev.cond (fun h3 => Ev.val (by rw [if_pos (by omega)])) (fun h3 => ?_)
    rw [if_neg (by omega)]
    have hc : slices_Concat_string_string.f texts = some texts.flatten := by
      unfold slices_Concat_string_string.f
      rw [if_pos ⟨ht.flat, ht.len⟩]
    refine Ev.bind (Ev.now' hc) ?_
    have hv := v0_loop texts.flatten ht.small ht.flat texts.flatten.length 0 (by omega)
    rw [List.drop_zero] at hv
    refine Ev.bind hv (Ev.cond (fun h4 => ?_) (fun h4 => Ev.val (by rw [if_neg h4])))
    rw [if_pos h4]
    exact Ev.bind (Ev.now' (clone_eq ws hwl)) (Ev.bind (r0_loop texts (by omega) h2 (by omega) _ 0 (Nat.zero_add _)) (Ev.val rfl))
  · rw [if_neg h2]
    exact Ev.pos (hr2.2 (by simpa using h2)) (Ev.val rfl)
/-! the reference's errors -/
def givenS (ws : List ByteArray) (texts : List (List ByteArray)) : Int :=
  if namesS ws = 0 then (if texts.length = ws.length then (if sameT texts texts = true then (if 200 < (texts.getD 0 []).length then 3 else vS texts.flatten) else 6) else 6) else namesS ws
theorem g0_loop (texts : List (List ByteArray)) (ht : texts.length ≤ 1000000) (h0 : 0 < texts.length) (r : Int) (hr : Ev (fun k => if ((texts.getD 0 []).length : Int) > 200 then some 3 else ancepsref57_given.l1 k texts 0) r) (d : Nat) : ∀ i : Nat, i + d = texts.length → Ev (fun k => ancepsref57_given.l0 k texts (i : Int)) (if sameT texts (texts.drop i) = true then r else 6) := by
  induction d with
  | zero =>
    intro i hi
    rw [List.drop_of_length_le (by omega), if_pos (by simp [sameT])]
    refine Ev.step (fun k => ancepsref57_given.l0.eq_2 _ _ _) (Ev.neg (by omega) (Ev.pos (by omega) ?_))
    rw [rdG0]
    exact hr
  | succ d ih =>
    intro i hi
    rw [drop_getD texts [] (by omega)]
    refine Ev.step (fun k => ancepsref57_given.l0.eq_2 _ _ _) (Ev.pos (by omega) (Ev.pos (by omega) (Ev.pos (by omega) ?_)))
    rw [rdG, rdG0, w64 (by omega) (by omega)]
    unfold sameT
    rw [List.all_cons]
    refine Ev.cond (fun h => ?_) (fun h => Ev.val ?_)
    · rw [decide_eq_true (show (texts.getD i []).length = (texts.getD 0 []).length by omega), Bool.true_and]
      exact ih (i + 1) (by omega)
    · rw [decide_eq_false (show ¬ (texts.getD i []).length = (texts.getD 0 []).length by omega), Bool.false_and, if_neg Bool.false_ne_true]
theorem flat_small {texts : List (List ByteArray)} (ht : TextsOk texts) {i : Nat} (hi : i < texts.length) : Small (texts.getD i []) ∧ (texts.getD i []).length ≤ 1000000 := by
  have hm := getD_in texts [] hi
  refine ⟨fun x hx => ht.small x (List.mem_flatten.2 ⟨_, hm, hx⟩), ?_⟩
  have := (List.sublist_flatten_of_mem hm).length_le
  have := ht.flat
  omega
theorem g2_loop (texts : List (List ByteArray)) (ht : TextsOk texts) (i : Nat) (hi : i < texts.length) (r : Int) (hr : Ev (fun k => ancepsref57_given.l1 k texts ((i : Int) + 1)) r) (d : Nat) : ∀ j : Nat, j + d = (texts.getD i []).length → Ev (fun k => ancepsref57_given.l2 k texts (i : Int) (j : Int)) (if vS ((texts.getD i []).drop j) = 0 then r else vS ((texts.getD i []).drop j)) := by
  obtain ⟨hs, hl⟩ := flat_small ht hi
  have htl := ht.len
  induction d with
  | zero =>
    intro j hj
    rw [List.drop_of_length_le (by omega), vS, if_pos rfl]
    refine Ev.step (fun k => ancepsref57_given.l2.eq_2 _ _ _ _) (Ev.pos (by omega) (Ev.pos (by omega) ?_))
    rw [rdG, w64 (i := (i : Int) + 1) (by omega) (by omega)]
    exact Ev.neg (by omega) hr
  | succ d ih =>
    intro j hj
    rw [drop_getD (texts.getD i []) ByteArray.empty (by omega), vS]
    refine Ev.step (fun k => ancepsref57_given.l2.eq_2 _ _ _ _) (Ev.pos (by omega) (Ev.pos (by omega) ?_))
    rw [rdG, rdOf_getD, w64 (i := (j : Int) + 1) (by omega) (by omega)]
    refine Ev.pos (by omega) (Ev.pos (by omega) (Ev.bind (rvalid_ev _ (hs.at_ (by omega))) (Ev.cond (fun h => ?_) (fun h => Ev.val ?_))))
    · rw [if_pos h]
      exact ih (j + 1) (by omega)
    · rw [if_neg h, if_neg h]
theorem g1_loop (texts : List (List ByteArray)) (ht : TextsOk texts) (d : Nat) : ∀ i : Nat, i + d = texts.length → Ev (fun k => ancepsref57_given.l1 k texts (i : Int)) (vS (texts.drop i).flatten) := by
  induction d with
  | zero =>
    intro i hi
    rw [List.drop_of_length_le (by omega)]
    exact Ev.step (fun k => ancepsref57_given.l1.eq_2 _ _ _) (Ev.neg (by omega) (Ev.val rfl))
  | succ d ih =>
    intro i hi
    rw [drop_getD texts [] (by omega), List.flatten_cons, vS_app]
    refine Ev.step (fun k => ancepsref57_given.l1.eq_2 _ _ _) (Ev.pos (by omega) ?_)
    have := g2_loop texts ht i (by omega) _ (ih (i + 1) (by omega)) (texts.getD i []).length 0 (by omega)
    rw [List.drop_zero] at this
    exact this
theorem given_ev (ws : List ByteArray) (texts : List (List ByteArray)) (hw : Small ws) (hwl : ws.length ≤ 1000000) (ht : TextsOk texts) : Ev (fun k => ancepsref57_given.f k ws texts) (givenS ws texts) := by
  unfold ancepsref57_given.f givenS
  refine Ev.bind (rnames_ev ws hw hwl) (Ev.cond (fun h => ?_) (fun h => Ev.val (by rw [if_neg h])))
  have hn := namesS_len h
  rw [if_pos h]
  refine Ev.cond (fun h1 => ?_) (fun h1 => Ev.val (by rw [if_neg (by omega)]))
  rw [if_pos (by omega)]
  have hv := g1_loop texts ht texts.length 0 (by omega)
  have := g0_loop texts ht.len (by omega) (if 200 < (texts.getD 0 []).length then 3 else vS texts.flatten) (Ev.cond (fun h => Ev.val (by rw [if_pos (by omega)])) (fun h => by rw [if_neg (by omega)]; exact hv)) texts.length 0 (by omega)
  rw [List.drop_zero] at this
  exact this
/-! the reference's rows -/
theorem rl1_loop (ws : List ByteArray) (texts : List (List ByteArray)) (he : texts.length = ws.length) (ht : texts.length ≤ 60) (i : Nat) (hi : ∀ j, j < texts.length → i < (texts.getD j []).length) (hi2 : i ≤ 1000000) (wl : List ByteArray) (rows : List S65) (hrl : rows.length ≤ 1000000) (t : ByteArray) (r : List ByteArray × List S65 × Int) (d : Nat) :
    ∀ (j : Nat) (l : List S67), j + d = texts.length → Col (cellT texts i) t j l → Ev (fun k => ancepsref57_Collate.l0 k ws texts ((i : Int) + 1) wl (rows ++ [⟨t, colF (cellT texts i) t d j l⟩])) r → Ev (fun k => ancepsref57_Collate.l1 k ws texts (i : Int) (j : Int) wl rows t l) r := by
  induction d with
  | zero =>
    intro j l hj hc h
    refine Ev.step (fun k => ancepsref57_Collate.l1.eq_2 _ _ _ _ _ _ _ _ _) (Ev.neg (by omega) (Ev.pos (by omega) ?_))
    rw [w64 (by omega) (by omega)]
    exact h
  | succ d ih =>
    intro j l hj hc h
    have h1 := hi j (by omega)
    have hl := hc.len
    refine Ev.step (fun k => ancepsref57_Collate.l1.eq_2 _ _ _ _ _ _ _ _ _) (Ev.pos (by omega) (Ev.pos (by omega) (Ev.pos (by omega) (Ev.pos (by omega) ?_))))
    rw [rdG, rdOf_getD, w64 (i := (j : Int) + 1) (by omega) (by omega)]
    exact Ev.pos (by omega) (Ev.bind (with_ev t _ j (by omega) l (by omega) hc.dis) (ih (j + 1) _ (by omega) (hc.next (by omega)) h))
theorem rl0_loop (ws : List ByteArray) (texts : List (List ByteArray)) (he : texts.length = ws.length) (ht : texts.length ≤ 60) (h0 : 0 < texts.length) (hs : sameT texts texts = true) (hL : (texts.getD 0 []).length ≤ 200) (wl : List ByteArray) (d : Nat) : ∀ i : Nat, i + d = (texts.getD 0 []).length → Ev (fun k => ancepsref57_Collate.l0 k ws texts (i : Int) wl (rowsC texts i)) (wl, rowsC texts (texts.getD 0 []).length, 0) := by
  induction d with
  | zero =>
    intro i hi
    obtain rfl : i = (texts.getD 0 []).length := by omega
    refine Ev.step (fun k => ancepsref57_Collate.l0.eq_2 _ _ _ _ _ _) (Ev.pos (by omega) ?_)
    rw [rdG0]
    exact Ev.neg (by omega) (Ev.val rfl)
  | succ d ih =>
    intro i hi
    refine Ev.step (fun k => ancepsref57_Collate.l0.eq_2 _ _ _ _ _ _) (Ev.pos (by omega) ?_)
    rw [rdG0, rdOf_getD]
    refine Ev.pos (by omega) (Ev.pos (by omega) ?_)
    have hput : putS (cellT texts i 0) (cellT texts i 0) 0 [] = [] := by unfold putS; rw [if_pos rfl]
    have hc : Col (cellT texts i) (cellT texts i 0) 1 [] := by
      have := (Col.nil (cellT texts i) (cellT texts i 0)).next (by omega)
      rw [hput] at this
      exact this
    refine rl1_loop ws texts he ht i (fun j hj => by rw [sameT_at hs hj]; omega) (by omega) wl _ (by unfold rowsC; rw [List.length_map, List.length_range]; omega) _ _ (texts.length - 1) 1 [] (by omega) hc ?_
    have := ih (i + 1) (by omega)
    rw [rowsC_succ] at this
    have e : rowC texts i = ⟨cellT texts i 0, colF (cellT texts i) (cellT texts i 0) (texts.length - 1) 1 []⟩ := by
      unfold rowC
      obtain ⟨n, hn⟩ : ∃ n, texts.length = n + 1 := ⟨texts.length - 1, by omega⟩
      rw [hn, colF, hput]; rfl
    rw [e] at this
    exact this
theorem rcoll_ev (ws : List ByteArray) (texts : List (List ByteArray)) (hw : Small ws) (hwl : ws.length ≤ 1000000) (ht : TextsOk texts) : Ev (fun k => ancepsref57_Collate.f k ws texts) (collS ws texts) := by
  unfold ancepsref57_Collate.f
  refine Ev.bind (given_ev ws texts hw hwl ht) ?_
  unfold givenS collS
  by_cases h : namesS ws = 0
  · have hn := namesS_len h
    rw [if_pos h, if_pos h]
    by_cases h1 : texts.length = ws.length
    · rw [if_pos h1, if_pos h1]
      by_cases h2 : sameT texts texts = true
      · rw [if_pos h2, if_pos h2]
        by_cases h3 : 200 < (texts.getD 0 []).length
        · rw [if_pos h3, if_pos h3]
          exact Ev.neg (by decide) (Ev.val rfl)
        · rw [if_neg h3, if_neg h3]
          refine Ev.cond (fun h4 => ?_) (fun h4 => Ev.val (by rw [if_neg h4]))
          rw [if_pos h4]
          refine Ev.just (Ev.pos (by rw [List.length_nil]; omega) ?_)
          rw [List.nil_append]
          exact rl0_loop ws texts h1 (by omega) (by omega) h2 (by omega) ws _ 0 (Nat.zero_add _)
      · rw [if_neg h2, if_neg h2]
        exact Ev.neg (by decide) (Ev.val rfl)
    · rw [if_neg h1, if_neg h1]
      exact Ev.neg (by decide) (Ev.val rfl)
  · rw [if_neg h, if_neg h]
    exact Ev.neg h (Ev.val rfl)
/-! what was collated is an apparatus, and each witness has its text -/
theorem rowC_col (texts : List (List ByteArray)) (ht : texts.length ≤ 60) (i : Nat) : Col (cellT texts i) (cellT texts i 0) texts.length (rowC texts i).f1 := by
  have := col_end texts.length (j := 0) (by omega) (Col.nil (cellT texts i) (cellT texts i 0))
  rw [Nat.zero_add] at this
  exact this
theorem rowC_size (texts : List (List ByteArray)) (ht : texts.length ≤ 60) (i : Nat) (hv : ∀ w, w < texts.length → (cellT texts i w).size ≤ 140737488355328) : SmallV (rowC texts i).f1 ∧ (rowC texts i).f1.length ≤ 1000000 := by
  have h := rowC_col texts ht i
  refine ⟨fun x hx => ?_, by have := h.len; omega⟩
  obtain ⟨w, hw, e⟩ := h.of x hx
  rw [← e]
  exact hv w hw
theorem rowsF_none (l : List S65) (n : Nat) (h : ∀ r ∈ l, rowS r.f0 r.f1 n = 0) (d : Nat) : ∀ i, i + d = l.length → rowsF l n d i = 0 := by
  induction d with
  | zero => intro i _; rfl
  | succ d ih =>
    intro i hi
    rw [rowsF, if_pos (h _ (getD_in l _ (by omega)))]
    exact ih (i + 1) (by omega)
theorem cell_valid {texts : List (List ByteArray)} (hs : sameT texts texts = true) (hv : vS texts.flatten = 0) {i w : Nat} (hi : i < (texts.getD 0 []).length) (hw : w < texts.length) : validS (cellT texts i w) = 0 ∧ cellT texts i w ∈ texts.flatten := by
  have hm : cellT texts i w ∈ texts.flatten := by
    refine List.mem_flatten.2 ⟨_, getD_in texts [] hw, ?_⟩
    unfold cellT
    exact getD_in _ _ (by rw [sameT_at hs hw]; exact hi)
  exact ⟨vS_mem hv _ hm, hm⟩
theorem coll_valid {ws : List ByteArray} {texts : List (List ByteArray)} (hn : namesS ws = 0) (he : texts.length = ws.length) (hs : sameT texts texts = true) (hL : ¬ 200 < (texts.getD 0 []).length) (hv : vS texts.flatten = 0) : appS ws (rowsC texts (texts.getD 0 []).length) = 0 := by
  have hl := namesS_len hn
  have hlen : (rowsC texts (texts.getD 0 []).length).length = (texts.getD 0 []).length := by unfold rowsC; rw [List.length_map, List.length_range]
  unfold appS
  rw [if_pos hn, if_neg (by omega)]
  refine rowsF_none _ _ (fun r hr => ?_) _ 0 (Nat.zero_add _)
  obtain ⟨i, hi, rfl⟩ := List.mem_map.1 hr
  rw [List.mem_range] at hi
  rw [← he]
  exact (rowC_col texts (by omega) i).row (by omega) (cell_valid hs hv hi (by omega)).1 (fun w hw => (cell_valid hs hv hi hw).1)
theorem coll_texts {texts : List (List ByteArray)} (ht : texts.length ≤ 60) (hs : sameT texts texts = true) {w : Nat} (hw : w < texts.length) : textsS (w : Int) (rowsC texts (texts.getD 0 []).length) = texts.getD w [] := by
  unfold textsS rowsC
  rw [List.map_map]
  refine List.ext_getElem (by rw [List.length_map, List.length_range, sameT_at hs hw]) fun i h1 h2 => ?_
  rw [List.getElem_map, List.getElem_range]
  show hasS (rowC texts i) (w : Int) = _
  unfold hasS
  have := (rowC_col texts ht i).has ht hw
  rw [← getD_lt (texts.getD w []) ByteArray.empty h2]
  exact this
/-! an apparatus is the same as itself -/
theorem same1_loop (ws : List ByteArray) (l : List S65) (i : Nat) (t : ByteArray) (v : List S67) (hv : v.length ≤ 1000000) (hi : i ≤ 1000000) (r : Bool) (hr : Ev (fun k => ancepsref57_Same.l0 k ((i : Int) + 1) ws l ws l) r) (d : Nat) : ∀ j : Nat, j + d = v.length → Ev (fun k => ancepsref57_Same.l1 k (i : Int) (j : Int) ws l ws l t v t v) r := by
  induction d with
  | zero =>
    intro j hj
    refine Ev.step (fun k => ancepsref57_Same.l1.eq_2 _ _ _ _ _ _ _ _ _ _ _) (Ev.neg (by omega) ?_)
    rw [w64 (by omega) (by omega)]
    exact hr
  | succ d ih =>
    intro j hj
    refine Ev.step (fun k => ancepsref57_Same.l1.eq_2 _ _ _ _ _ _ _ _ _ _ _) (Ev.pos (by omega) (Ev.pos (by omega) (Ev.pos (by omega) (Ev.neg (by simp) ?_))))
    rw [w64 (by omega) (by omega)]
    exact ih (j + 1) (by omega)
theorem same_loop (ws : List ByteArray) (l : List S65) (hs : SmallR l) (d : Nat) : ∀ i : Nat, i + d = l.length → Ev (fun k => ancepsref57_Same.l0 k (i : Int) ws l ws l) true := by
  have hl := hs.1
  induction d with
  | zero =>
    intro i hi
    exact Ev.step (fun k => ancepsref57_Same.l0.eq_2 _ _ _ _ _ _) (Ev.neg (by omega) (Ev.val rfl))
  | succ d ih =>
    intro i hi
    refine Ev.step (fun k => ancepsref57_Same.l0.eq_2 _ _ _ _ _ _) (Ev.pos (by omega) (Ev.pos (by omega) (Ev.pos (by omega) (Ev.pos rfl ?_))))
    refine Ev.step (fun k => ancepsref57_Same.j2.eq_2 _ _ _ _ _ _ _ _ _ _ _) (Ev.neg (by simp) ?_)
    rw [rdR]
    exact same1_loop ws l i _ _ (hs.at_ (by omega)).2.2 (by omega) true (ih (i + 1) (by omega)) _ 0 (Nat.zero_add _)
theorem same_ev (ws : List ByteArray) (l : List S65) (hwl : ws.length ≤ 1000000) (hs : SmallR l) : Ev (fun k => ancepsref57_Same.f k ws l ws l) true := by
  unfold ancepsref57_Same.f
  refine Ev.bind (equal_ev ws (by omega)) (Ev.pos rfl ?_)
  exact Ev.step (fun k => ancepsref57_Same.j0.eq_2 _ _ _ _ _ _) (Ev.neg (by simp) (same_loop ws l hs l.length 0 (by omega)))
end Go.Proofs.Ytmjigfoldeekmaa.Lem
