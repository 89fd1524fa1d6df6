/- Plain lemmas of chapter 1: lines of a text, the text of lines. -/
import Derived.Test.YteokimhjojppcaaDoorLem
import Derived.Test.YteokimhjojppcaaDoorLN
import Derived.Test.YteokimhjojppcaaDoorX7
import Derived.Test.YteokimhjojppcaaDoorX8
import Derived.Test.YteokimhjojppcaaDoorX5
namespace Go.Proofs.YteokimhjojppcaaDoor.Lem
open Go.RowKit Go.Proofs.YteokimhjojppcaaDoor.X Go.Proofs.YteokimhjojppcaaDoorW.PrintWords Go.Proofs.YteokimhjojppcaaDoorW.PrintLast
theorem rdO_at (l : List ByteArray) (i : Nat) (h : i < l.length) : rdOf ByteArray.empty l (i : Int) = l[i] := by
  unfold rdOf; rw [Int.toNat_natCast, List.getD_eq_getElem?_getD, List.getElem?_eq_getElem h]; rfl
def chk1 : List ByteArray → Int
  | [] => 0
  | s :: r => if validS s = 0 then chk1 r else validS s
def chkS (l : List ByteArray) : Int := if l.length > 400 then 3 else chk1 l
theorem checked_loop (l : List ByteArray) (hl : l.length ≤ 400) (hs : ∀ s ∈ l, s.size ≤ 140737488355328) (d : Nat) : ∀ i : Nat, i + d = l.length → Ev (fun k => text_checked.l0 k l (l.length : Int) (i : Int)) (chk1 (l.drop i)) := by
  induction d with
  | zero =>
    intro i hi
    rw [List.drop_of_length_le (by omega)]
    exact Ev.step (fun k => rfl) (Ev.neg (by omega) (Ev.val rfl))
  | succ d ih =>
    intro i hi
    have hlt : i < l.length := by omega
    rw [List.drop_eq_getElem_cons hlt, chk1]
    refine Ev.step (fun k => rfl) (Ev.pos (by omega) (Ev.pos (by omega) (Ev.pos (by omega) ?_)))
    rw [rdO_at l i hlt]
    refine Ev.bind (valid_ev l[i] (hs _ (List.getElem_mem hlt))) (Ev.cond (fun h => ?_) (fun h => Ev.val (by rw [if_neg h])))
    rw [if_pos h, w64 (by omega) (by omega)]
    exact ih (i + 1) (by omega)
theorem checked_ev (l : List ByteArray) (hs : ∀ s ∈ l, s.size ≤ 140737488355328) : Ev (fun k => text_checked.f k l) (chkS l) := by
  unfold text_checked.f chkS
  refine Ev.cond (fun h => Ev.val (by rw [if_pos (by omega)])) (fun h => ?_)
  rw [if_neg (by omega)]
  exact checked_loop l (by omega) hs l.length 0 (by omega)
theorem rlns_loop (l : List ByteArray) (hl : l.length ≤ 400) (hs : ∀ s ∈ l, s.size ≤ 140737488355328) (d : Nat) : ∀ i : Nat, i + d = l.length → Ev (fun k => ancepsref01_lines.l0 k l (i : Int)) (chk1 (l.drop i)) := by
  induction d with
  | zero =>
    intro i hi
    rw [List.drop_of_length_le (by omega)]
    exact Ev.step (fun k => rfl) (Ev.neg (by omega) (Ev.val rfl))
  | succ d ih =>
    intro i hi
    have hlt : i < l.length := by omega
    rw [List.drop_eq_getElem_cons hlt, chk1]
    refine Ev.step (fun k => rfl) (Ev.pos (by omega) (Ev.pos (by omega) ?_))
    rw [rdO_at l i hlt]
    refine Ev.bind (rvalid_ev l[i] (hs _ (List.getElem_mem hlt))) (Ev.cond (fun h => ?_) (fun h => Ev.val (by rw [if_neg h])))
    rw [if_pos h, w64 (by omega) (by omega)]
    exact ih (i + 1) (by omega)
theorem rlns_ev (l : List ByteArray) (hs : ∀ s ∈ l, s.size ≤ 140737488355328) : Ev (fun k => ancepsref01_lines.f k l) (chkS l) := by
  unfold ancepsref01_lines.f chkS
  refine Ev.cond (fun h => Ev.val (by rw [if_pos (by omega)])) (fun h => ?_)
  rw [if_neg (by omega)]
  exact rlns_loop l (by omega) hs l.length 0 (by omega)
theorem pcs_small {l x : List UInt8} (h : x ∈ pcs l) : x.length ≤ l.length := by
  induction l generalizing x with
  | nil =>
    rw [pcs_nil, List.mem_singleton] at h
    rw [h]; exact Nat.le_refl _
  | cons c r ih =>
    by_cases hc : c = 10
    · rw [hc, pcs_feed] at h
      rcases List.mem_cons.1 h with rfl | h
      · simp
      · have := ih h; rw [List.length_cons]; omega
    · obtain ⟨y, t, h1, h2⟩ := pcs_other hc r
      rw [h2] at h
      rcases List.mem_cons.1 h with rfl | h
      · have := ih (x := y) (by rw [h1]; exact List.mem_cons_self)
        rw [List.length_cons, List.length_cons]; omega
      · have := ih (x := x) (by rw [h1]; exact List.mem_cons_of_mem _ h)
        rw [List.length_cons]; omega
theorem pcs_sizes (l : List UInt8) (n : Nat) (h : l.length ≤ n) : ∀ s ∈ (pcs l).map mkB, s.size ≤ n := by
  intro s hs
  obtain ⟨x, hx, rfl⟩ := List.mem_map.1 hs
  rw [mkB_size]
  have := pcs_small hx
  omega
/-- what Lines gives of a text whose last byte is there -/
def linesC (b : List UInt8) (c : UInt8) : List ByteArray × Int := if c = 10 then (if chkS ((pcs b).map mkB) = 0 then ((pcs b).map mkB, 0) else ([], chkS ((pcs b).map mkB))) else ([], 2)
theorem cut_f (b : List UInt8) (c : UInt8) (hb : b.length ≤ 1000000) : strings_CutSuffix.f (mkB (b ++ [c])) (⟨#[10]⟩ : ByteArray) = some (if c = 10 then (mkB b, true) else (mkB (b ++ [c]), false)) := by
  have hsz : (mkB (b ++ [c])).size = b.length + 1 := by rw [mkB_size, List.length_append]; rfl
  have h1 : (⟨#[10]⟩ : ByteArray).size = 1 := rfl
  unfold strings_CutSuffix.f stringslite_CutSuffix.f stringslite_HasSuffix.f
  rw [hsz, h1, show (((b.length + 1 : Nat) : Int)) - ((1 : Nat) : Int) = (b.length : Int) by omega, w64 (by omega) (by omega), if_pos (by omega), if_pos (by omega), if_pos (by omega), Int.toNat_natCast, Option.bind_some]
  have e1 : (mkB (b ++ [c])).extract b.length (b.length + 1) = mkB [c] := by
    rw [extract_mkB]
    congr 1
    show ((b ++ [c]).take (b.length + 1)).drop b.length = [c]
    rw [List.take_of_length_le (by simp), List.drop_left]
  have e2 : (mkB (b ++ [c])).extract 0 b.length = mkB b := by
    rw [extract_mkB]
    congr 1
    show ((b ++ [c]).take b.length).drop 0 = b
    rw [List.drop_zero, List.take_left]
  rw [e1, e2]
  by_cases hc : c = 10
  · rw [if_pos hc, hc, if_pos (show ((mkB [10]).toList == (⟨#[10]⟩ : ByteArray).toList) = true from beq_iff_eq.2 rfl), if_pos (by omega), if_pos (by omega)]; rfl
  · rw [if_neg hc, if_neg]
    · rfl
    · intro h
      have := eq_of_beq h
      rw [bytes_ext] at this
      exact hc (by simpa [mkB] using congrArg (fun s : ByteArray => s.data.toList) this)
theorem lines_nil : Ev (fun k => text_Lines.f k (mkB [])) ([], 0) := by
  unfold text_Lines.f
  exact Ev.pos (mkB_nil.2 rfl) (Ev.val rfl)
theorem lines_ev (b : List UInt8) (c : UInt8) (hb : b.length ≤ 1000000) : Ev (fun k => text_Lines.f k (mkB (b ++ [c]))) (linesC b c) := by
  unfold text_Lines.f linesC
  refine Ev.neg (fun h => by have := mkB_nil.1 h; simp at this) ?_
  rw [cut_f b c hb]
  refine Ev.just ?_
  by_cases hc : c = 10
  · rw [if_pos hc, if_pos hc]
    refine Ev.pos rfl ?_
    rw [split10_f (mkB b) (by rw [mkB_size]; omega)]
    exact Ev.just (Ev.bind (checked_ev ((pcs b).map mkB) (fun s hs => by have := pcs_sizes b 1000000 hb s hs; omega)) (Ev.cond (fun h => Ev.val (by rw [if_pos h])) (fun h => Ev.val (by rw [if_neg h]))))
  · rw [if_neg hc, if_neg hc]
    exact Ev.neg (by simp) (Ev.val rfl)
theorem pcs_end : ∀ b : List UInt8, pcs (b ++ [10]) = pcs b ++ [[]]
  | [] => rfl
  | c :: r => by
    have ih := pcs_end r
    by_cases hc : c = 10
    · rw [hc, List.cons_append, pcs_feed, pcs_feed, ih]; rfl
    · obtain ⟨y, t, h1, h2⟩ := pcs_other hc r
      obtain ⟨y', t', h3, h4⟩ := pcs_other hc (r ++ [10])
      rw [List.cons_append, h4, h2]
      rw [ih, h1, List.cons_append] at h3
      obtain ⟨rfl, rfl⟩ := List.cons.inj h3
      rfl
theorem rLines_loop (s : ByteArray) (hs : s.size ≤ 1000000) (d : Nat) : ∀ (i f : Nat) (acc : List ByteArray), i + d = s.size → f ≤ i → acc.length ≤ i → (∀ x ∈ acc, x.size ≤ 1000000) →
    Ev (fun k => ancepsref01_Lines.l0 k s acc (f : Int) (i : Int)) (if chkS (acc ++ ((pre ((s.data.toList.take i).drop f) (pcs (s.data.toList.drop i))).dropLast).map mkB) = 0 then (acc ++ ((pre ((s.data.toList.take i).drop f) (pcs (s.data.toList.drop i))).dropLast).map mkB, 0) else ([], chkS (acc ++ ((pre ((s.data.toList.take i).drop f) (pcs (s.data.toList.drop i))).dropLast).map mkB))) := by
  have hsl : s.data.toList.length = s.size := by simp
  induction d with
  | zero =>
    intro i f acc hi hf ha hx
    rw [show s.data.toList.drop i = [] from List.drop_of_length_le (by omega), pcs_nil]
    have e : acc ++ ((pre ((s.data.toList.take i).drop f) [[]]).dropLast).map mkB = acc := by
      show acc ++ ([(s.data.toList.take i).drop f ++ []].dropLast).map mkB = acc
      simp
    rw [e]
    refine Ev.step (fun k => rfl) (Ev.neg (by omega) (Ev.bind (rlns_ev acc (fun x h => by have := hx x h; omega)) (Ev.cond (fun h => Ev.val (by rw [if_pos h])) (fun h => Ev.val (by rw [if_neg h])))))
  | succ d ih =>
    intro i f acc hi hf ha hx
    have hlt : i < s.data.toList.length := by omega
    rw [List.drop_eq_getElem_cons hlt]
    refine Ev.step (fun k => rfl) (Ev.pos (by omega) (Ev.pos (by omega) ?_))
    rw [bt_data s i hlt]
    refine Ev.cond (fun h => ?_) (fun h => ?_)
    · have hc : s.data.toList[i] = 10 := UInt8.toNat_inj.1 (show s.data.toList[i].toNat = 10 by omega)
      refine Ev.pos (by omega) (Ev.pos (by omega) (Ev.pos (by omega) (Ev.pos (by omega) ?_)))
      rw [w64 (by omega) (by omega), Int.toNat_natCast, Int.toNat_natCast, extract_mkB]
      have := ih (i + 1) (i + 1) (acc ++ [mkB ((s.data.toList.take i).drop f)]) (by omega) (Nat.le_refl _) (by simp; omega) (fun x h => by
        rcases List.mem_append.1 h with h | h
        · exact hx x h
        · rw [List.mem_singleton] at h
          rw [h, mkB_size, List.length_drop, List.length_take]; omega)
      rw [show (s.data.toList.take (i + 1)).drop (i + 1) = [] by rw [List.drop_eq_nil_iff, List.length_take]; omega, pre_nil (strings_Split.pieces_ne 10 _), List.append_assoc] at this
      rw [hc, pcs_feed]
      have e : (pre ((s.data.toList.take i).drop f) ([] :: pcs (s.data.toList.drop (i + 1)))).dropLast = (s.data.toList.take i).drop f :: (pcs (s.data.toList.drop (i + 1))).dropLast := by
        show (((s.data.toList.take i).drop f ++ []) :: pcs (s.data.toList.drop (i + 1))).dropLast = _
        rw [List.append_nil, List.dropLast_cons_of_ne_nil (strings_Split.pieces_ne 10 _)]
      rw [e]
      exact this
    · have hc : s.data.toList[i] ≠ 10 := fun e => h (by rw [e]; rfl)
      rw [w64 (by omega) (by omega)]
      have := ih (i + 1) f acc (by omega) (by omega) (by omega) hx
      obtain ⟨x, t, h1, h2⟩ := pcs_other hc (s.data.toList.drop (i + 1))
      rw [h1, take_next _ _ _ hlt hf] at this
      rw [h2]
      have e : pre ((s.data.toList.take i).drop f ++ [s.data.toList[i]]) (x :: t) = pre ((s.data.toList.take i).drop f) ((s.data.toList[i] :: x) :: t) := by
        show (((s.data.toList.take i).drop f ++ [s.data.toList[i]]) ++ x) :: t = _
        rw [List.append_assoc]; rfl
      rw [e] at this
      exact this
theorem rLines_nil : Ev (fun k => ancepsref01_Lines.f k (mkB [])) ([], 0) := by
  unfold ancepsref01_Lines.f
  exact Ev.pos (mkB_nil.2 rfl) (Ev.val rfl)
theorem rLines_ev (b : List UInt8) (c : UInt8) (hb : b.length < 1000000) : Ev (fun k => ancepsref01_Lines.f k (mkB (b ++ [c]))) (linesC b c) := by
  have hsz : (mkB (b ++ [c])).size = b.length + 1 := by rw [mkB_size, List.length_append]; rfl
  unfold ancepsref01_Lines.f linesC
  refine Ev.neg (fun h => by have := mkB_nil.1 h; simp at this) ?_
  rw [hsz, show (((b.length + 1 : Nat) : Int)) - 1 = (b.length : Int) by omega, w64 (by omega) (by omega)]
  refine Ev.pos (by omega) (Ev.pos (by omega) ?_)
  have hbt : bt (mkB (b ++ [c])) (b.length : Int) = (c.toNat : Int) := by
    rw [bt_data _ _ (by show b.length < (b ++ [c]).length; simp)]
    show (((b ++ [c])[b.length]'(by simp)).toNat : Int) = _
    rw [List.getElem_concat_length]; rfl
  rw [hbt]
  refine Ev.cond (fun h => ?_) (fun h => Ev.val (by rw [if_neg (fun e => h (by rw [e]; rfl))]))
  have hc : c = 10 := UInt8.toNat_inj.1 (show c.toNat = 10 by omega)
  rw [if_pos hc]
  have := rLines_loop (mkB (b ++ [c])) (by omega) (mkB (b ++ [c])).size 0 0 [] (by omega) (Nat.le_refl _) (Nat.le_refl _) (fun x h => by simp at h)
  rw [List.take_zero, List.drop_nil, List.drop_zero, pre_nil (strings_Split.pieces_ne 10 _), List.nil_append] at this
  rw [hc] at this ⊢
  have e : (pcs (mkB (b ++ [10])).data.toList).dropLast = pcs b := by
    show (pcs (b ++ [10])).dropLast = _
    rw [pcs_end, List.dropLast_concat]
  rw [e] at this
  exact this
/-! the text of lines -/
theorem flat_cons (s : ByteArray) (r : List ByteArray) : text_Text.flat (s :: r) = s.data.toList ++ 10 :: text_Text.flat r := by
  unfold text_Text.flat
  rw [List.flatMap_cons, List.append_assoc]; rfl
theorem flat_pcs : ∀ b : List UInt8, text_Text.flat ((pcs b).map mkB) = b ++ [10]
  | [] => rfl
  | c :: r => by
    have ih := flat_pcs r
    by_cases hc : c = 10
    · rw [hc, pcs_feed, List.map_cons, flat_cons, ih]; rfl
    · obtain ⟨y, t, h1, h2⟩ := pcs_other hc r
      rw [h1, List.map_cons, flat_cons] at ih
      rw [h2, List.map_cons, flat_cons]
      exact congrArg (c :: ·) ih
def textS (l : List ByteArray) : ByteArray × Int := if chkS l = 0 then (mkB (text_Text.flat l), 0) else (⟨#[]⟩, chkS l)
theorem text_ev (l : List ByteArray) (hs : ∀ s ∈ l, s.size ≤ 140737488355328) (hf : (text_Text.flat l).length ≤ 1000000) : Ev (fun k => text_Text.f k l) (textS l) := by
  unfold text_Text.f textS
  refine Ev.bind (checked_ev l hs) (Ev.cond (fun h => Ev.pos (by omega) (Ev.val (by rw [if_pos h]))) (fun h => Ev.val (by rw [if_neg h])))
theorem mkB_app (a b : List UInt8) : mkB a ++ mkB b = mkB (a ++ b) := by
  apply ByteArray.ext
  rw [ByteArray.data_append]
  apply Array.toList_inj.1
  rw [Array.toList_append]
theorem rText_loop (l : List ByteArray) (hl : l.length ≤ 1000000) (hf : (text_Text.flat l).length ≤ 1000000) (d : Nat) : ∀ i : Nat, i + d = l.length → Ev (fun k => ancepsref01_Text.l0 k l (mkB (text_Text.flat (l.take i))) (i : Int)) (mkB (text_Text.flat l), 0) := by
  induction d with
  | zero =>
    intro i hi
    rw [List.take_of_length_le (by omega)]
    exact Ev.step (fun k => rfl) (Ev.neg (by omega) (Ev.val rfl))
  | succ d ih =>
    intro i hi
    have hlt : i < l.length := by omega
    have hfl := text_Text.flat_le hlt
    refine Ev.step (fun k => rfl) (Ev.pos (by omega) (Ev.pos (by omega) ?_))
    rw [rdO_at l i hlt]
    refine Ev.pos (by rw [mkB_size]; omega) (Ev.pos (by rw [ByteArray.size_append, mkB_size]; omega) ?_)
    have e : (mkB (text_Text.flat (l.take i)) ++ l[i]) ++ (⟨#[10]⟩ : ByteArray) = mkB (text_Text.flat (l.take (i + 1))) := by
      rw [List.take_succ_eq_append_getElem hlt]
      unfold text_Text.flat
      rw [List.flatMap_append, List.flatMap_cons, List.flatMap_nil, List.append_nil, ← mkB_app, ← mkB_app, mkB_data]
      apply ByteArray.ext
      simp only [ByteArray.data_append, Array.append_assoc]
    rw [e, w64 (by omega) (by omega)]
    exact ih (i + 1) (by omega)
theorem rText_ev (l : List ByteArray) (hs : ∀ s ∈ l, s.size ≤ 140737488355328) (hl : l.length ≤ 1000000) (hf : (text_Text.flat l).length ≤ 1000000) : Ev (fun k => ancepsref01_Text.f k l) (textS l) := by
  unfold ancepsref01_Text.f textS
  refine Ev.bind (rlns_ev l hs) (Ev.cond (fun h => ?_) (fun h => Ev.val (by rw [if_neg h])))
  rw [if_pos h]
  exact rText_loop l hl hf l.length 0 (by omega)
theorem no_feed {s : ByteArray} (h : validS s = 0) : 10 ∉ s.data.toList := by
  unfold validS at h
  split at h
  · cases h
  · by_cases ha : (bytesOf s).all okB = true
    · intro hm
      have := List.all_eq_true.1 ha 10 (List.mem_map.2 ⟨10, hm, rfl⟩)
      simp [okB] at this
    · rw [if_neg ha] at h; cases h
theorem pcs_app {x : List UInt8} (h : 10 ∉ x) (r : List UInt8) : pcs (x ++ 10 :: r) = x :: pcs r := by
  induction x with
  | nil => rfl
  | cons c x ih =>
    rw [List.mem_cons, not_or] at h
    obtain ⟨y, t, h1, h2⟩ := pcs_other (fun e => h.1 e.symm) (x ++ 10 :: r)
    rw [List.cons_append, h2]
    rw [ih h.2] at h1
    obtain ⟨rfl, rfl⟩ := List.cons.inj h1
    rfl
theorem pcs_one {x : List UInt8} (h : 10 ∉ x) : pcs x = [x] := by
  induction x with
  | nil => rfl
  | cons c x ih =>
    rw [List.mem_cons, not_or] at h
    obtain ⟨y, t, h1, h2⟩ := pcs_other (fun e => h.1 e.symm) x
    rw [h2]
    rw [ih h.2] at h1
    obtain ⟨rfl, rfl⟩ := List.cons.inj h1
    rfl
theorem chk1_all : ∀ l : List ByteArray, chk1 l = 0 → ∀ s ∈ l, validS s = 0
  | [], _, s, h => by simp at h
  | x :: r, hc, s, h => by
    rw [chk1] at hc
    by_cases hx : validS x = 0
    · rw [if_pos hx] at hc
      rcases List.mem_cons.1 h with rfl | h
      · exact hx
      · exact chk1_all r hc s h
    · rw [if_neg hx] at hc; exact absurd hc hx
theorem chkS_all {l : List ByteArray} (h : chkS l = 0) : ∀ s ∈ l, validS s = 0 := by
  unfold chkS at h
  split at h
  · cases h
  · exact chk1_all l h
/-- the text of lines that are there ends with a feed; ahead of it stand the lines -/
theorem flat_lines : ∀ l : List ByteArray, l ≠ [] → (∀ s ∈ l, 10 ∉ s.data.toList) → ∃ b, text_Text.flat l = b ++ [10] ∧ (pcs b).map mkB = l
  | [], h, _ => absurd rfl h
  | [s], _, h => ⟨s.data.toList, by rw [flat_cons]; rfl, by rw [pcs_one (h s (by simp))]; rfl⟩
  | s :: u :: r, _, h => by
    obtain ⟨b, h1, h2⟩ := flat_lines (u :: r) (by simp) (fun x hx => h x (List.mem_cons_of_mem _ hx))
    refine ⟨s.data.toList ++ 10 :: b, ?_, ?_⟩
    · rw [flat_cons, h1, List.append_assoc]; rfl
    · rw [pcs_app (h s (by simp)), List.map_cons, h2]
theorem equal_loop (a : List ByteArray) (hl : a.length ≤ 1000000) (d : Nat) : ∀ i : Nat, i + d = a.length → Ev (fun k => ancepsref01_Equal.l0 k a a (i : Int)) true := by
  induction d with
  | zero => intro i hi; exact Ev.step (fun k => rfl) (Ev.neg (by omega) (Ev.val rfl))
  | succ d ih =>
    intro i hi
    refine Ev.step (fun k => rfl) (Ev.pos (by omega) (Ev.pos (by omega) (Ev.pos (by omega) (Ev.pos rfl ?_))))
    rw [w64 (by omega) (by omega)]
    exact ih (i + 1) (by omega)
theorem equal_ev (a : List ByteArray) (hl : a.length ≤ 1000000) : Ev (fun k => ancepsref01_Equal.f k a a) true := by
  unfold ancepsref01_Equal.f
  exact Ev.pos rfl (equal_loop a hl a.length 0 (by omega))
theorem snoc_of (s : ByteArray) : s = mkB [] ∨ ∃ b c, s = mkB (b ++ [c]) ∧ b.length + 1 = s.size := by
  rcases List.eq_nil_or_concat s.data.toList with h | ⟨b, c, h⟩
  · exact .inl (by rw [← h])
  · rw [List.concat_eq_append] at h
    refine .inr ⟨b, c, by rw [← h], ?_⟩
    have : s.data.toList.length = s.size := by simp
    rw [h, List.length_append] at this
    exact this
theorem linesC_len (b : List UInt8) (c : UInt8) : (linesC b c).1.length ≤ b.length + 1 := by
  unfold linesC
  have := count10_le b
  split
  · split
    · rw [List.length_map]; exact this
    · simp
  · simp
end Go.Proofs.YteokimhjojppcaaDoor.Lem
