/- Plain lemmas over the printed functions of chapter 5: Write, Same. -/
import Derived.Test.YtkkgacoecimlpaaLemQ
import Derived.Test.YtkkgacoecimlpaaX25
import Derived.Test.YtkkgacoecimlpaaX16
import Derived.Test.YtkkgacoecimlpaaX17
namespace Go.Proofs.Ytkkgacoecimlpaa.Lem
open Go.RowKit Go.Proofs.Ytkkgacoecimlpaa.X Go.Proofs.YtkkgacoecimlpaaW.PrintWords Go.Proofs.YtkkgacoecimlpaaW.PrintLast
def wb (t : S31) : ByteArray := strOfNums (wrL t)
theorem head_byte (s : ByteArray) (h : s.size = 1) : s.data.toList.getD 0 0 = (bt s 0).toNat.toUInt8 := by
  have h0 : 0 < s.data.toList.length := by rw [data_length]; omega
  rw [List.getD_eq_getElem?_getD, List.getElem?_eq_getElem h0]
  unfold bt
  rw [dif_pos (by simp only [Int.toNat_zero]; omega), Int.toNat_natCast]
  show s.data.toList[0] = _
  exact (UInt8.ofNat_toNat (x := s.data.toList[0])).symm
theorem written_ev (t : S31) (hs : t.f1.size ≤ 1000000000) : ∃ b, Ev (fun k => token_written.f k t.f0 t.f1 t.f2) (b, rightT t) ∧ (rightT t = true → b = wb t) := by
  unfold token_written.f rightT wb wrL
  by_cases h1 : t.f0 = 1
  · refine ⟨t.f1, Ev.pos h1 (Ev.bind (isName_ev _ (by omega)) (Ev.val (by rw [if_pos h1]))), fun _ => by rw [if_neg (by omega), str_bytes]⟩
  by_cases h2 : t.f0 = 2
  · refine ⟨t.f1, Ev.neg h1 (Ev.pos h2 (Ev.bind (number_ev _ (by omega)) (Ev.val (by rw [if_neg h1, if_pos h2, numS_ok])))), fun _ => by rw [if_neg (by omega), str_bytes]⟩
  by_cases h3 : t.f0 = 3
  · refine ⟨(quoteS t.f1).1, Ev.neg h1 (Ev.neg h2 (Ev.pos h3 (Ev.bind (quote_ev _ (by omega)) (Ev.val ?_)))), fun h => ?_⟩
    · rw [if_neg h1, if_neg h2, if_pos h3]
      have := fits_right (s := t.f1) 0
      rw [show rightT ⟨3, t.f1, 0⟩ = (decide (t.f1.size ≤ 60) && (bytesOf t.f1).all inside) from rfl] at this
      rw [this]
      unfold quoteS
      by_cases hf : fitsS t.f1 = 0
      · rw [if_pos hf, hf]
      · rw [if_neg hf]
    · rw [if_neg h1, if_neg h2, if_pos h3] at h
      have := fits_right (s := t.f1) 0
      rw [show rightT ⟨3, t.f1, 0⟩ = (decide (t.f1.size ≤ 60) && (bytesOf t.f1).all inside) from rfl, h] at this
      have hf : fitsS t.f1 = 0 := by simpa using this.symm
      rw [if_pos h3]
      apply bytesOf_inj
      rw [bytesOf_str _ (by have := wr_range t; unfold wrL at this; rw [if_pos h3] at this; exact this)]
      unfold quoteS
      rw [if_pos hf, quote_bytes]
  by_cases h4 : t.f0 = 4
  · by_cases hz : t.f1.size = 1
    · have hc : bytesOf t.f1 = [bt t.f1 0] := by rw [cons_of (by omega : 0 < t.f1.size), drop_ge _ _ (by omega)]
      obtain ⟨x, hx, hxs⟩ := sign_f (bytesOf_range t.f1 (bt t.f1 0) (by rw [hc]; exact List.mem_cons_self))
      refine ⟨t.f1, Ev.neg h1 (Ev.neg h2 (Ev.neg h3 (Ev.pos h4 (Ev.pos (by omega) (Ev.bind (a := sign (bt t.f1 0)) (Ev.now' ?_) (Ev.val ?_)))))), fun _ => by rw [if_neg h3, str_bytes]⟩
      · unfold strings_Contains.f
        rw [if_pos hz, head_byte _ hz]
        unfold strings_IndexByte.f at hx
        rw [Option.some.inj hx]
        congr 1
        rw [Bool.eq_iff_iff, decide_eq_true_iff]; exact hxs
      · rw [if_neg h1, if_neg h2, if_neg h3, if_pos h4, decide_eq_true hz, Bool.true_and]
    · exact ⟨t.f1, Ev.neg h1 (Ev.neg h2 (Ev.neg h3 (Ev.pos h4 (Ev.neg (by omega) (Ev.val (by rw [if_neg h1, if_neg h2, if_neg h3, if_pos h4, decide_eq_false hz, Bool.false_and])))))), fun _ => by rw [if_neg h3, str_bytes]⟩
  · exact ⟨⟨#[]⟩, Ev.neg h1 (Ev.neg h2 (Ev.neg h3 (Ev.neg h4 (Ev.val (by rw [if_neg h1, if_neg h2, if_neg h3, if_neg h4]))))), fun h => by rw [if_neg h1, if_neg h2, if_neg h3, if_neg h4] at h; exact absurd h (by decide)⟩
theorem join_cc (x y : List UInt8) (r : List (List UInt8)) (sep : List UInt8) : Lib.join (x :: y :: r) sep = x ++ (sep ++ Lib.join (y :: r) sep) := by
  simp [Lib.join, List.intercalate]
def nat8 (l : List UInt8) : List Int := l.map fun b => (b.toNat : Int)
theorem nat8_wb (t : S31) : nat8 (wb t).data.toList = wrL t := bytesOf_str _ (wr_range t)
theorem join_map : ∀ ts : List S31, nat8 (Lib.join ((ts.map wb).map (·.data.toList)) [32]) = joinL ts
  | [] => rfl
  | [t] => by
    rw [List.map_cons, List.map_nil, List.map_cons, List.map_nil, Lib.join_one, nat8_wb, joinL]
  | t :: u :: r => by
    have := join_map (u :: r)
    rw [List.map_cons, List.map_cons] at this
    rw [List.map_cons, List.map_cons, List.map_cons, List.map_cons, join_cc, joinL]
    unfold nat8 at this ⊢
    rw [List.map_append, List.map_append, this]
    have := nat8_wb t
    unfold nat8 at this
    rw [this]; rfl
def writeS (ts : List S31) : ByteArray × Int := if ts.all rightT then (if (joinL ts).length > 20000 then (⟨#[]⟩, 3) else (strOfNums (joinL ts), 0)) else (⟨#[]⟩, 1)
theorem join_f (ts : List S31) (h1 : ts.length ≤ 1000000000) (h2 : (joinL ts).length ≤ 1000000000) : strings_Join.f (ts.map wb) (⟨#[32]⟩ : ByteArray) = some (strOfNums (joinL ts)) := by
  unfold strings_Join.f
  have hj := join_map ts
  have hl : (Lib.join ((ts.map wb).map (·.data.toList)) [32]).length = (joinL ts).length := by rw [← hj]; unfold nat8; rw [List.length_map]
  rw [if_pos ⟨by rw [List.length_map]; omega, by show (Lib.join ((ts.map wb).map (·.data.toList)) [32]).length ≤ _; rw [hl]; omega⟩]
  congr 1
  apply bytesOf_inj
  rw [bytesOf_str _ (join_range ts)]
  exact hj
theorem write_loop (ts : List S31) (h1 : ts.length ≤ 1000000000) (h2 : ts.all rightT = true → (joinL ts).length ≤ 1000000000) (h3 : ∀ t ∈ ts, t.f1.size ≤ 1000000000) (d : Nat) : ∀ i : Nat, i + d = ts.length → (ts.take i).all rightT = true → Ev (fun k => token_Write.l0 k ((ts.take i).map wb) ts (ts.length : Int) (i : Int)) (writeS ts) := by
  induction d with
  | zero =>
    intro i hi ha
    rw [List.take_of_length_le (by omega)] at ha ⊢
    refine Ev.step (fun k => rfl) (Ev.neg (by omega) (Ev.bind (Ev.now' (join_f ts h1 (h2 ha))) ?_))
    unfold writeS
    rw [if_pos ha, strOfNums_size]
    refine Ev.cond (fun h => Ev.val (by rw [if_pos (by omega)])) (fun h => Ev.val (by rw [if_neg (by omega)]))
  | succ d ih =>
    intro i hi ha
    have hlt : i < ts.length := by omega
    obtain ⟨b, hb, hbb⟩ := written_ev ts[i] (h3 _ (List.getElem_mem hlt))
    refine Ev.step (fun k => rfl) (Ev.pos (by omega) (Ev.pos (by omega) (Ev.pos (by omega) ?_)))
    rw [rd_T31_nat, getD_lt _ _ hlt]
    refine Ev.bind hb (Ev.cond (fun h => ?_) (fun h => ?_))
    · refine Ev.pos (by rw [List.length_map, List.length_take]; omega) ?_
      have h : rightT ts[i] = true := h
      simp only
      rw [hbb h, w64 (by omega) (by omega)]
      have e : (ts.take i).map wb ++ [wb ts[i]] = (ts.take (i + 1)).map wb := by rw [List.take_succ_eq_append_getElem hlt, List.map_append]; rfl
      rw [e]
      exact ih (i + 1) (by omega) (by rw [List.take_succ_eq_append_getElem hlt, List.all_append, ha, List.all_cons, h]; rfl)
    · refine Ev.val ?_
      unfold writeS
      rw [if_neg]
      intro hall
      exact h (List.all_eq_true.1 hall _ (List.getElem_mem hlt))
theorem write_ev (ts : List S31) (h1 : ts.length ≤ 1000000000) (h2 : ts.all rightT = true → (joinL ts).length ≤ 1000000000) (h3 : ∀ t ∈ ts, t.f1.size ≤ 1000000000) : Ev (fun k => token_Write.f k ts) (writeS ts) := by
  unfold token_Write.f
  exact write_loop ts h1 h2 h3 ts.length 0 (by omega) rfl
/-! Same -/
def key (t : S31) : Int × ByteArray := (t.f0, t.f1)
def sameS (a b : List S31) : Bool := decide (a.map key = b.map key)
theorem same_loop (a b : List S31) (h : a.length = b.length) (hl : a.length ≤ 1000000000) (d : Nat) : ∀ i : Nat, i + d = a.length → Ev (fun k => api_Token_token_Same_1.l0 k b a (a.length : Int) (i : Int)) (sameS (a.drop i) (b.drop i)) := by
  induction d with
  | zero =>
    intro i hi
    rw [List.drop_eq_nil_of_le (by omega), List.drop_eq_nil_of_le (by omega)]
    exact Ev.step (fun k => rfl) (Ev.neg (by omega) (Ev.val rfl))
  | succ d ih =>
    intro i hi
    have ha : i < a.length := by omega
    have hb : i < b.length := by omega
    refine Ev.step (fun k => rfl) (Ev.pos (by omega) (Ev.pos (by omega) (Ev.pos (by omega) (Ev.pos (by omega) ?_))))
    rw [rd_T31_nat, rd_T31_nat, getD_lt _ _ ha, getD_lt _ _ hb, List.drop_eq_getElem_cons ha, List.drop_eq_getElem_cons hb]
    have := ih (i + 1) (by omega)
    unfold token_Same_1.f
    unfold sameS at this ⊢
    rw [List.map_cons, List.map_cons]
    by_cases h1 : (a[i]).f0 = (b[i]).f0
    · rw [if_pos h1]
      by_cases h2 : (a[i]).f1 = (b[i]).f1
      · rw [h2, show ((b[i]).f1.toList == (b[i]).f1.toList) = true by simp, w64 (by omega) (by omega)]
        refine Ev.just (Ev.pos rfl (Ev.eq ?_ this))
        rw [show key a[i] = key b[i] by unfold key; rw [h1, h2]]
        congr 1; rw [List.cons.injEq]; simp
      · refine Ev.just (Ev.neg (by rw [beq_iff_eq, bytes_ext]; exact h2) (Ev.val ?_))
        exact (decide_eq_false (fun e => h2 (Prod.ext_iff.1 (List.cons.inj e).1).2)).symm
    · rw [if_neg h1]
      refine Ev.just (Ev.neg (by decide) (Ev.val ?_))
      exact (decide_eq_false (fun e => h1 (Prod.ext_iff.1 (List.cons.inj e).1).1)).symm
theorem same_ev (a b : List S31) (hl : a.length ≤ 1000000000) : Ev (fun k => token_Same.f k a b) (sameS a b) := by
  unfold token_Same.f api_Token_token_Same_1.f
  refine Ev.bind (a := sameS a b) (Ev.cond (fun h => ?_) (fun h => Ev.val ?_)) (Ev.now _)
  · exact Ev.eq (by rw [List.drop_zero, List.drop_zero]) (same_loop a b (by omega) hl a.length 0 (by omega))
  · exact (decide_eq_false (fun e => h (by have := congrArg List.length e; rw [List.length_map, List.length_map] at this; omega))).symm
theorem rsame_loop (a b : List S31) (h : a.length = b.length) (hl : a.length ≤ 1000000000) (d : Nat) : ∀ i : Nat, i + d = a.length → Ev (fun k => ancepsref05_Same.l0 k a b (i : Int)) (sameS (a.drop i) (b.drop i)) := by
  induction d with
  | zero =>
    intro i hi
    rw [List.drop_eq_nil_of_le (by omega), List.drop_eq_nil_of_le (by omega)]
    exact Ev.step (fun k => rfl) (Ev.neg (by omega) (Ev.val rfl))
  | succ d ih =>
    intro i hi
    have ha : i < a.length := by omega
    have hb : i < b.length := by omega
    refine Ev.step (fun k => rfl) (Ev.pos (by omega) (Ev.pos (by omega) (Ev.pos (by omega) ?_)))
    rw [rd_T31_nat, rd_T31_nat, getD_lt _ _ ha, getD_lt _ _ hb, List.drop_eq_getElem_cons ha, List.drop_eq_getElem_cons hb]
    have := ih (i + 1) (by omega)
    unfold sameS at this ⊢
    rw [List.map_cons, List.map_cons]
    refine Ev.cond (fun h1 => Ev.cond (fun h2 => ?_) (fun h2 => Ev.val ?_)) (fun h1 => Ev.val ?_)
    · rw [bytes_ext] at h2
      rw [w64 (by omega) (by omega), show key a[i] = key b[i] by unfold key; rw [h1, h2]]
      refine Ev.eq ?_ this
      congr 1; rw [List.cons.injEq]; simp
    · rw [bytes_ext] at h2
      exact (decide_eq_false (fun e => h2 (Prod.ext_iff.1 (List.cons.inj e).1).2)).symm
    · exact (decide_eq_false (fun e => h1 (Prod.ext_iff.1 (List.cons.inj e).1).1)).symm
theorem rsame_ev (a b : List S31) (hl : a.length ≤ 1000000000) : Ev (fun k => ancepsref05_Same.f k a b) (sameS a b) := by
  unfold ancepsref05_Same.f
  refine Ev.cond (fun h => ?_) (fun h => Ev.val ?_)
  · exact Ev.eq (by rw [List.drop_zero, List.drop_zero]) (rsame_loop a b (by omega) hl a.length 0 (by omega))
  · exact (decide_eq_false (fun e => h (by have := congrArg List.length e; rw [List.length_map, List.length_map] at this; omega))).symm
theorem same_at1 (ts : List S31) : sameS ts (ts.map (at1 1)) = true := by
  unfold sameS
  rw [List.map_map]; exact decide_eq_true rfl
end Go.Proofs.Ytkkgacoecimlpaa.Lem
