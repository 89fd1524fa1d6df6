/- White space and comments between the tokens of a text of up to 2000 bytes (longer ones are left out by the law's own guard) change nothing but the lines that package token tells. -/
import Derived.Test.YtkkgacoecimlpaaLemS
namespace Go.Proofs.Ytkkgacoecimlpaa.Pure
open Go.RowKit Go.Proofs.Ytkkgacoecimlpaa.X Go.Proofs.Ytkkgacoecimlpaa.Lem Go.Proofs.YtkkgacoecimlpaaW.PrintWords Go.Proofs.YtkkgacoecimlpaaW.PrintLast
theorem tmod_nat (a b : Nat) : Int.tmod (a : Int) (b : Int) = ((a % b : Nat) : Int) := by rw [Int.tmod_eq_emod_of_nonneg (by omega)]; exact (Int.natCast_emod a b).symm
theorem rsameAt (a b : List S31) (hl : a.length ≤ 1000000000) (h : a.map (fun t => (t.f0, t.f1)) = b.map (fun t => (t.f0, t.f1))) (d : Nat) : ∀ i : Nat, i + d = a.length → Ev (fun k => ancepsref05_Same.l0 k a b (i : Int)) true := by
  have hlen : a.length = b.length := by have := congrArg List.length h; rw [List.length_map, List.length_map] at this; exact this
  induction d with
  | zero => intro i hi; exact Ev.step (fun k => rfl) (Ev.neg (by omega) (Ev.now _))
  | succ d ih =>
    intro i hi
    have ha : i < a.length := by omega
    have hb : i < b.length := by omega
    have hk : ((a[i]).f0, (a[i]).f1) = ((b[i]).f0, (b[i]).f1) := by
      have := congrArg (fun l => l[i]?) h
      simp only [List.getElem?_map, List.getElem?_eq_getElem ha, List.getElem?_eq_getElem hb] at this
      exact Option.some.inj this
    refine Ev.step (fun k => rfl) (Ev.pos (by omega) (Ev.pos (by omega) (Ev.pos (by omega) ?_)))
    rw [rd_T31_nat', rd_T31_nat', getD_lt' _ _ ha, getD_lt' _ _ hb, w64 (by omega) (by omega)]
    exact Ev.pos (Prod.ext_iff.1 hk).1 (Ev.pos (by rw [show (a[i]).f1 = (b[i]).f1 from (Prod.ext_iff.1 hk).2]) (ih (i + 1) (by omega)))
theorem rsame_key (a b : List S31) (hl : a.length ≤ 1000000000) (h : a.map (fun t => (t.f0, t.f1)) = b.map (fun t => (t.f0, t.f1))) : Ev (fun k => ancepsref05_Same.f k a b) true := by
  have hlen : a.length = b.length := by have := congrArg List.length h; rw [List.length_map, List.length_map] at this; exact this
  unfold ancepsref05_Same.f
  exact Ev.pos (by omega) (rsameAt a b hl h a.length 0 (by omega))
theorem spaced_end (cs : List Int) (ts : List S31) (hr : ∀ t ∈ ts, rightT t = true) (hl : ts.length ≤ 2000) (j : Int) (hj : ¬ j < (ts.length : Int)) (n : Int) :
    Ev (fun k => ancepslaw05_TokenSpaced.l0 k cs ts (strOfNums (textL (pick cs) 0 ts)) n (linesL (pick cs) 0 1 ts) ts (ts.length : Int) j) true := by
  refine Ev.step (fun k => ancepslaw05_TokenSpaced.l0.eq_2 _ _ _ _ _ _ _ _ _) (Ev.neg hj (Ev.bind (tokens_ev _) ?_))
  have hb := bytesOf_str _ (text_range (pick cs) 0 ts)
  have e : tokensS (strOfNums (textL (pick cs) 0 ts)) = if (textL (pick cs) 0 ts).length > 20000 then ([], 0, 3) else (toksL (pick cs) 0 1 ts, 0, 0) := by
    unfold tokensS
    rw [strOfNums_size]
    split
    · rfl
    · rw [hb, lex_text (pick cs) ts 0 _ 1 [] hr (by omega), List.nil_append]
  rw [e]
  by_cases h : (textL (pick cs) 0 ts).length > 20000
  · rw [if_pos h]
    refine Ev.neg (show ¬ (3 : Int) = 0 by decide) (Ev.step (fun k => ancepslaw05_TokenSpaced.j2.eq_2 _ _ _ _ _ _) (Ev.pos rfl (Ev.pos (by rw [strOfNums_size]; omega) (Ev.val rfl))))
  · rw [if_neg h]
    refine Ev.pos rfl (Ev.bind (rsame_key ts _ (by omega) (toks_key _ _ _ _).symm) (Ev.step (fun k => ancepslaw05_TokenSpaced.j2.eq_2 _ _ _ _ _ _) (Ev.neg (by decide) ?_)))
    exact spaced_l1 _ _ (toks_lines _ _ _ _) (by rw [toks_len]; omega) (toksL (pick cs) 0 1 ts).length 0 (by omega)
theorem spaced_loop (cs : List Int) (hc : 0 < cs.length) (hcl : cs.length ≤ 200) (hcr : ∀ x ∈ cs, 0 ≤ x) (ts : List S31) (hr : ∀ t ∈ ts, rightT t = true) (hl : ts.length ≤ 2000) (hw : weight ts ≤ 2000) (d : Nat) :
    ∀ (i : Nat) (pre : List Int) (line : Int) (xs : List Int), i + d = ts.length → pre ++ textL (pick cs) i (ts.drop i) = textL (pick cs) 0 ts → xs ++ linesL (pick cs) i line (ts.drop i) = linesL (pick cs) 0 1 ts → xs.length = i → 1 ≤ line → line ≤ 1 + 2 * i →
      Ev (fun k => ancepslaw05_TokenSpaced.l0 k cs ts (strOfNums pre) line xs ts (ts.length : Int) (i : Int)) true := by
  have hT := text_len (pick cs) 0 ts
  induction d with
  | zero =>
    intro i pre line xs hi hp hx hxl h1 h2
    rw [List.drop_eq_nil_of_le (by omega), textL, List.append_nil] at hp
    rw [List.drop_eq_nil_of_le (by omega), linesL, List.append_nil] at hx
    rw [hp, hx]
    exact spaced_end cs ts hr hl _ (by omega) _
  | succ d ih =>
    intro i pre line xs hi hp hx hxl h1 h2
    have hlt : i < ts.length := by omega
    have hpl := congrArg List.length hp
    rw [List.drop_eq_getElem_cons hlt, textL] at hp hpl
    rw [List.drop_eq_getElem_cons hlt, linesL] at hx
    rw [List.length_append, List.length_append, List.length_append, bytesOf_length] at hpl
    have ht := hr ts[i] (List.getElem_mem hlt)
    have hwt := weight_mem (List.getElem_mem hlt)
    have hts := tok_size ts[i]
    have hf := sepF_le (pick cs i)
    have hmod : i % cs.length < cs.length := Nat.mod_lt _ hc
    have hrd : rd cs ((i % cs.length : Nat) : Int) = cs.getD (i % cs.length) 0 := by unfold rd; rw [Int.toNat_natCast]
    have hv0 : 0 ≤ cs.getD (i % cs.length) 0 := by
      rw [List.getD_eq_getElem?_getD, List.getElem?_eq_getElem hmod]
      exact hcr _ (List.getElem_mem hmod)
    have hp4 : Int.tmod (rd cs ((i % cs.length : Nat) : Int)) 4 = ((pick cs i : Nat) : Int) := by
      rw [hrd, show cs.getD (i % cs.length) 0 = (((cs.getD (i % cs.length) 0).toNat : Nat) : Int) by omega, show (4 : Int) = ((4 : Nat) : Int) from rfl, tmod_nat]
      rfl
    have hlt4 : pick cs i < 4 := Nat.mod_lt _ (by decide)
    refine Ev.step (fun k => ancepslaw05_TokenSpaced.l0.eq_2 _ _ _ _ _ _ _ _ _) (Ev.pos (by omega) (Ev.pos (by omega) (Ev.pos (by omega) (Ev.just (Ev.neg (by omega) ?_)))))
    rw [tmod_nat, hp4]
    refine Ev.pos (by omega) (Ev.pos (by omega) (Ev.pos (by omega) (Ev.pos (show ((pick cs i : Nat) : Int) < 4 by omega) ?_)))
    rw [pick_sep, sep_count]
    refine Ev.just (Ev.pos (by omega) ?_)
    rw [rd_T31_nat', getD_lt' _ _ hlt]
    have e1 : rwriteS [ts[i]] = (strOfNums (wrL ts[i]), 0) := by
      unfold rwriteS
      rw [if_pos (by rw [List.all_cons, ht]; rfl), if_neg (by rw [joinL]; omega)]; rfl
    refine Ev.bind (a := (strOfNums (wrL ts[i]), 0)) (Ev.eq e1 (rwrite_ev [ts[i]] (by simp) (fun _ => by rw [joinL]; omega) (fun t h => by rw [List.mem_singleton.1 h]; omega))) ?_
    have hss := sep_size (pick cs i)
    refine Ev.pos (by rw [strOfNums_size]; omega) (Ev.pos (by rw [ByteArray.size_append, strOfNums_size, strOfNums_size]; omega) ?_)
    simp only
    rw [show sepB (pick cs i) = strOfNums (bytesOf (sepB (pick cs i))) from (str_bytes _).symm, str_app, str_app, w64 (i := line + (sepF (pick cs i) : Nat)) (by omega) (by omega), w64 (by omega) (by omega)]
    refine ih (i + 1) _ _ _ (by omega) ?_ ?_ (by rw [List.length_append, hxl]; rfl) (by omega) (by omega)
    · rw [← hp]; simp only [List.append_assoc]
    · rw [← hx, List.append_assoc]; rfl
theorem spaced_j0 (s : ByteArray) (cs : List Int) (hcr : ∀ x ∈ cs, 0 ≤ x) (b : Bool) (hb : b = false → s.size ≤ 2000 ∧ 0 < cs.length ∧ cs.length ≤ 200) : Ev (fun k => ancepslaw05_TokenSpaced.j0 k s cs b) true := by
  refine Ev.step (fun k => ancepslaw05_TokenSpaced.j0.eq_2 _ _ _ _) (Ev.cond (fun h => Ev.bind awake_ev (Ev.now _)) (fun h => ?_))
  obtain ⟨h1, h2, h3⟩ := hb (by simpa using h)
  refine Ev.bind (rtokens_ev s) (Ev.cond (fun h0 => ?_) (fun _ => Ev.now _))
  obtain ⟨hr, hw, hl⟩ := tokensS_right s
  exact spaced_loop cs h2 h3 hcr (tokensS s).1 hr (by omega) (by omega) (tokensS s).1.length 0 [] 1 [] (by omega) rfl rfl rfl (by omega) (by omega)
theorem TokenSpaced : ancepslaw05_TokenSpaced.Pure := by
  intro s cs _ _ _ hc
  refine Ev.rounds ?_
  have hcr : ∀ x ∈ cs, 0 ≤ x := fun x hx => by
    have := hc x hx
    unfold Lit.wf at this
    rw [Bool.and_eq_true, decide_eq_true_iff, decide_eq_true_iff] at this
    exact this.1
  unfold ancepslaw05_TokenSpaced.f
  refine Ev.bind awake_ev (Ev.pos rfl (Ev.cond (fun h => spaced_j0 s cs hcr true (fun h => by simp at h)) (fun h1 => Ev.cond (fun h => spaced_j0 s cs hcr true (fun h => by simp at h)) (fun h2 => spaced_j0 s cs hcr _ (fun h3 => ?_)))))
  rw [decide_eq_false_iff_not] at h3
  exact ⟨by omega, by omega, by omega⟩
end Go.Proofs.Ytkkgacoecimlpaa.Pure
