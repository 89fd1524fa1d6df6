/- WordlistTexts in plain words: Format returns the text of any list, or the error, and Parse leads back. -/
import Derived.Test.YtdaooagikacboaaDoorW5
import Derived.Test.YtdaooagikacboaaDoorW6
import Derived.Test.YtdaooagikacboaaDoorX9
namespace Go.Proofs.YtdaooagikacboaaDoor.Lem
open Go.RowKit Go.Proofs.YtdaooagikacboaaDoor.X Go.Proofs.YtdaooagikacboaaDoorW.PrintWords Go.Proofs.YtdaooagikacboaaDoorW.PrintLast
theorem mkB_app (a b : List UInt8) : mkB a ++ mkB b = mkB (a ++ b) := by
  apply ByteArray.ext
  rw [ByteArray.data_append]
  apply Array.toList_inj.1
  rw [Array.toList_append]
theorem rformat_loop (l : List ByteArray) (hl : l.length ≤ 1000000) (hf : (flat l).length ≤ 1000000) (d : Nat) : ∀ i : Nat, i + d = l.length → Ev (fun k => ancepsref54_Format.l0 k (mkB (flat (l.take i))) (i : Int) l) (mkB (flat l), 0) := by
  induction d with
  | zero =>
    intro i hi
    rw [List.take_of_length_le (by omega)]
    exact Ev.step (fun k => rfl) (Ev.neg (by omega) (Ev.val rfl))
  | succ d ih =>
    intro i hi
    have hlt : i < l.length := by omega
    have hfl : (flat (l.take i)).length + (l[i].size + 1) ≤ (flat l).length := wordlist_Format.flat_le hlt
    refine Ev.step (fun k => rfl) (Ev.pos (by omega) (Ev.pos (by omega) ?_))
    rw [rdOf_at l i hlt]
    refine Ev.pos (by rw [mkB_size]; omega) (Ev.pos (by rw [ByteArray.size_append, mkB_size]; omega) ?_)
    have e : (mkB (flat (l.take i)) ++ l[i]) ++ (⟨#[10]⟩ : ByteArray) = mkB (flat (l.take (i + 1))) := by
      rw [List.take_succ_eq_append_getElem hlt, flat_app, flat_cons, ← mkB_app, show l[i].data.toList ++ 10 :: flat [] = l[i].data.toList ++ [10] from rfl, ← mkB_app, mkB_data]
      apply ByteArray.ext
      simp only [ByteArray.data_append, Array.append_assoc]
    rw [e, w64 (by omega) (by omega)]
    exact ih (i + 1) (by omega)
theorem rformat_ev (l : List ByteArray) (hl : l.length ≤ 1000000) : Ev (fun k => ancepsref54_Format.f k l) (formatS l) := by
  unfold ancepsref54_Format.f formatS
  refine Ev.bind (rvalid_ev l (by omega)) (Ev.cond (fun h => ?_) (fun h => Ev.val (by rw [if_neg h])))
  rw [if_pos h]
  have := valid_flat h
  exact rformat_loop l hl (by omega) l.length 0 (by omega)
theorem texts_j1 (l : List ByteArray) (hl : l.length ≤ 420) : Ev (fun k => ancepslaw54_WordlistTexts.j1 k (formatS l).1 (formatS l).2 (formatS l).1 (formatS l).2 ((formatS l).2 != 0) l) true := by
  refine Ev.step (fun k => ancepslaw54_WordlistTexts.j1.eq_2 _ _ _ _ _ _ _) ?_
  by_cases h0 : validS l = 0
  · have e : formatS l = (mkB (flat l), 0) := by unfold formatS; rw [if_pos h0]
    rw [e]
    refine Ev.neg (show ¬ ((0 : Int) != 0) = true by decide) ?_
    have hp : pcs (mkB (flat l)).data.toList = l.map (fun s => s.data.toList) ++ [[]] := pcs_flat l (fun s hs => no_feed (valid_word h0 s hs))
    have hq := parse_ev (mkB (flat l)) _ [] hp (by rw [mkB_size]; have := valid_flat h0; omega)
    have em : (l.map (fun s => s.data.toList)).map mkB = l := by rw [List.map_map]; exact (List.map_congr_left (fun s _ => mkB_data s)).trans (List.map_id' l)
    unfold parseS at hq
    rw [em, if_pos rfl, if_pos (show (checkS l).2 = 0 from h0)] at hq
    exact Ev.bind hq (Ev.pos rfl (Ev.pos rfl (Ev.bind (eqs_ev l (by omega)) (Ev.val rfl))))
  · have e : formatS l = (⟨#[]⟩, validS l) := by unfold formatS; rw [if_neg h0]
    rw [e]
    exact Ev.pos (by simpa using h0) (Ev.pos rfl (Ev.val (by simp)))
theorem texts_j0 (l : List ByteArray) (b : Bool) (hb : b = false → l.length ≤ 420) : Ev (fun k => ancepslaw54_WordlistTexts.j0 k b l) true := by
  refine Ev.step (fun k => ancepslaw54_WordlistTexts.j0.eq_2 _ _ _) (Ev.cond (fun h => Ev.bind awake_ev (Ev.val rfl)) (fun h => ?_))
  have hl := hb (Bool.eq_false_iff.2 h)
  exact Ev.bind (copied_ev l (by omega)) (Ev.bind (format_ev l (by omega)) (Ev.bind (rformat_ev l (by omega)) (Ev.pos rfl (Ev.pos rfl (texts_j1 l hl)))))
end Go.Proofs.YtdaooagikacboaaDoor.Lem
namespace Go.Proofs.YtdaooagikacboaaDoor.Pure
open Go.RowKit Go.Proofs.YtdaooagikacboaaDoor.X Go.Proofs.YtdaooagikacboaaDoorW.PrintWords Go.Proofs.YtdaooagikacboaaDoorW.PrintLast Go.Proofs.YtdaooagikacboaaDoor.Lem
theorem WordlistTexts : ancepslaw54_WordlistTexts.Pure := by
  intro l _ _ hx
  refine Ev.rounds ?_
  unfold ancepslaw54_WordlistTexts.f
  refine Ev.bind awake_ev (Ev.pos rfl ?_)
  obtain ⟨t, ht, hh⟩ := rfew_ev l hx
  refine Ev.bind ht (texts_j0 l _ (fun h => (hh (by simpa using h)).1))
end Go.Proofs.YtdaooagikacboaaDoor.Pure
