/- Lines of package token gives the lines of any string (up to 2000 bytes, by the own guard of the law), as the reference's Lines does. -/
import Derived.Test.YtkkgacoecimlpaaDoorLN
import Derived.Test.YtkkgacoecimlpaaDoorX5
import Derived.Test.YtkkgacoecimlpaaDoorX4
namespace Go.Proofs.YtkkgacoecimlpaaDoor.Pure
open Go.RowKit Go.Proofs.YtkkgacoecimlpaaDoor.X Go.Proofs.YtkkgacoecimlpaaDoor.Lem Go.Proofs.YtkkgacoecimlpaaDoorW.PrintWords Go.Proofs.YtkkgacoecimlpaaDoorW.PrintLast
theorem awake_ev : Ev (fun k => ancepslaw05_awake.f k) true := Ev.of (fun k => ancepslaw05_awake.mono k) (k := 60) (by kernel_rfl)
theorem lines_f (s : ByteArray) (hs : s.size ≤ 2000) : token_Lines.f s = some (linesS s) := by
  unfold token_Lines.f
  rw [split10_f s (by omega), Option.bind_some]
  have hl := count10_le s.data.toList
  have hsl : s.data.toList.length = s.size := by simp
  unfold linesS linesL
  obtain ⟨us, z, h⟩ := pcs_snoc s.data.toList
  rw [h] at hl ⊢
  rw [List.length_append, List.length_singleton] at hl
  rw [List.map_append, List.map_cons, List.map_nil]
  have e : ((us.map mkB ++ [mkB z]).length : Int) = (us.length : Int) + 1 := by simp
  rw [e, w64 (by omega) (by omega), show (us.length : Int) + 1 - 1 = (us.length : Int) by omega, if_pos (by omega), if_pos (by omega)]
  have er : rdOf ByteArray.empty (us.map mkB ++ [mkB z]) (us.length : Int) = mkB z := by
    have := rdOf_snoc (us.map mkB) (mkB z)
    rwa [List.length_map] at this
  rw [er, fin_snoc]
  by_cases hz : z = []
  · rw [if_pos (mkB_nil.2 hz), if_pos hz, if_pos (by omega), Int.toNat_natCast, List.take_append_of_le_length (by simp), List.take_of_length_le (by simp)]
  · rw [if_neg (fun h => hz (mkB_nil.1 h)), if_neg hz, List.map_append]; rfl
theorem rlines_loop (s : ByteArray) (hs : s.size ≤ 2000) (d : Nat) : ∀ (i f : Nat) (acc : List ByteArray), i + d = s.size → f ≤ i → acc.length ≤ i →
    Ev (fun k => ancepsref05_Lines.l0 k s acc (f : Int) (i : Int)) (acc ++ (fin (pre ((s.data.toList.take i).drop f) (pcs (s.data.toList.drop i)))).map mkB) := by
  have hsl : s.data.toList.length = s.size := by simp
  induction d with
  | zero =>
    intro i f acc hi hf ha
    rw [show s.data.toList.drop i = [] from List.drop_of_length_le (by omega), pcs_nil]
    have e : fin (pre ((s.data.toList.take i).drop f) [[]]) = if f = i then [] else [(s.data.toList.take i).drop f] := by
      show fin [(s.data.toList.take i).drop f ++ []] = _
      rw [List.append_nil]
      show (if (s.data.toList.take i).drop f = [] then [] else [(s.data.toList.take i).drop f]) = _
      by_cases hfi : f = i
      · rw [if_pos hfi, if_pos (by rw [hfi, List.drop_eq_nil_iff, List.length_take]; omega)]
      · rw [if_neg hfi, if_neg (by rw [List.drop_eq_nil_iff, List.length_take]; omega)]
    rw [e]
    refine Ev.step (fun k => ancepsref05_Lines.l0.eq_2 _ _ _ _ _) (Ev.pos (by omega) (Ev.pos (by omega) (Ev.step (fun k => ancepsref05_Lines.j1.eq_2 _ _ _ _ _ _) (Ev.cond (fun h => Ev.val ?_) (fun h => ?_)))))
    · rw [if_pos (by have := eq_of_beq h; omega)]; simp
    · have hne : f ≠ i := fun e => h (by rw [e]; simp)
      refine Ev.pos (by omega) (Ev.pos (by omega) (Ev.pos (by omega) (Ev.pos (by omega) (Ev.pos (by omega) ?_))))
      rw [w64 (by omega) (by omega), Int.toNat_natCast, Int.toNat_natCast, extract_mkB]
      refine Ev.step (fun k => ancepsref05_Lines.l0.eq_2 _ _ _ _ _) (Ev.neg (by omega) (Ev.val ?_))
      rw [if_neg hne]; rfl
  | succ d ih =>
    intro i f acc hi hf ha
    have hlt : i < s.data.toList.length := by omega
    rw [List.drop_eq_getElem_cons hlt]
    refine Ev.step (fun k => ancepsref05_Lines.l0.eq_2 _ _ _ _ _) (Ev.pos (by omega) (Ev.neg (by omega) (Ev.step (fun k => ancepsref05_Lines.j1.eq_2 _ _ _ _ _ _) (Ev.neg (by simp) (Ev.neg (by omega) (Ev.pos (by omega) (Ev.pos (by omega) ?_)))))))
    rw [bt_data s i hlt]
    refine Ev.cond (fun h => ?_) (fun h => ?_)
    · have hc : s.data.toList[i] = 10 := UInt8.toNat_inj.1 (show s.data.toList[i].toNat = 10 by omega)
      refine Ev.pos (by omega) (Ev.pos (by omega) (Ev.pos (by omega) (Ev.pos (by omega) ?_)))
      rw [w64 (by omega) (by omega), Int.toNat_natCast, Int.toNat_natCast, extract_mkB]
      have := ih (i + 1) (i + 1) (acc ++ [mkB ((s.data.toList.take i).drop f)]) (by omega) (Nat.le_refl _) (by simp; omega)
      rw [show (s.data.toList.take (i + 1)).drop (i + 1) = [] by rw [List.drop_eq_nil_iff, List.length_take]; omega, pre_nil (strings_Split.pieces_ne 10 _), List.append_assoc] at this
      rw [hc, pcs_feed]
      show Ev _ (acc ++ (fin (((s.data.toList.take i).drop f ++ []) :: pcs (s.data.toList.drop (i + 1)))).map mkB)
      rw [fin_cons (strings_Split.pieces_ne 10 _), List.append_nil]
      exact this
    · have hc : s.data.toList[i] ≠ 10 := fun e => h (by rw [e]; rfl)
      rw [w64 (by omega) (by omega)]
      have := ih (i + 1) f acc (by omega) (by omega) (by omega)
      obtain ⟨x, t, h1, h2⟩ := pcs_other hc (s.data.toList.drop (i + 1))
      rw [h1, take_next _ _ _ hlt hf] at this
      rw [h2]
      have e : pre ((s.data.toList.take i).drop f ++ [s.data.toList[i]]) (x :: t) = pre ((s.data.toList.take i).drop f) ((s.data.toList[i] :: x) :: t) := by
        show (((s.data.toList.take i).drop f ++ [s.data.toList[i]]) ++ x) :: t = _
        rw [List.append_assoc]; rfl
      rw [e] at this
      exact this
theorem rlines_ev (s : ByteArray) (hs : s.size ≤ 2000) : Ev (fun k => ancepsref05_Lines.f k s) (linesS s) := by
  unfold ancepsref05_Lines.f
  have := rlines_loop s hs s.size 0 0 [] (by omega) (Nat.le_refl _) (Nat.le_refl _)
  rw [List.take_zero, List.drop_nil, List.drop_zero, pre_nil (strings_Split.pieces_ne 10 _)] at this
  exact this
theorem equal_loop (a : List ByteArray) (hl : a.length ≤ 1000000) (d : Nat) : ∀ i : Nat, i + d = a.length → Ev (fun k => ancepsref01_Equal.l0 k a a (i : Int)) true := by
  induction d with
  | zero => intro i hi; exact Ev.step (fun k => rfl) (Ev.neg (by omega) (Ev.val rfl))
  | succ d ih =>
    intro i hi
    refine Ev.step (fun k => rfl) (Ev.pos (by omega) (Ev.pos (by omega) (Ev.pos (by omega) (Ev.pos rfl ?_))))
    rw [w64 (by omega) (by omega)]
    exact ih (i + 1) (by omega)
theorem equal_ev (a : List ByteArray) (hl : a.length ≤ 1000000) : Ev (fun k => ancepsref01_Equal.f k a a) true := by
  unfold ancepsref01_Equal.f
  exact Ev.pos rfl (equal_loop a hl a.length 0 (by omega))
theorem fin_len : ∀ l : List (List UInt8), (fin l).length ≤ l.length
  | [] => Nat.le_refl _
  | [a] => by unfold fin; split <;> simp
  | a :: b :: r => by
    have := fin_len (b :: r)
    rw [fin_cons (by simp), List.length_cons, List.length_cons]
    omega
theorem tlines_j0 (s : ByteArray) (b : Bool) (hb : b = false → s.size ≤ 2000) : Ev (fun k => ancepslaw05_TokenLines.j0 k s b) true := by
  refine Ev.step (fun k => ancepslaw05_TokenLines.j0.eq_2 _ _ _) (Ev.cond (fun h => Ev.bind awake_ev (Ev.now _)) (fun h => ?_))
  have hs := hb (by simpa using h)
  have h1 := fin_len (pcs s.data.toList)
  have h2 := count10_le s.data.toList
  have hsl : s.data.toList.length = s.size := by simp
  refine Ev.bind (Ev.now' (lines_f s hs)) (Ev.bind (rlines_ev s hs) (Ev.bind (equal_ev (linesS s) ?_) (Ev.now _)))
  unfold linesS linesL
  rw [List.length_map]
  omega
theorem TokenLines : ancepslaw05_TokenLines.Pure := by
  intro s _
  refine Ev.rounds ?_
  unfold ancepslaw05_TokenLines.f
  refine Ev.bind awake_ev (Ev.pos rfl (tlines_j0 s _ (fun h => ?_)))
  rw [decide_eq_false_iff_not] at h
  omega
end Go.Proofs.YtkkgacoecimlpaaDoor.Pure
