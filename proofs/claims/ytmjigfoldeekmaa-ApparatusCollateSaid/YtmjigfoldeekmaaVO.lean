/- Plain lemmas of chapter 57: what a witness has, in all rows. -/
import Derived.Test.YtmjigfoldeekmaaV2
import Derived.Test.YtmjigfoldeekmaaX24
namespace Go.Proofs.Ytmjigfoldeekmaa.Lem
open Go.RowKit Go.Proofs.Ytmjigfoldeekmaa.X Go.Proofs.YtmjigfoldeekmaaW.PrintWords Go.Proofs.YtmjigfoldeekmaaW.PrintLast
def textsS (w : Int) (l : List S65) : List ByteArray := l.map (fun r => hasS r w)
def ofS (ws : List ByteArray) (l : List S65) (s : ByteArray) : List ByteArray × Int := if appS ws l = 0 then (if idxF s ws 0 < 0 then ([], 4) else (textsS (idxF s ws 0) l, 0)) else ([], appS ws l)
theorem of_loop (w : Int) (hw : 0 ≤ w) (l : List S65) (hs : SmallR l) (d : Nat) : ∀ i : Nat, i + d = l.length → Ev (fun k => apparatus_Of.l0 k w (textsS w (l.take i)) l (l.length : Int) (i : Int)) (textsS w l, 0) := by
  have hl := hs.1
  induction d with
  | zero =>
    intro i hi
    rw [List.take_of_length_le (by omega)]
    exact Ev.step (fun k => rfl) (Ev.neg (by omega) (Ev.val rfl))
  | succ d ih =>
    intro i hi
    obtain ⟨h1, h2, h3⟩ := hs.at_ (show i < l.length by omega)
    refine Ev.step (fun k => rfl) (Ev.pos (by omega) (Ev.pos (by omega) (Ev.pos (by omega) ?_)))
    rw [rdR, w64 (by omega) (by omega)]
    refine Ev.bind (has_ev _ w hw h3) (Ev.pos (by unfold textsS; rw [List.length_map, List.length_take]; omega) ?_)
    have e : textsS w (l.take i) ++ [hasS (l.getD i z65) w] = textsS w (l.take (i + 1)) := by
      unfold textsS
      rw [getD_lt l _ (by omega : i < l.length), List.take_succ_eq_append_getElem (by omega), List.map_append]; rfl
    rw [e]
    exact ih (i + 1) (by omega)
theorem of_ev (ws : List ByteArray) (l : List S65) (s : ByteArray) (hw : Small ws) (hwl : ws.length ≤ 1000000) (hs : SmallR l) : Ev (fun k => apparatus_Of.f k ws l s) (ofS ws l s) := by
  unfold apparatus_Of.f ofS
  refine Ev.bind (wit_ev ws l s hw hwl hs) ?_
  unfold witS
  by_cases h : appS ws l = 0
  · rw [if_pos h, if_pos h]
    by_cases h1 : idxF s ws 0 < 0
    · rw [if_pos h1, if_pos h1]
      exact Ev.neg (by decide) (Ev.val rfl)
    · rw [if_neg h1, if_neg h1]
      exact Ev.pos rfl (of_loop _ (by omega) l hs l.length 0 (by omega))
  · rw [if_neg h, if_neg h]
    exact Ev.neg h (Ev.val rfl)
end Go.Proofs.Ytmjigfoldeekmaa.Lem
