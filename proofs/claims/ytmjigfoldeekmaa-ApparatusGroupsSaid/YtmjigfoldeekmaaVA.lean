/- Plain lemmas of chapter 57: how often two agree. -/
import Derived.Test.YtmjigfoldeekmaaV2
import Derived.Test.YtmjigfoldeekmaaX18
namespace Go.Proofs.Ytmjigfoldeekmaa.Lem
open Go.RowKit Go.Proofs.Ytmjigfoldeekmaa.X Go.Proofs.YtmjigfoldeekmaaW.PrintWords Go.Proofs.YtmjigfoldeekmaaW.PrintLast
theorem agree_loop (x y : Int) (hx : 0 ≤ x) (hy : 0 ≤ y) (l : List S65) (hs : SmallR l) (d : Nat) : ∀ (i : Nat) (n : Nat), i + d = l.length → n ≤ i → Ev (fun k => apparatus_agree.l0 k x y (n : Int) l (l.length : Int) (i : Int)) ((n + agreeF x y (l.drop i) : Nat) : Int) := by
  have hl := hs.1
  induction d with
  | zero =>
    intro i n hi hn
    rw [List.drop_of_length_le (by omega)]
    exact Ev.step (fun k => rfl) (Ev.neg (by omega) (Ev.val rfl))
  | succ d ih =>
    intro i n hi hn
    obtain ⟨h1, h2, h3⟩ := hs.at_ (show i < l.length by omega)
    rw [drop_getD l z65 (by omega), agreeF]
    refine Ev.step (fun k => rfl) (Ev.pos (by omega) (Ev.pos (by omega) (Ev.pos (by omega) ?_)))
    rw [rdR, w64 (by omega) (by omega), w64 (by omega) (by omega)]
    refine Ev.bind (has_ev _ x hx h3) (Ev.bind (has_ev _ y hy h3) (Ev.cond (fun h => ?_) (fun h => ?_)))
    · rw [if_pos (bytes_ext.1 h)]
      exact Ev.eq (by congr 1; omega) (ih (i + 1) (n + 1) (by omega) (by omega))
    · rw [if_neg (fun e => h (by rw [e]))]
      exact Ev.eq (by congr 1; omega) (ih (i + 1) n (by omega) (by omega))
theorem agree_ev (ws : List ByteArray) (x y : Int) (hx : 0 ≤ x) (hy : 0 ≤ y) (l : List S65) (hs : SmallR l) : Ev (fun k => apparatus_agree.f k ws l x y) (agreeF x y l : Int) := Ev.eq (by rw [Nat.zero_add, List.drop_zero]) (agree_loop x y hx hy l hs l.length 0 0 (by omega) (Nat.le_refl _))
def agrS (ws : List ByteArray) (l : List S65) (x y : ByteArray) : Int × Int := if appS ws l = 0 then (if idxF x ws 0 < 0 ∨ idxF y ws 0 < 0 then (0, 4) else ((agreeF (idxF x ws 0) (idxF y ws 0) l : Int), 0)) else (0, appS ws l)
theorem agr_ev (ws : List ByteArray) (l : List S65) (x y : ByteArray) (hw : Small ws) (hwl : ws.length ≤ 1000000) (hs : SmallR l) : Ev (fun k => apparatus_Agree.f k ws l x y) (agrS ws l x y) := by
  unfold apparatus_Agree.f agrS
  refine Ev.bind (wit_ev ws l x hw hwl hs) ?_
  have hy := wit_ev ws l y hw hwl hs
  unfold witS at hy ⊢
  by_cases h : appS ws l = 0
  · rw [if_pos h] at hy
    rw [if_pos h, if_pos h]
    by_cases h1 : idxF x ws 0 < 0
    · rw [if_pos h1, if_pos (.inl h1)]
      exact Ev.neg (by decide) (Ev.val rfl)
    · rw [if_neg h1]
      refine Ev.pos rfl (Ev.bind hy ?_)
      by_cases h2 : idxF y ws 0 < 0
      · rw [if_pos h2, if_pos (.inr h2)]
        exact Ev.neg (by decide) (Ev.val rfl)
      · rw [if_neg h2, if_neg (fun e => e.elim h1 h2)]
        exact Ev.pos rfl (Ev.bind (agree_ev ws _ _ (by omega) (by omega) l hs) (Ev.val rfl))
  · rw [if_neg h, if_neg h]
    exact Ev.neg h (Ev.val rfl)
theorem agrS_comm (ws : List ByteArray) (l : List S65) (x y : ByteArray) : agrS ws l x y = agrS ws l y x := by
  unfold agrS
  rw [agreeF_comm]
  simp only [or_comm (a := idxF x ws 0 < 0)]
end Go.Proofs.Ytmjigfoldeekmaa.Lem
