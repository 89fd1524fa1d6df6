/- Of, Unique and Agree of package apparatus return what the reference returns, for any apparatus and any two names; Agree is symmetric (what is larger than the law's own guards is left out by the law itself). -/
import Derived.Test.YtmjigfoldeekmaaV3
import Derived.Test.YtmjigfoldeekmaaX20
namespace Go.Proofs.Ytmjigfoldeekmaa.Pure
open Go.RowKit Go.Proofs.Ytmjigfoldeekmaa.X Go.Proofs.Ytmjigfoldeekmaa.Lem Go.Proofs.YtmjigfoldeekmaaW.PrintWords Go.Proofs.YtmjigfoldeekmaaW.PrintLast
theorem awake_ev : Ev (fun k => ancepslaw57_awake.f k) true := Ev.of (fun k => ancepslaw57_awake.mono k) (k := 60) (by kernel_rfl)
theorem ofS_len (ws : List ByteArray) (l : List S65) (s : ByteArray) (h : l.length ≤ 1000000) : (ofS ws l s).1.length ≤ 1000000 := by
  unfold ofS textsS
  split
  · split
    · simp
    · simp only [List.length_map]; exact h
  · simp
theorem uniqS_len (ws : List ByteArray) (l : List S65) (s : ByteArray) (h : l.length ≤ 1000000) : (uniqS ws l s).1.length ≤ 1000000 := by
  unfold uniqS
  split
  · split
    · simp
    · exact Nat.le_trans (uniqF_len _ _ l 0) h
  · simp
theorem ApparatusOf : ancepslaw57_ApparatusOf.Pure := by
  intro ws l x y h0 h1 h2 h3 h4 h5 hx hy
  refine Ev.rounds (g := fun k => ancepslaw57_ApparatusOf.f k ws l x y) ?_
  have hw : Small ws := fun z hz => by have := h2 z hz; omega
  have hb : BigR l := ⟨by omega, fun z hz => by
    have hz1 := h5 z hz
    exact ⟨by have := hz1.1; omega, fun v hv => by have := hz1.2.2.2 v hv; omega, by have := hz1.2.2.1; omega⟩⟩
  obtain ⟨b, hf, hb2⟩ := few_ev ws l hw (by omega) hb
  have hskip : ∀ z, Ev (fun k => ancepslaw57_ApparatusOf.j0 k x y z ws l) true → Ev (fun k => ancepslaw57_ApparatusOf.j0 k x y z ws l) true := fun _ h => h
  have hj : Ev (fun k => ancepslaw57_ApparatusOf.j0 k x y true ws l) true := Ev.step (fun k => ancepslaw57_ApparatusOf.j0.eq_2 _ _ _ _ _ _) (Ev.pos rfl (Ev.bind awake_ev (Ev.val rfl)))
  unfold ancepslaw57_ApparatusOf.f
  refine Ev.bind awake_ev (Ev.pos rfl (Ev.bind hf ?_))
  cases b with
  | false => exact Ev.neg (by decide) hj
  | true =>
    obtain ⟨e1, e2, hs⟩ := hb2 rfl
    have hwl : ws.length ≤ 1000000 := by omega
    have hn : Ev (fun k => ancepslaw57_ApparatusOf.j0 k x y false ws l) true := by
      refine Ev.step (fun k => ancepslaw57_ApparatusOf.j0.eq_2 _ _ _ _ _ _) (Ev.neg Bool.false_ne_true ?_)
      refine Ev.bind (of_ev ws l x hw hwl hs) (Ev.bind (rof_ev ws l x hw hwl hs) (Ev.bind (uniq_ev ws l x hw hwl hs) (Ev.bind (runiq_ev ws l x hw hwl hs) (Ev.bind (agr_ev ws l x y hw hwl hs) (Ev.bind (ragr_ev ws l x y hw hwl hs) (Ev.bind (agr_ev ws l y x hw hwl hs) ?_))))))
      have hl1 := ofS_len ws l x hs.1
      have hl2 := uniqS_len ws l x hs.1
      refine Ev.pos rfl (Ev.bind (equal_ev _ (by omega)) (Ev.pos rfl (Ev.pos rfl (Ev.bind (ints_ev _ (by omega)) (Ev.pos rfl (Ev.pos rfl (Ev.pos rfl (Ev.val ?_))))))))
      rw [agrS_comm ws l y x]
      exact beq_iff_eq.2 rfl
    refine Ev.pos rfl (Ev.cond (fun h => hj) (fun h => ?_))
    by_cases h6 : (y.size : Int) > 100
    · rw [decide_eq_true h6]; exact hj
    · rw [decide_eq_false h6]; exact hn
end Go.Proofs.Ytmjigfoldeekmaa.Pure
