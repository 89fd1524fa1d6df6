/- Format gives the text of any few sounds, or the error, as the reference does; Parse leads back. -/
import Derived.Test.YtnjiniegpjfemaaDoorS2
import Derived.Test.YtnjiniegpjfemaaDoorS6
import Derived.Test.YtnjiniegpjfemaaDoorX13
import Derived.Test.YtnjiniegpjfemaaDoorX25
namespace Go.Proofs.YtnjiniegpjfemaaDoor.Pure
open Go.RowKit Go.Proofs.YtnjiniegpjfemaaDoor.X Go.Proofs.YtnjiniegpjfemaaDoor.Lem Go.Proofs.YtnjiniegpjfemaaDoorW.PrintWords Go.Proofs.YtnjiniegpjfemaaDoorW.PrintLast
theorem letters_f : ancepsref11_letters.f = some (⟨#[32, 118, 100, 109, 108, 110, 115, 120, 103, 98]⟩ : ByteArray) := rfl
/-- the text of one more sound -/
theorem text_j1 (l : List S23) (hl : l.length ≤ 1000) (i : Nat) (hi : i < l.length) (hv : validS l[i].f0 l[i].f1 l[i].f2 = 0) (u : List UInt8) (hu : u.length ≤ 1000000) (r : ByteArray)
    (h : Ev (fun k => ancepsref11_Text.l0 k l (mkB (u ++ wl l[i])) ((i + 1 : Nat) : Int)) r) : Ev (fun k => ancepsref11_Text.j1 k l (mkB u) (i : Int)) r := by
  obtain ⟨v1, v2, v3, v4, v5, v6⟩ := validS_zero hv
  refine Ev.step (fun k => ancepsref11_Text.j1.eq_2 _ _ _ _) (Ev.pos (by omega) (Ev.pos (by omega) ?_))
  rw [rd_at l i hi, w64 (i := l[i].f0 + 1) (by omega) (by omega), w64 (i := (i : Int) + 1) (by omega) (by omega)]
  have e1 : mkB u ++ l[i].f2 = mkB (u ++ l[i].f2.data.toList) := by rw [← mkB_app, mkB_data]
  have e2 : mkB (u ++ l[i].f2.data.toList) ++ (⟨#[47]⟩ : ByteArray) = mkB (u ++ (l[i].f2.data.toList ++ [47])) := by
    rw [show (⟨#[47]⟩ : ByteArray) = mkB [47] from rfl, mkB_app, List.append_assoc]
  have z0 : (mkB u).size = u.length := mkB_size u
  have z1 : (mkB (u ++ l[i].f2.data.toList)).size = u.length + l[i].f2.size := by rw [mkB_size, List.length_append, dlen]
  have z2 : (mkB (u ++ (l[i].f2.data.toList ++ [47]))).size = u.length + l[i].f2.size + 1 := by rw [mkB_size, List.length_append, List.length_append, dlen]; simp; omega
  have z3 : (mkB [klOf l[i].f0]).size = 1 := mkB_size _
  rw [e1, e2]
  refine Ev.pos (by omega) (Ev.pos (by omega) (Ev.bind (Ev.now' letters_f) (Ev.pos (by omega) (Ev.pos (by omega) (Ev.pos (by rw [show ((⟨#[32, 118, 100, 109, 108, 110, 115, 120, 103, 98]⟩ : ByteArray).size : Int) = 10 from rfl]; omega) ?_)))))
  rw [ext_k10 _ v1 v2, mkB_app, List.append_assoc u]
  refine Ev.pos (by omega) (Ev.bind (Ev.now' (rNucleus_f _ _ _)) (Ev.cond (fun hn => ?_) (fun hn => ?_)))
  · have hb := quant_nuc v3 hn
    rw [w64 (i := l[i].f1 + 1) (by omega) (by omega), ext_d _ hb, mkB_app, List.append_assoc u, wl_nuc _ hn]
    have z4 : (mkB (u ++ (l[i].f2.data.toList ++ [47] ++ [klOf l[i].f0]))).size ≤ u.length + l[i].f2.size + 2 := by rw [mkB_size, List.length_append, List.length_append, List.length_append, dlen]; simp; omega
    have z5 : (mkB [(48 + l[i].f1).toNat.toUInt8]).size = 1 := mkB_size _
    exact Ev.pos (by omega) (Ev.pos (by omega) (Ev.pos (by omega) (Ev.pos (by omega) h)))
  · rw [wl_other _ hn]
    exact h
theorem text_loop (l : List S23) (hl : l.length ≤ 1000) (hv : ∀ x ∈ l, validS x.f0 x.f1 x.f2 = 0) (d : Nat) : ∀ (i : Nat) (u : List UInt8), i + d = l.length → 0 < i → u.length ≤ 12 * i →
    Ev (fun k => ancepsref11_Text.l0 k l (mkB u) (i : Int)) (mkB (u ++ Lib.joinTail [32] ((l.drop i).map wl))) := by
  induction d with
  | zero =>
    intro i u hi h0 hu
    rw [List.drop_of_length_le (by omega)]
    refine Ev.step (fun k => ancepsref11_Text.l0.eq_2 _ _ _ _) (Ev.neg (by omega) (Ev.val ?_))
    rw [List.map_nil]
    unfold Lib.joinTail
    simp
  | succ d ih =>
    intro i u hi h0 hu
    have hlt : i < l.length := by omega
    have hvi := hv _ (List.getElem_mem hlt)
    have hw := wl_len _ hvi
    rw [List.drop_eq_getElem_cons hlt, List.map_cons]
    have hih := ih (i + 1) (u ++ [32] ++ wl l[i]) (by omega) (by omega) (by simp only [List.length_append, List.length_singleton]; omega)
    have e : Lib.joinTail [32] (wl l[i] :: (l.drop (i + 1)).map wl) = [32] ++ wl l[i] ++ Lib.joinTail [32] ((l.drop (i + 1)).map wl) := by
      unfold Lib.joinTail
      simp
    have z0 : (mkB u).size = u.length := mkB_size u
    refine Ev.step (fun k => ancepsref11_Text.l0.eq_2 _ _ _ _) (Ev.pos (by omega) (Ev.pos (by omega) (Ev.pos (by omega) ?_)))
    rw [show mkB u ++ (⟨#[32]⟩ : ByteArray) = mkB (u ++ [32]) from mkB_app u [32], e]
    rw [show u ++ ([32] ++ wl l[i] ++ Lib.joinTail [32] ((l.drop (i + 1)).map wl)) = u ++ [32] ++ wl l[i] ++ Lib.joinTail [32] ((l.drop (i + 1)).map wl) by simp]
    exact text_j1 l hl i hlt hvi (u ++ [32]) (by simp only [List.length_append, List.length_singleton]; omega) _ hih
theorem join_tail (x : List UInt8) (r : List (List UInt8)) : Lib.join (x :: r) [32] = x ++ Lib.joinTail [32] r := by
  induction r generalizing x with
  | nil => rw [Lib.join_one]; unfold Lib.joinTail; simp
  | cons y r ih => rw [join_cc, ih y]; unfold Lib.joinTail; simp
theorem text_ev (l : List S23) (hl : l.length ≤ 1000) (hv : ∀ x ∈ l, validS x.f0 x.f1 x.f2 = 0) : Ev (fun k => ancepsref11_Text.f k l) (joinB (l.map wl)) := by
  unfold ancepsref11_Text.f
  cases l with
  | nil => exact Ev.step (fun k => ancepsref11_Text.l0.eq_2 _ _ _ _) (Ev.neg (by simp) (Ev.val rfl))
  | cons x r =>
    have hvx := hv x (List.mem_cons_self ..)
    have hw := wl_len x hvx
    have h := text_loop (x :: r) hl hv r.length 1 (wl x) (by simp; omega) (by omega) (by omega)
    rw [show (x :: r).drop 1 = r from rfl, ← join_tail] at h
    refine Ev.step (fun k => ancepsref11_Text.l0.eq_2 _ _ _ _) (Ev.pos (by simp) (Ev.neg (by omega) ?_))
    exact text_j1 (x :: r) hl 0 (by simp) hvx [] (by simp) _ h
theorem rFormat_loop (l : List S23) (hl : l.length ≤ 1000) (r : ByteArray) (ht : errF l = 0 → Ev (fun k => ancepsref11_Text.f k l) r) (d : Nat) : ∀ (i : Nat), i + d = l.length → (∀ x ∈ l.take i, validS x.f0 x.f1 x.f2 = 0) →
    Ev (fun k => ancepsref11_Format.l0 k l (i : Int)) (if errF l = 0 then (r, 0) else ((⟨#[]⟩ : ByteArray), errF (l.drop i))) := by
  induction d with
  | zero =>
    intro i hi hx
    rw [List.take_of_length_le (by omega)] at hx
    have h0 := errF_zero.2 hx
    rw [if_pos h0]
    exact Ev.step (fun k => rfl) (Ev.neg (by omega) (Ev.bind (ht h0) (Ev.now _)))
  | succ d ih =>
    intro i hi hx
    have hlt : i < l.length := by omega
    rw [List.drop_eq_getElem_cons hlt, errF]
    refine Ev.step (fun k => rfl) (Ev.pos (by omega) (Ev.pos (by omega) ?_))
    rw [rd_at l i hlt]
    refine Ev.bind (rValid_ev _ _ _) (Ev.cond (fun h => ?_) (fun h => ?_))
    · rw [if_pos h, w64 (by omega) (by omega)]
      refine ih (i + 1) (by omega) (fun x hm => ?_)
      rw [List.take_succ_eq_append_getElem hlt] at hm
      rcases List.mem_append.1 hm with hm | hm
      · exact hx x hm
      · rw [List.mem_singleton.1 hm]; exact h
    · rw [if_neg h, if_neg (fun z => h (errF_zero.1 z _ (List.getElem_mem hlt)))]
      exact Ev.now _
theorem rFormat_ev (l : List S23) : Ev (fun k => ancepsref11_Format.f k l) (fmtS l) := by
  unfold ancepsref11_Format.f fmtS
  by_cases h : 200 < l.length
  · rw [if_pos h]; exact Ev.pos (by omega) (Ev.now _)
  · rw [if_neg h]
    have := rFormat_loop l (by omega) (joinB (l.map wl)) (fun h0 => text_ev l (by omega) (errF_zero.1 h0)) l.length 0 (by omega) (by simp)
    rw [List.drop_zero] at this
    exact Ev.neg (by omega) this
theorem clone_f (l : List S23) (hl : l.length ≤ 100000) : api_Sound_22.f l = some l := by
  unfold api_Sound_22.f
  rw [Option.bind_some, if_pos (by simp; omega)]; rfl
theorem format_j1 (l : List S23) (s : ByteArray) (e : Int) (hf : fmtS l = (s, e)) (x : Bool) (hx : x = false → e = 0) : Ev (fun k => ancepslaw11_SoundFormat.j1 k l s e s e x) true := by
  refine Ev.step (fun k => ancepslaw11_SoundFormat.j1.eq_2 _ _ _ _ _ _ _) (Ev.cond (fun h => Ev.pos rfl (Ev.val (by simp))) (fun h => ?_))
  have he := hx (by simpa using h)
  unfold fmtS at hf
  by_cases h2 : 200 < l.length
  · rw [if_pos h2] at hf
    have := (Prod.mk.inj hf).2
    omega
  · rw [if_neg h2] at hf
    by_cases h3 : errF l = 0
    · rw [if_pos h3] at hf
      obtain ⟨e1, e2⟩ := Prod.mk.inj hf
      have hp := parse_ev s
      rw [← e1, parse_format l (by omega) (errF_zero.1 h3)] at hp
      rw [← e1]
      exact Ev.bind hp (Ev.pos rfl (Ev.bind (same_self l (by omega)) (Ev.now _)))
    · rw [if_neg h3] at hf
      have := (Prod.mk.inj hf).2
      omega
theorem format_j0 (l : List S23) (x : Bool) (hl : x = false → l.length ≤ 210) : Ev (fun k => ancepslaw11_SoundFormat.j0 k l x) true := by
  refine Ev.step (fun k => ancepslaw11_SoundFormat.j0.eq_2 _ _ _) (Ev.cond (fun h => Ev.bind awake_ev (Ev.now _)) (fun h => ?_))
  have hl := hl (by simpa using h)
  exact Ev.bind (Ev.now' (clone_f l (by omega))) (Ev.bind (format_ev l) (Ev.bind (rFormat_ev l) (Ev.pos rfl (Ev.pos rfl (format_j1 l (fmtS l).1 (fmtS l).2 rfl _ (fun h => by simpa using h))))))
theorem SoundFormat : ancepslaw11_SoundFormat.Pure := by
  intro l _ _ _
  refine Ev.rounds ?_
  unfold ancepslaw11_SoundFormat.f
  obtain ⟨r, h1, h2⟩ := few_ev l 210 (by omega)
  refine Ev.bind awake_ev (Ev.pos rfl (Ev.bind h1 (format_j0 l _ (fun h => ?_))))
  have := (h2 (by simpa using h)).1
  omega
end Go.Proofs.YtnjiniegpjfemaaDoor.Pure
