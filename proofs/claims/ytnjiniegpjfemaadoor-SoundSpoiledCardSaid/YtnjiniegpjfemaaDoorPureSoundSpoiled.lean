/- A text in which one byte of a described list was replaced is not accepted, or the text of another list. -/
import Derived.Test.YtnjiniegpjfemaaDoorS2
import Derived.Test.YtnjiniegpjfemaaDoorS5
import Derived.Test.YtnjiniegpjfemaaDoorS6
import Derived.Test.YtnjiniegpjfemaaDoorX24
namespace Go.Proofs.YtnjiniegpjfemaaDoor.Pure
open Go.RowKit Go.Proofs.YtnjiniegpjfemaaDoor.X Go.Proofs.YtnjiniegpjfemaaDoor.Lem Go.Proofs.YtnjiniegpjfemaaDoorW.PrintWords Go.Proofs.YtnjiniegpjfemaaDoorW.PrintLast
theorem strOf_size (xs : List Int) : (strOfNums xs).size = xs.length := by
  rw [← bytesOf_length]
  unfold bytesOf strOfNums
  simp
theorem spoiled_j1 (l : List Int) (hb : ∀ x ∈ l, (Lit.int .u8 x).wf = true) (hl : l.length ≤ 100) (i b : Int) (hi : 0 ≤ i ∧ i ≤ 65535) (x : Bool) (hx : x = false → (joinB ((allS l).map wl)).size ≠ 0) :
    Ev (fun k => ancepslaw11_SoundSpoiled.j1 k l i b (joinB ((allS l).map wl)) 0 x) true := by
  have hv := allS_valid l hb
  have ha := allS_len l
  have hs := joinB_size (allS l) hv
  have hp := parse_format (allS l) (by omega) hv
  generalize hj : joinB ((allS l).map wl) = s at *
  refine Ev.step (fun k => ancepslaw11_SoundSpoiled.j1.eq_2 _ _ _ _ _ _ _) (Ev.cond (fun h => Ev.now _) (fun h => ?_))
  have hn := hx (by simpa using h)
  rw [w64 (i := i) (by omega) (by omega)]
  have hm : 0 ≤ Int.tmod i (s.size : Int) ∧ Int.tmod i (s.size : Int) < (s.size : Int) := ⟨Int.tmod_nonneg _ hi.1, Int.tmod_lt_of_pos _ (by omega)⟩
  generalize Int.tmod i (s.size : Int) = j at hm
  rw [w64 (i := j + 1) (by omega) (by omega)]
  have z1 : (s.extract 0 (j : Int).toNat).size = j.toNat := by rw [extract_size]; omega
  have z2 : (strOfNums [b]).size = 1 := strOf_size [b]
  have z3 : (s.extract (j + 1 : Int).toNat s.size).size = s.size - (j + 1).toNat := by rw [extract_size]; omega
  have z4 : (s.extract 0 (j : Int).toNat ++ strOfNums [b]).size = j.toNat + 1 := by rw [ByteArray.size_append, z1, z2]
  have z5 : (s.extract 0 (j : Int).toNat ++ strOfNums [b] ++ s.extract (j + 1 : Int).toNat s.size).size ≤ 4000 := by rw [ByteArray.size_append, z4, z3]; omega
  refine Ev.neg (by omega) (Ev.pos (by omega) (Ev.pos (by omega) (Ev.bind (Ev.now _) (Ev.pos (by rw [z1, z2]; omega) (Ev.pos (by omega) (Ev.pos (by omega) (Ev.pos (by rw [z4, z3]; omega) (Ev.bind (parse_ev _) ?_))))))))
  generalize s.extract 0 (j : Int).toNat ++ strOfNums [b] ++ s.extract (j + 1 : Int).toNat s.size = t at z5
  refine Ev.cond (fun h0 => ?_) (fun h0 => ?_)
  · obtain ⟨q1, q2, q3⟩ := parse_ok h0
    obtain ⟨r, r1, r2⟩ := same_ev (parseS t).1 (allS l) (by omega)
    refine Ev.bind (all_ev l (by omega) hb) (Ev.bind r1 (Ev.val ?_))
    rw [beq_iff_eq, Bool.eq_iff_iff, beq_iff_eq, bytes_ext, r2]
    constructor
    · intro e
      rw [← q3, e, hj]
    · rintro rfl
      rw [hp]
  · refine Ev.pos (parse_err z5 h0) (Ev.val ?_)
    rw [bne_iff_ne, Ne, bytes_ext]
    rintro rfl
    rw [hp] at h0
    exact h0 rfl
theorem spoiled_j0 (l : List Int) (hb : ∀ x ∈ l, (Lit.int .u8 x).wf = true) (i b : Int) (hi : 0 ≤ i ∧ i ≤ 65535) (x : Bool) (hl : x = false → l.length ≤ 100) : Ev (fun k => ancepslaw11_SoundSpoiled.j0 k l i b x) true := by
  refine Ev.step (fun k => ancepslaw11_SoundSpoiled.j0.eq_2 _ _ _ _ _) (Ev.cond (fun h => Ev.bind awake_ev (Ev.now _)) (fun h => ?_))
  have hl := hl (by simpa using h)
  have hv := allS_valid l hb
  have ha := allS_len l
  have hf : fmtS (allS l) = (joinB ((allS l).map wl), 0) := by
    unfold fmtS
    rw [if_neg (by omega), if_pos (errF_zero.2 hv)]
  have he := format_ev (allS l)
  rw [hf] at he
  refine Ev.bind (all_ev l (by omega) hb) (Ev.bind he (Ev.pos rfl (spoiled_j1 l hb hl i b hi _ (fun h => ?_))))
  intro hz
  rw [beq_eq_false_iff_ne] at h
  exact h (list_nil.2 hz)
theorem SoundSpoiled : ancepslaw11_SoundSpoiled.Pure := by
  intro l i b _ _ hb hi _
  refine Ev.rounds ?_
  unfold ancepslaw11_SoundSpoiled.f
  have hr : 0 ≤ i ∧ i ≤ 65535 := by
    unfold Lit.wf at hi
    rw [Bool.and_eq_true, decide_eq_true_iff, decide_eq_true_iff] at hi
    exact hi
  exact Ev.bind awake_ev (Ev.pos rfl (spoiled_j0 l hb i b hr _ (fun h => by simp only [decide_eq_false_iff_not] at h; omega)))
end Go.Proofs.YtnjiniegpjfemaaDoor.Pure
