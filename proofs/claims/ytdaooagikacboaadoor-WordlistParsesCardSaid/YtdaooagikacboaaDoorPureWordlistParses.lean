/- WordlistParses in plain words: Parse returns the list with any text, whose text it is, or the error with its line. -/
import Derived.Test.YtdaooagikacboaaDoorW6
import Derived.Test.YtdaooagikacboaaDoorX8
namespace Go.Proofs.YtdaooagikacboaaDoor.Lem
open Go.RowKit Go.Proofs.YtdaooagikacboaaDoor.X Go.Proofs.YtdaooagikacboaaDoorW.PrintWords Go.Proofs.YtdaooagikacboaaDoorW.PrintLast
theorem checkS_len {us : List ByteArray} (h : (checkS us).2 = 0) : us.length ≤ 400 := (validS_ok (l := us) h).1
theorem parses_j1 (s : ByteArray) (us : List (List UInt8)) (z : List UInt8) (h : pcs s.data.toList = us ++ [z]) (hs : s.size ≤ 20000) : Ev (fun k => ancepslaw54_WordlistParses.j1 k s (parseS (us.map mkB) z).2.1 (parseS (us.map mkB) z).2.2 (parseS (us.map mkB) z).2.1 (parseS (us.map mkB) z).2.2 ((parseS (us.map mkB) z).2.2 != 0) (parseS (us.map mkB) z).1 (parseS (us.map mkB) z).1) true := by
  have hc := count10_le s.data.toList
  have hsl : s.data.toList.length = s.size := by simp
  rw [h, List.length_append, List.length_singleton] at hc
  refine Ev.step (fun k => ancepslaw54_WordlistParses.j1.eq_2 _ _ _ _ _ _ _ _ _) ?_
  by_cases h0 : (parseS (us.map mkB) z).2.2 = 0
  · refine Ev.neg (by rw [h0]; decide) ?_
    have hp : z = [] ∧ (checkS (us.map mkB)).2 = 0 ∧ (parseS (us.map mkB) z).1 = us.map mkB := by
      unfold parseS at h0 ⊢
      by_cases hz : z = []
      · rw [if_pos hz] at h0 ⊢
        by_cases h1 : (checkS (us.map mkB)).2 = 0
        · rw [if_pos h1]; exact ⟨hz, h1, rfl⟩
        · rw [if_neg h1] at h0; exact absurd h0 h1
      · rw [if_neg hz] at h0; cases h0
    rw [hp.2.2]
    obtain ⟨rfl, h1, _⟩ := hp
    have hf := format_ev (us.map mkB) (by rw [List.length_map]; omega)
    unfold formatS at hf
    rw [if_pos (show validS (us.map mkB) = 0 from h1), flat_of h] at hf
    exact Ev.bind hf (Ev.pos rfl (Ev.val (by rw [mkB_data]; exact beq_iff_eq.2 rfl)))
  · refine Ev.pos (by simpa using h0) (Ev.pos rfl (Ev.pos rfl (Ev.bind (eqs_ev _ ?_) (Ev.val rfl))))
    unfold parseS
    split
    · split
      · rw [List.length_map]; omega
      · exact Nat.zero_le _
    · exact Nat.zero_le _
theorem parses_j0 (s : ByteArray) (b : Bool) (hb : b = false → s.size ≤ 5000 ∨ 20000 < s.size) : Ev (fun k => ancepslaw54_WordlistParses.j0 k s b) true := by
  refine Ev.step (fun k => ancepslaw54_WordlistParses.j0.eq_2 _ _ _) (Ev.cond (fun h => Ev.bind awake_ev (Ev.val rfl)) (fun h => ?_))
  have hs := hb (Bool.eq_false_iff.2 h)
  by_cases hbig : 20000 < s.size
  · have h1 : Ev (fun k => wordlist_Parse.f k s) (([] : List ByteArray), 0, 3) := by unfold wordlist_Parse.f; exact Ev.pos (by omega) (Ev.val rfl)
    have h2 : Ev (fun k => ancepsref54_Parse.f k s) (([] : List ByteArray), 0, 3) := by unfold ancepsref54_Parse.f; exact Ev.pos (by omega) (Ev.val rfl)
    exact Ev.bind h1 (Ev.bind h2 (Ev.pos rfl (Ev.pos rfl (Ev.bind (eqs_ev [] (Nat.zero_le _)) (Ev.pos rfl (Ev.step (fun k => ancepslaw54_WordlistParses.j1.eq_2 _ _ _ _ _ _ _ _ _) (Ev.pos rfl (Ev.pos rfl (Ev.pos rfl (Ev.bind (eqs_ev [] (Nat.zero_le _)) (Ev.val rfl)))))))))))
  · obtain ⟨us, z, h0⟩ := pcs_snoc s.data.toList
    have hc := count10_le s.data.toList
    have hsl : s.data.toList.length = s.size := by simp
    rw [h0, List.length_append, List.length_singleton] at hc
    refine Ev.bind (parse_ev s us z h0 (by omega)) (Ev.bind (rparse_ev s us z h0 (by omega)) (Ev.pos rfl (Ev.pos rfl (Ev.bind (eqs_ev _ ?_) (Ev.pos rfl (parses_j1 s us z h0 (by omega)))))))
    unfold parseS
    split
    · split
      · rw [List.length_map]; omega
      · exact Nat.zero_le _
    · exact Nat.zero_le _
end Go.Proofs.YtdaooagikacboaaDoor.Lem
namespace Go.Proofs.YtdaooagikacboaaDoor.Pure
open Go.RowKit Go.Proofs.YtdaooagikacboaaDoor.X Go.Proofs.YtdaooagikacboaaDoorW.PrintWords Go.Proofs.YtdaooagikacboaaDoorW.PrintLast Go.Proofs.YtdaooagikacboaaDoor.Lem
theorem WordlistParses : ancepslaw54_WordlistParses.Pure := by
  intro s _
  refine Ev.rounds ?_
  unfold ancepslaw54_WordlistParses.f
  refine Ev.bind awake_ev (Ev.pos rfl (Ev.cond (fun h => parses_j0 s _ (fun h2 => ?_)) (fun h => parses_j0 s _ (fun _ => .inl (by omega)))))
  rw [decide_eq_false_iff_not] at h2
  omega
end Go.Proofs.YtdaooagikacboaaDoor.Pure
