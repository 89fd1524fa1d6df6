/- Both trees of a list are the same, the check accepts them, and there is a node for each beginning. -/
import Derived.Test.YtdaooagikacboaaT6
import Derived.Test.YtdaooagikacboaaX6
namespace Go.Proofs.Ytdaooagikacboaa.Pure
open Go.RowKit Go.Proofs.Ytdaooagikacboaa.X Go.Proofs.Ytdaooagikacboaa.Lem Go.Proofs.YtdaooagikacboaaW.PrintWords Go.Proofs.YtdaooagikacboaaW.PrintLast
theorem awake_ev : Ev (fun k => ancepslaw54_awake.f k) true := Ev.of (fun k => ancepslaw54_awake.mono k) (k := 60) (by kernel_rfl)
theorem srt_of {ws : List ByteArray} (h : validS ws = 0) : Srt (ws.map (fun w => w.data.toList)) := by
  unfold Srt
  rw [List.pairwise_map, List.pairwise_iff_getElem]
  intro i j hi hj hij
  have h1 := sorted_at h hij hj
  rw [getD_at _ _ hi, getD_at _ _ hj, less_lt, Lib.toList_data, Lib.toList_data] at h1
  exact h1
theorem word_small {ws : List ByteArray} (h : validS ws = 0) {s : ByteArray} (hs : s ∈ ws) : s.size ≤ 16 ∧ ∀ c ∈ s.data.toList, smallB (c.toNat : Int) = true := by
  obtain ⟨_, h2, h3⟩ := wrongS_ok (valid_word h s hs)
  refine ⟨h2, fun c hc => ?_⟩
  rw [List.all_eq_true] at h3
  exact h3 _ (List.mem_map_of_mem (f := fun b : UInt8 => (b.toNat : Int)) hc)
theorem low_of {ws : List ByteArray} (h : validS ws = 0) : ancepslaw54_WordlistTree.low ws = true := by
  unfold ancepslaw54_WordlistTree.low
  rw [List.all_eq_true]
  intro s hs
  obtain ⟨h1, h2⟩ := word_small h hs
  rw [decide_eq_true (show s.size ≤ 1000000 by omega), Bool.true_and, List.all_eq_true]
  intro c hc
  have h3 := small_let (h2 c hc)
  unfold letB at h3
  simp only [Bool.and_eq_true, decide_eq_true_eq] at h3
  exact decide_eq_true (by omega)
theorem WordlistTree : ancepslaw54_WordlistTree.Pure := by
  intro ws _ _ hs
  refine Ev.rounds ?_
  unfold ancepslaw54_WordlistTree.f
  refine Ev.bind awake_ev (Ev.pos rfl ?_)
  obtain ⟨t, ht, hf⟩ := rfew_ev ws hs
  refine Ev.bind ht (Ev.cond (fun c => ?_) (fun c => awake_ev))
  have hf := hf c
  refine Ev.bind (copied_ev ws (by omega)) ?_
  by_cases hv : validS ws = 0
  · obtain ⟨hl, _⟩ := validS_ok hv
    obtain ⟨N, hN⟩ := tr_ex _ (srt_of hv) 0 0
    obtain ⟨hc1, hc2⟩ := all_len (fun s hs => (word_small hv hs).1) hN
    have hlt : letT (ws.map (fun w => w.data.toList)) := by
      intro t ht c hc
      obtain ⟨s, hs, rfl⟩ := List.mem_map.1 ht
      exact small_let ((word_small hv hs).2 c hc)
    obtain ⟨hk, hck⟩ := check_ev54 ws hv hl N hN hlt (by omega)
    have hhd : Hd [] (ws.map (fun w => w.data.toList)) ws := by
      unfold Hd
      rw [List.map_map]
      exact List.map_congr_left fun w _ => rfl
    have hsz : ∀ w ∈ ws, w.size ≤ 1000000 := fun w hw => Nat.le_trans (word_small hv hw).1 (by omega)
    have hg := Tr.grow hN [] ws [] hhd (by omega) hsz rfl (by omega)
    have hr := Tr.rgrow hN [] ws [] hhd (by omega) hsz rfl (by omega)
    rw [List.nil_append] at hg hr
    have hT : Ev (fun k => wordlist_Tree.f k ws) (N, 0) := by
      unfold wordlist_Tree.f
      exact Ev.bind (valid_ev ws (by omega)) (Ev.pos hv (Ev.bind hg (Ev.now _)))
    have hR : Ev (fun k => ancepsref54_Tree.f k ws) (N, 0) := by
      unfold ancepsref54_Tree.f
      exact Ev.bind (rvalid_ev ws (by omega)) (Ev.pos hv (Ev.bind hr (Ev.now _)))
    refine Ev.bind hT (Ev.bind hR (Ev.pos rfl (Ev.bind (same_ev N (by omega) hk) (Ev.pos rfl (Ev.pos rfl (Ev.pos ⟨⟨by omega, by show N.length ≤ _; omega⟩, low_of hv⟩ (Ev.pos ?_ hck)))))))
    show ((N.length : Nat) : Int) = _
    rw [hc1]
  · have hT : Ev (fun k => wordlist_Tree.f k ws) ([], validS ws) := by
      unfold wordlist_Tree.f
      exact Ev.bind (valid_ev ws (by omega)) (Ev.neg hv (Ev.now _))
    have hR : Ev (fun k => ancepsref54_Tree.f k ws) ([], validS ws) := by
      unfold ancepsref54_Tree.f
      exact Ev.bind (rvalid_ev ws (by omega)) (Ev.neg hv (Ev.now _))
    have h0 : Ev (fun k => ancepsref54_SameTree.f k [] []) true := same_ev [] (by simp) (fun i => by unfold KD nd rd_T46; simp; exact Nat.zero_le _)
    exact Ev.bind hT (Ev.bind hR (Ev.pos rfl (Ev.bind h0 (Ev.pos rfl (Ev.neg hv h0)))))
end Go.Proofs.Ytdaooagikacboaa.Pure
