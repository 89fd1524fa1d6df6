/- Chapter 54: trees that are the same, the list of the beginnings, and a check that accepts. -/
import Derived.Test.YtdaooagikacboaaT4
import Derived.Test.YtdaooagikacboaaT5
import Derived.Test.YtdaooagikacboaaWE
import Derived.Test.YtdaooagikacboaaW5
import Derived.Test.YtdaooagikacboaaX9
import Derived.Test.YtdaooagikacboaaX11
namespace Go.Proofs.Ytdaooagikacboaa.Lem
open Go.RowKit Go.Proofs.Ytdaooagikacboaa.X Go.Proofs.YtdaooagikacboaaW.PrintWords Go.Proofs.YtdaooagikacboaaW.PrintLast
/-! the same tree -/
theorem same_l1 (l : List Lf) (hl : l.length ≤ 1000000) (hk : ∀ i, (KD l i).length ≤ 1000000) (i : Nat) (hi : i < l.length) (h : Ev (fun k => ancepsref54_SameTree.l0 k l l ((i + 1 : Nat) : Int)) true) (d : Nat) : ∀ j : Nat, j + d = (KD l (i : Int)).length → Ev (fun k => ancepsref54_SameTree.l1 k l l (i : Int) (j : Int)) true := by
  have hkd := hk (i : Int)
  induction d with
  | zero =>
    intro j hj
    refine Ev.step (fun k => ancepsref54_SameTree.l1.eq_2 _ _ _ _ _) (Ev.pos (by omega) (Ev.pos (by omega) (Ev.neg ?_ ?_)))
    · show ¬ (j : Int) < ((KD l (i : Int)).length : Int)
      omega
    · rw [w64 (by omega) (by omega)]; exact h
  | succ d ih =>
    intro j hj
    have hc : (j : Int) < ((KD l (i : Int)).length : Int) := by omega
    refine Ev.step (fun k => ancepsref54_SameTree.l1.eq_2 _ _ _ _ _) (Ev.pos (by omega) (Ev.pos (by omega) (Ev.pos hc (Ev.pos (by omega) (Ev.pos (by omega) (Ev.pos hc (Ev.pos rfl ?_)))))))
    rw [w64 (by omega) (by omega)]
    exact ih (j + 1) (by omega)
theorem same_l0 (l : List Lf) (hl : l.length ≤ 1000000) (hk : ∀ i, (KD l i).length ≤ 1000000) (d : Nat) : ∀ i : Nat, i + d = l.length → Ev (fun k => ancepsref54_SameTree.l0 k l l (i : Int)) true := by
  induction d with
  | zero =>
    intro i hi
    exact Ev.step (fun k => ancepsref54_SameTree.l0.eq_2 _ _ _ _) (Ev.neg (by omega) (Ev.now _))
  | succ d ih =>
    intro i hi
    refine Ev.step (fun k => ancepsref54_SameTree.l0.eq_2 _ _ _ _) (Ev.pos (by omega) (Ev.pos (by omega) (Ev.pos (by omega) (Ev.pos rfl (Ev.neg (by simp) ?_)))))
    exact Ev.step (fun k => ancepsref54_SameTree.j1.eq_2 _ _ _ _ _) (Ev.neg (by simp) (same_l1 l hl hk i (by omega) (ih (i + 1) (by omega)) (KD l (i : Int)).length 0 (by omega)))
theorem same_ev (l : List Lf) (hl : l.length ≤ 1000000) (hk : ∀ i, (KD l i).length ≤ 1000000) : Ev (fun k => ancepsref54_SameTree.f k l l) true := by
  unfold ancepsref54_SameTree.f
  exact Ev.pos rfl (same_l0 l hl hk l.length 0 (by omega))
/-! the same words -/
theorem eqR_loop (a : List ByteArray) (hl : a.length ≤ 1000000) (d : Nat) : ∀ i : Nat, i + d = a.length → Ev (fun k => slices_Equal_string_string.l0 k a a (a.length : Int) (i : Int)) true := by
  induction d with
  | zero => intro i hi; exact Ev.step (fun k => slices_Equal_string_string.l0.eq_2 _ _ _ _ _) (Ev.neg (by omega) (Ev.now _))
  | succ d ih =>
    intro i hi
    refine Ev.step (fun k => slices_Equal_string_string.l0.eq_2 _ _ _ _ _) (Ev.pos (by omega) (Ev.pos (by omega) (Ev.pos (by omega) (Ev.pos (by omega) (Ev.pos rfl ?_)))))
    rw [w64 (by omega) (by omega)]; exact ih (i + 1) (by omega)
theorem eqR_ev (a : List ByteArray) (hl : a.length ≤ 1000000) : Ev (fun k => slices_Equal_string_string.f k a a) true := by
  unfold slices_Equal_string_string.f
  exact Ev.pos rfl (eqR_loop a hl a.length 0 (by omega))
/-! the beginnings -/
theorem add_mem (ks : List ByteArray) (s q : ByteArray) : q ∈ ancepslaw54_WordlistTree.add ks s ↔ q ∈ ks ∨ q = s := by
  unfold ancepslaw54_WordlistTree.add
  split
  · rename_i h
    rw [ancepslaw54_WordlistTree.has_iff] at h
    exact ⟨.inl, fun h1 => h1.elim id (fun h2 => h2 ▸ h)⟩
  · rw [List.mem_append, List.mem_singleton]
theorem add_nodup (ks : List ByteArray) (s : ByteArray) (h : ks.Nodup) : (ancepslaw54_WordlistTree.add ks s).Nodup := by
  unfold ancepslaw54_WordlistTree.add
  split
  · exact h
  · rename_i h1
    rw [ancepslaw54_WordlistTree.has_iff] at h1
    exact List.nodup_append.2 ⟨h, by simp, fun a ha b hb => by rw [List.mem_singleton] at hb; rintro rfl; exact h1 (hb ▸ ha)⟩
theorem add_len (ks : List ByteArray) (s : ByteArray) : (ancepslaw54_WordlistTree.add ks s).length ≤ ks.length + 1 := by
  unfold ancepslaw54_WordlistTree.add
  split
  · omega
  · simp
theorem adds (l : List ByteArray) : ∀ ks : List ByteArray, ks.Nodup → (l.foldl ancepslaw54_WordlistTree.add ks).Nodup ∧ (l.foldl ancepslaw54_WordlistTree.add ks).length ≤ ks.length + l.length ∧ ∀ q, q ∈ l.foldl ancepslaw54_WordlistTree.add ks ↔ q ∈ ks ∨ q ∈ l := by
  induction l with
  | nil => intro ks h; exact ⟨h, by simp, fun q => by simp⟩
  | cons s r ih =>
    intro ks h
    obtain ⟨h1, h2, h3⟩ := ih _ (add_nodup ks s h)
    rw [List.foldl_cons]
    refine ⟨h1, ?_, fun q => ?_⟩
    · have := add_len ks s
      rw [List.length_cons]; omega
    · rw [h3, add_mem, List.mem_cons, or_assoc]
theorem all_step (ws : List ByteArray) : ∀ ks : List ByteArray, ks.Nodup → (∀ s ∈ ws, s.size ≤ 16) →
    (ws.foldl (fun ks s => (ancepslaw54_WordlistTree.prefs s).foldl ancepslaw54_WordlistTree.add ks) ks).Nodup ∧ (ws.foldl (fun ks s => (ancepslaw54_WordlistTree.prefs s).foldl ancepslaw54_WordlistTree.add ks) ks).length ≤ ks.length + 16 * ws.length ∧ ∀ q, q ∈ ws.foldl (fun ks s => (ancepslaw54_WordlistTree.prefs s).foldl ancepslaw54_WordlistTree.add ks) ks ↔ q ∈ ks ∨ ∃ s ∈ ws, q ∈ ancepslaw54_WordlistTree.prefs s := by
  induction ws with
  | nil => intro ks h _; exact ⟨h, by simp, fun q => by simp⟩
  | cons s r ih =>
    intro ks h hs
    obtain ⟨a1, a2, a3⟩ := adds (ancepslaw54_WordlistTree.prefs s) ks h
    obtain ⟨h1, h2, h3⟩ := ih _ a1 (fun x hx => hs x (List.mem_cons_of_mem _ hx))
    rw [List.foldl_cons]
    refine ⟨h1, ?_, fun q => ?_⟩
    · have h16 := hs s (List.mem_cons_self ..)
      have : (ancepslaw54_WordlistTree.prefs s).length = s.size := by unfold ancepslaw54_WordlistTree.prefs; simp
      rw [List.length_cons]; omega
    · rw [h3, a3, or_assoc]
      refine or_congr Iff.rfl ⟨?_, ?_⟩
      · rintro (h5 | ⟨x, hx, h5⟩)
        · exact ⟨s, List.mem_cons_self .., h5⟩
        · exact ⟨x, List.mem_cons_of_mem _ hx, h5⟩
      · rintro ⟨x, hx, h5⟩
        rcases List.mem_cons.1 hx with rfl | hx
        · exact .inl h5
        · exact .inr ⟨x, hx, h5⟩
theorem prefs_mem (s q : ByteArray) : q ∈ ancepslaw54_WordlistTree.prefs s ↔ q.data.toList ≠ [] ∧ q.data.toList <+: s.data.toList := by
  unfold ancepslaw54_WordlistTree.prefs
  rw [List.mem_map]
  constructor
  · rintro ⟨i, hi, rfl⟩
    rw [List.mem_range] at hi
    refine ⟨fun h => ?_, ?_⟩
    · have h7 := size_data (s.extract 0 (i + 1))
      rw [h, extract_size, List.length_nil] at h7
      omega
    · rw [ByteArray.data_extract, Array.toList_extract]
      simp [List.take_prefix]
  · rintro ⟨h1, h2⟩
    have hl := h2.length_le
    have h3 := List.length_pos_iff.2 h1
    have hsd := size_data s
    refine ⟨q.data.toList.length - 1, List.mem_range.2 (by omega), ?_⟩
    rw [← bytes_ext, Lib.toList_data, Lib.toList_data, ByteArray.data_extract, Array.toList_extract]
    have h4 := List.prefix_iff_eq_take.1 h2
    rw [show q.data.toList.length - 1 + 1 = q.data.toList.length by omega]
    simp only [List.extract_eq_take_drop, List.drop_zero, Nat.sub_zero]
    exact h4.symm
theorem data_inj {a b : ByteArray} (h : a.data.toList = b.data.toList) : a = b := by
  rw [← bytes_ext, Lib.toList_data, Lib.toList_data]; exact h
/-- how many beginnings -/
theorem all_len {ws : List ByteArray} (h16 : ∀ s ∈ ws, s.size ≤ 16) {N : List Lf} (h : Tr (ws.map (fun w => w.data.toList)) 0 0 N) : N.length = (ancepslaw54_WordlistTree.all ws).length ∧ N.length ≤ 1 + 16 * ws.length := by
  obtain ⟨h1, h2, h3⟩ := all_step ws [⟨#[]⟩] (by simp) h16
  obtain ⟨Q, q1, q2, q3⟩ := Tr.paths h
  have h4 : ∀ q : ByteArray, q ∈ ancepslaw54_WordlistTree.all ws ↔ q.data.toList ∈ Q := by
    intro q
    unfold ancepslaw54_WordlistTree.all
    rw [h3, q3, List.mem_singleton]
    constructor
    · rintro (rfl | ⟨s, hs, h5⟩)
      · exact .inl rfl
      · exact .inr ⟨_, List.mem_map_of_mem hs, ((prefs_mem s q).1 h5).2⟩
    · intro h5
      by_cases h6 : q.data.toList = []
      · exact .inl (data_inj h6)
      · rcases h5 with h5 | ⟨t, ht, h5⟩
        · exact absurd h5 h6
        · obtain ⟨s, hs, rfl⟩ := List.mem_map.1 ht
          exact .inr ⟨s, hs, (prefs_mem s q).2 ⟨h6, h5⟩⟩
  have hA : ((ancepslaw54_WordlistTree.all ws).map (fun q => q.data.toList)).Nodup := List.pairwise_map.2 (h1.imp fun hne h => hne (data_inj h))
  have h5 := nodup_le _ Q hA (fun x hx => by obtain ⟨q, hq, rfl⟩ := List.mem_map.1 hx; exact (h4 q).1 hq)
  have h6 := nodup_le Q ((ancepslaw54_WordlistTree.all ws).map (fun q => q.data.toList)) q2 (fun x hx => List.mem_map.2 ⟨⟨x.toArray⟩, (h4 _).2 (by simpa using hx), by simp⟩)
  rw [List.length_map] at h5 h6
  unfold ancepslaw54_WordlistTree.all at h5 h6 ⊢
  rw [List.length_singleton] at h2
  omega
/-! the check accepts -/
theorem EK_KA (l : List Lf) : EK l l.length = KA l := by
  have : ∀ m, m ≤ l.length → EK l m = KA (l.take m) := by
    intro m
    induction m with
    | zero => intro _; simp [EK, KA]
    | succ m ih =>
      intro h
      rw [EK_succ, ih (by omega), List.take_succ_eq_append_getElem (by omega), KA_app]
      congr 1
      unfold KD nd rd_T46 KA
      rw [Int.toNat_natCast, List.getD_eq_getElem?_getD, List.getElem?_eq_getElem (by omega)]; simp
  rw [this _ (Nat.le_refl _), List.take_length]
theorem seqI_len : ∀ (n a : Nat), (seqI a n).length = n
  | 0, _ => rfl
  | n + 1, a => by rw [seqI, List.length_cons, seqI_len n]
theorem strs_ints (w : ByteArray) : strOfNums (ints w.data.toList) = w := str_bytes w
theorem check_ev54 (ws : List ByteArray) (hv : validS ws = 0) (hw : ws.length ≤ 400) (N : List Lf) (h : Tr (ws.map (fun w => w.data.toList)) 0 0 N) (hl : letT (ws.map (fun w => w.data.toList))) (hN : N.length ≤ 900000) :
    (∀ i, (KD N i).length ≤ 1000000) ∧ Ev (fun k => wordlist_CheckTree.f k ws N) true := by
  have hat : At N 0 N := fun j x hj => by rw [Nat.zero_add]; exact hj
  obtain ⟨e, K, M, hM⟩ := Tr.ne h
  have hpos : 0 < N.length := by rw [hM]; simp
  have hP : allP N := fun m hm => Tr.ok N h hat hl (.inr rfl) m (Nat.zero_le _) (by omega)
  have hperm := Tr.perm h
  rw [← EK_KA] at hperm
  have hSl : (EK N N.length).length = N.length - 1 := by rw [hperm.length_eq, seqI_len]
  have hO : oneT N := fun m h1 h2 => by rw [hperm.count_eq, seqI_count, if_pos (by omega)]
  obtain ⟨hG, hL⟩ := allP_good hP
  have hk : ∀ i, (KD N i).length ≤ 1000000 := by
    intro i
    by_cases h : i.toNat < N.length
    · have h1 := KD_len N i.toNat
      have h2 := EK_len_le N (show i.toNat + 1 ≤ N.length by omega)
      unfold KD nd rd_T46 at h1 ⊢
      rw [Int.toNat_natCast] at h1
      omega
    · unfold KD nd rd_T46
      rw [List.getD_eq_getElem?_getD, List.getElem?_eq_none (by omega)]
      show (([] : List Int)).length ≤ 1000000
      simp
  refine ⟨hk, ?_⟩
  unfold wordlist_CheckTree.f
  have hz : (rd_T46 N 0).f0 = 0 := by rw [hM]; rfl
  have hsp : spl N.length N 0 [] = (ws.map (fun w => w.data.toList)).map ints := by
    have := Tr.spl N h hat N.length [] (by omega)
    rw [show ((0 : Nat) : Int) = 0 from rfl] at this
    rw [this]
    exact List.map_congr_left fun t _ => List.nil_append _
  have hfin : Ev (fun k => wordlist_CheckTree.fin k ws N) true := by
    unfold wordlist_CheckTree.fin
    have hw0 := walk_ev N hG hL hk N.length 0 [] [] (by omega) (by omega) (by omega) (by rw [hsp, List.length_nil, List.length_map, List.length_map]; omega) (by rw [List.length_nil]; omega)
    rw [List.nil_append, show strOfNums [] = (⟨#[]⟩ : ByteArray) from rfl, hsp, List.map_map, List.map_map] at hw0
    have he : ws.map ((strOfNums ∘ ints) ∘ fun w => w.data.toList) = ws := by
      refine (List.map_congr_left fun w _ => ?_).trans (List.map_id ws)
      exact strs_ints w
    rw [he] at hw0
    exact Ev.bind hw0 (eqR_ev ws (by omega))
  refine Ev.bind (valid_ev ws (by omega)) (Ev.pos hv (Ev.neg (by omega) (Ev.pos hz (Ev.pos (by omega) ?_))))
  have h0 := o0_ev ws N (by omega) (by omega) true N.length 0 (by omega)
  rw [show EK N 0 = [] from rfl, cntL_nil] at h0
  refine h0 (fun _ => p0_ev ws N (by omega) true (fun _ => hfin) (fun hn => absurd hO hn) (N.length - 1) 0 (by omega) (fun m h1 h2 => by omega)) (fun ⟨m, _, hm, hb⟩ => by rw [hP m hm] at hb; cases hb)
end Go.Proofs.Ytdaooagikacboaa.Lem
