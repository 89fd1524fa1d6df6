/- Two described lists, one behind the other: their beats, nuclei, clusters and text. -/
import Derived.Test.YtnjiniegpjfemaaDoorS7
import Derived.Test.YtnjiniegpjfemaaDoorS2
import Derived.Test.YtnjiniegpjfemaaDoorX5
import Derived.Test.YtnjiniegpjfemaaDoorX7
namespace Go.Proofs.YtnjiniegpjfemaaDoor.Pure
open Go.RowKit Go.Proofs.YtnjiniegpjfemaaDoor.X Go.Proofs.YtnjiniegpjfemaaDoor.Lem Go.Proofs.YtnjiniegpjfemaaDoorW.PrintWords Go.Proofs.YtnjiniegpjfemaaDoorW.PrintLast
theorem rd_L3_at (l : List (List S23)) (i : Nat) (h : i < l.length) : rd_L3 l (i : Int) = l[i] := by
  unfold rd_L3
  rw [Int.toNat_natCast, List.getD_eq_getElem?_getD, List.getElem?_eq_getElem h]; rfl
theorem sameL_loop (l : List (List S23)) (hl : l.length ≤ 100000) (hx : ∀ y ∈ l, y.length ≤ 100000) (d : Nat) : ∀ (i : Nat), i + d = l.length → Ev (fun k => ancepsref11_SameLists.l0 k l l (i : Int)) true := by
  induction d with
  | zero => intro i hi; exact Ev.step (fun k => rfl) (Ev.neg (by omega) (Ev.now _))
  | succ d ih =>
    intro i hi
    have hlt : i < l.length := by omega
    have hs := same_self l[i] (hx _ (List.getElem_mem hlt))
    rw [← rd_L3_at l i hlt] at hs
    refine Ev.step (fun k => rfl) (Ev.pos (by omega) (Ev.pos (by omega) (Ev.pos (by omega) (Ev.bind hs (Ev.pos rfl ?_)))))
    rw [w64 (by omega) (by omega)]
    exact ih (i + 1) (by omega)
theorem sameL_ev (l : List (List S23)) (hl : l.length ≤ 100000) (hx : ∀ y ∈ l, y.length ≤ 100000) : Ev (fun k => ancepsref11_SameLists.f k l l) true := by
  unfold ancepsref11_SameLists.f
  exact Ev.pos rfl (sameL_loop l hl hx l.length 0 (by omega))
theorem concat_f (l : List (List S23)) (h1 : l.flatten.length ≤ 1000000) (h2 : l.length ≤ 1000000) : api_Sound_34.f l = some l.flatten := by
  unfold api_Sound_34.f
  rw [if_pos ⟨h1, h2⟩]
theorem concatL_f (l : List (List (List S23))) (h1 : l.flatten.length ≤ 1000000) (h2 : l.length ≤ 1000000) : api_Sound_35.f l = some l.flatten := by
  unfold api_Sound_35.f
  rw [if_pos ⟨h1, h2⟩]
theorem text_both (L M : List S23) (hL : L ≠ []) (hM : M ≠ []) : joinB ((L ++ M).map wl) = (joinB (L.map wl) ++ (⟨#[32]⟩ : ByteArray)) ++ joinB (M.map wl) := by
  unfold joinB
  rw [List.map_append, join_app _ _ (by simpa using hL) (by simpa using hM), show (⟨#[32]⟩ : ByteArray) = mkB [32] from rfl, mkB_app, mkB_app]
  congr 1
  simp
theorem text_left (M : List S23) : joinB (([] ++ M).map wl) = joinB (([] : List S23).map wl) ++ joinB (M.map wl) := by
  unfold joinB
  rw [mkB_app, List.map_nil, Lib.join_nil]; rfl
theorem text_right (L : List S23) : joinB ((L ++ []).map wl) = joinB (L.map wl) ++ joinB (([] : List S23).map wl) := by
  unfold joinB
  rw [mkB_app, List.map_nil, Lib.join_nil, List.append_nil, List.append_nil]
theorem fmt_ok (l : List S23) (hl : l.length ≤ 200) (h : ∀ x ∈ l, validS x.f0 x.f1 x.f2 = 0) : fmtS l = (joinB (l.map wl), 0) := by
  unfold fmtS
  rw [if_neg (by omega), if_pos (errF_zero.2 h)]
theorem joined_text (L M : List S23) (hL : L.length ≤ 100) (hM : M.length ≤ 100) (vL : ∀ x ∈ L, validS x.f0 x.f1 x.f2 = 0) (vM : ∀ x ∈ M, validS x.f0 x.f1 x.f2 = 0) (g : ByteArray × Int → ByteArray × Int → ByteArray × Int → Option Bool)
    (h : g (joinB (L.map wl), 0) (joinB (M.map wl), 0) (joinB ((L ++ M).map wl), 0) = some true) : Ev (fun k => (sound_Format.f k L).bind fun a => (sound_Format.f k M).bind fun b => (sound_Format.f k (L ++ M)).bind fun c => g a b c) true := by
  refine Ev.bind (format_ev L) (Ev.bind (format_ev M) (Ev.bind (format_ev (L ++ M)) ?_))
  have v : ∀ x ∈ L ++ M, validS x.f0 x.f1 x.f2 = 0 := fun x hx => (List.mem_append.1 hx).elim (vL x) (vM x)
  rw [fmt_ok L (by omega) vL, fmt_ok M (by omega) vM, fmt_ok (L ++ M) (by rw [List.length_append]; omega) v]
  exact Ev.now' h
theorem joined_j2 (L M : List S23) (hL : L.length ≤ 100) (hM : M.length ≤ 100) (vL : ∀ x ∈ L, validS x.f0 x.f1 x.f2 = 0) (vM : ∀ x ∈ M, validS x.f0 x.f1 x.f2 = 0) :
    Ev (fun k => ancepslaw11_SoundJoined.j2 k L M (L ++ M) (clus [] L) (clus [] M) (clus [] (L ++ M)) false) true := by
  obtain ⟨i, e, h1, h2⟩ := clus_app L M []
  obtain ⟨hd, t, h3, h4⟩ := clus_head M e
  have cl := clus_len L [] 0
  have cn := nucI_len L 0
  have ml := clus_len M [] 0
  have mn := nucI_len M 0
  have me := clus_mem L [] e (by rw [h1]; simp)
  have mh := clus_mem M [] hd (by rw [h3]; simp)
  have mb := clus_mem (L ++ M) []
  have bl := clus_len (L ++ M) [] 0
  have bn := nucI_len (L ++ M) 0
  rw [h2, h4] at mb bl ⊢
  rw [h1] at cl
  rw [h3] at ml
  rw [h1, h3]
  simp only [List.length_append, List.length_cons, List.length_nil] at cl ml me mh bl bn
  have hi : wrap64 (((i ++ [e]).length : Int) - 1) = (i.length : Int) := last_at i e (by omega)
  have hlen : ((i ++ [e]).length : Int) = (i.length : Int) + 1 := by simp
  have hlen2 : ((hd :: t).length : Int) = (t.length : Int) + 1 := by simp
  refine Ev.step (fun k => ancepslaw11_SoundJoined.j2.eq_2 _ _ _ _ _ _ _ _) ?_
  rw [hi]
  refine Ev.neg (by simp) (Ev.pos (by omega) (Ev.pos (by omega) (Ev.pos (by omega) ?_)))
  rw [rd_snoc, show rd_L3 (hd :: t) 0 = hd from rfl]
  refine Ev.bind (Ev.now' (concat_f [e, hd] (by simp; omega) (by simp))) (Ev.pos (by omega) (Ev.pos (by omega) ?_))
  rw [Int.toNat_natCast, List.take_left, show (hd :: t).drop 1 = t from rfl]
  refine Ev.bind (Ev.now' (concatL_f [i, [[e, hd].flatten], t] (by simp; omega) (by simp))) ?_
  have hfl : ([i, [[e, hd].flatten], t] : List (List (List S23))).flatten = i ++ (e ++ hd) :: t := by simp
  rw [hfl]
  refine Ev.bind (sameL_ev _ (by simp only [List.length_append, List.length_cons]; omega) (fun y hy => by have := mb y hy; simp only [List.length_append, List.length_nil] at this; omega)) (Ev.pos rfl ?_)
  refine joined_text L M hL hM vL vM (fun a b c => _) ?_
  have z1 := joinB_size L vL
  have z2 := joinB_size M vM
  have z3 : (joinB (L.map wl) ++ (⟨#[32]⟩ : ByteArray)).size = (joinB (L.map wl)).size + 1 := by rw [ByteArray.size_append]; rfl
  dsimp only
  by_cases c1 : (L.length : Int) > 0
  · rw [if_pos c1]
    by_cases c2 : (M.length : Int) > 0
    · rw [if_pos c2, if_pos (by omega), if_pos rfl, if_pos rfl, if_pos rfl, if_pos (by rw [z3]; omega), text_both L M (by rintro rfl; simp at c1) (by rintro rfl; simp at c2)]
      simp
    · obtain rfl : M = [] := List.eq_nil_of_length_eq_zero (by omega)
      rw [if_neg c2, if_pos rfl, if_pos rfl, if_pos rfl, if_pos (by omega), text_right]
      simp
  · obtain rfl : L = [] := List.eq_nil_of_length_eq_zero (by omega)
    rw [if_neg c1, if_pos rfl, if_pos rfl, if_pos rfl, if_pos (by omega), text_left]
    simp
theorem joined_j1 (L M : List S23) (hL : L.length ≤ 100) (hM : M.length ≤ 100) (vL : ∀ x ∈ L, validS x.f0 x.f1 x.f2 = 0) (vM : ∀ x ∈ M, validS x.f0 x.f1 x.f2 = 0) :
    Ev (fun k => ancepslaw11_SoundJoined.j1 k L M (L ++ M) false) true := by
  have cl := clus_len L [] 0
  have ml := clus_len M [] 0
  refine Ev.step (fun k => ancepslaw11_SoundJoined.j1.eq_2 _ _ _ _ _) (Ev.neg (by simp) (Ev.bind (clusters_ev L (by omega)) (Ev.bind (clusters_ev M (by omega)) (Ev.bind (clusters_ev (L ++ M) (by rw [List.length_append]; omega)) (Ev.neg (by omega) ?_)))))
  have hz : (((clus [] M).length : Int) == 0) = false := beq_eq_false_iff_ne.2 (by omega)
  rw [hz]
  exact joined_j2 L M hL hM vL vM
theorem joined_j0 (l m : List Int) (bl : ∀ x ∈ l, (Lit.int .u8 x).wf = true) (bm : ∀ x ∈ m, (Lit.int .u8 x).wf = true) (x : Bool) (hx : x = false → l.length ≤ 100 ∧ m.length ≤ 100) : Ev (fun k => ancepslaw11_SoundJoined.j0 k l m x) true := by
  refine Ev.step (fun k => ancepslaw11_SoundJoined.j0.eq_2 _ _ _ _) (Ev.cond (fun h => Ev.bind awake_ev (Ev.now _)) (fun h => ?_))
  obtain ⟨hl, hm⟩ := hx (by simpa using h)
  have hL := allS_len l
  have hM := allS_len m
  have b0 := bsum_app (allS l) (allS m)
  have b1 := bsum_range (allS l)
  have b2 := bsum_range (allS m)
  have n0 := nucI_app (allS l) (allS m) 0
  have n1 := nucI_len (allS l) 0
  have n2 := nucI_len (allS m) 0
  have hfl : ([allS l, allS m] : List (List S23)).flatten = allS l ++ allS m := by simp
  refine Ev.bind (all_ev l (by omega) bl) (Ev.bind (all_ev m (by omega) bm) (Ev.bind (Ev.now' (concat_f [allS l, allS m] (by rw [hfl, List.length_append]; omega) (by simp))) ?_))
  rw [hfl]
  refine Ev.bind (beats_ev _ (by rw [List.length_append]; omega)) (Ev.bind (beats_ev _ (by omega)) (Ev.bind (beats_ev _ (by omega)) (Ev.pos (by rw [w64 (by omega) (by omega), b0]) ?_)))
  refine Ev.bind (nuclei_ev _ (by rw [List.length_append]; omega)) (Ev.bind (nuclei_ev _ (by omega)) (Ev.bind (nuclei_ev _ (by omega)) ?_))
  rw [w64 (by omega) (by omega), n0, show (((nucI 0 (allS l)).length + (nucI 0 (allS m)).length : Nat) : Int) = ((nucI 0 (allS l)).length : Int) + ((nucI 0 (allS m)).length : Int) from by omega, bne_self_eq_false]
  exact joined_j1 (allS l) (allS m) (by omega) (by omega) (allS_valid l bl) (allS_valid m bm)
theorem SoundJoined : ancepslaw11_SoundJoined.Pure := by
  intro l m _ _ bl _ _ bm
  refine Ev.rounds ?_
  unfold ancepslaw11_SoundJoined.f
  refine Ev.bind awake_ev (Ev.pos rfl (Ev.cond (fun h => joined_j0 l m bl bm true (fun h => by cases h)) (fun h => joined_j0 l m bl bm _ (fun hd => ?_))))
  simp only [decide_eq_false_iff_not] at hd
  omega
end Go.Proofs.YtnjiniegpjfemaaDoor.Pure
