/- Plain lemmas of lines, for the seat of cards: a line's words as its bytes are read; punctuation beside punctuation and capitals do not change them. -/
import Derived.Test.YteokimhjojppcaaDoorSp1
namespace Go.Proofs.YteokimhjojppcaaDoor.Lem
open Go.RowKit Go.Proofs.YteokimhjojppcaaDoor.X Go.Proofs.YteokimhjojppcaaDoorW.PrintWords Go.Proofs.YteokimhjojppcaaDoorW.PrintLast
def cutL (L : List Int) (x : S46) : List Int := (L.take x.f1.toNat).drop x.f0.toNat
def stp (st : List (List Int) × Bool) (c : Int) : List (List Int) × Bool :=
  if letterB c = true then (if st.2 = true then (st.1.dropLast ++ [st.1.getLastD [] ++ [c]], true) else (st.1 ++ [[c]], true)) else (st.1, false)
def runL (L : List Int) : List (List Int) × Bool := L.foldl stp ([], false)
theorem run_spans (L : List Int) : ∀ i, i ≤ L.length → (spans L i).map (cutL L) = (runL (L.take i)).1 ∧ ((runL (L.take i)).2 = true ↔ (0 < i ∧ letterB (rd L ((i - 1 : Nat) : Int)) = true))
  | 0, _ => ⟨rfl, by simp [runL]⟩
  | i + 1, h => by
    obtain ⟨h1, h2⟩ := run_spans L i (by omega)
    have hlt : i < L.length := by omega
    have g := good L i
    have hc : rd L (i : Int) = L[i] := by unfold rd; rw [Int.toNat_natCast, List.getD_eq_getElem?_getD, List.getElem?_eq_getElem hlt]; rfl
    have ht : L.take (i + 1) = L.take i ++ [L[i]] := List.take_succ_eq_append_getElem hlt
    have hr : runL (L.take (i + 1)) = stp (runL (L.take i)) L[i] := by
      unfold runL
      rw [ht, List.foldl_append]; rfl
    rw [hr, Nat.add_sub_cancel, hc]
    show (grow1 L (spans L i) i).map (cutL L) = _ ∧ _
    unfold grow1 stp
    rw [hc]
    by_cases hl : letterB L[i] = true
    · rw [if_pos hl, if_pos hl]
      by_cases hp : 0 < i ∧ letterB (rd L ((i - 1 : Nat) : Int)) = true
      · rw [if_pos hp, if_pos (h2.2 hp)]
        refine ⟨?_, by simp [hl]⟩
        obtain ⟨hn, hlast⟩ := g.last.1 hp
        rcases List.eq_nil_or_concat (spans L i) with e | ⟨a, z, e⟩
        · rw [e] at hn; simp at hn
        · rw [List.concat_eq_append] at e
          have hz : (spans L i).getD ((spans L i).length - 1) z46 = z := by
            rw [e, List.length_append, List.length_singleton, Nat.add_sub_cancel, List.getD_eq_getElem?_getD, List.getElem?_append_right (Nat.le_refl _), Nat.sub_self]; rfl
          have hzm := g.each z (by rw [e]; exact List.mem_append_right _ (List.mem_singleton.2 rfl))
          rw [hz] at hlast ⊢
          rw [← h1, e, List.length_append, List.length_singleton, Nat.add_sub_cancel, List.set_append_right _ _ (Nat.le_refl _), Nat.sub_self, List.set_cons_zero, List.map_append, List.map_append, List.map_singleton, List.map_singleton, List.dropLast_concat, List.getLastD_concat]
          congr 2
          unfold cutL
          simp only
          rw [hlast, Int.toNat_natCast, show ((i : Int) + 1).toNat = i + 1 by omega, ht, List.drop_append_of_le_length (by rw [List.length_take]; omega)]
      · rw [if_neg hp, if_neg (fun z => hp (h2.1 z)), List.map_append, h1, List.map_singleton]
        refine ⟨?_, by simp [hl]⟩
        congr 2
        unfold cutL
        simp only
        rw [Int.toNat_natCast, show ((i : Int) + 1).toNat = i + 1 by omega, ht, List.drop_append_of_le_length (by rw [List.length_take]; omega), List.drop_of_length_le (by rw [List.length_take]; omega)]; rfl
    · rw [if_neg hl, if_neg hl]
      exact ⟨h1, by simp [hl]⟩
def upI (c : Int) : Int := if 97 ≤ c ∧ c ≤ 122 then c - 32 else c
theorem up_all : ∀ n : Fin 256, letterB (upI ((n.val : Nat) : Int)) = letterB ((n.val : Nat) : Int) ∧ foldB (upI ((n.val : Nat) : Int)) = foldB ((n.val : Nat) : Int) ∧ (okB ((n.val : Nat) : Int) = true → okB (upI ((n.val : Nat) : Int)) = true) ∧ ((Lib.upperB (UInt8.ofNat n.val)).toNat : Int) = upI ((n.val : Nat) : Int) := by decide +kernel
def Sim (a b : List (List Int) × Bool) : Prop := a.1.map (·.map foldB) = b.1.map (·.map foldB) ∧ a.2 = b.2
theorem sim_step {a b : List (List Int) × Bool} {c c' : Int} (h : Sim a b) (h1 : letterB c' = letterB c) (h2 : foldB c' = foldB c) : Sim (stp a c) (stp b c') := by
  obtain ⟨e1, e2⟩ := h
  unfold stp
  rw [h1, e2]
  by_cases hl : letterB c = true
  · rw [if_pos hl, if_pos hl]
    by_cases hb : b.2 = true
    · rw [if_pos hb, if_pos hb]
      refine ⟨?_, rfl⟩
      simp only [List.map_append, List.map_dropLast, e1, List.map_cons, List.map_nil, h2]
      have : (a.1.getLastD []).map foldB = (b.1.getLastD []).map foldB := by
        have q : ∀ l : List (List Int), (l.getLastD []).map foldB = (l.map (·.map foldB)).getLastD [] := by
          intro l
          rcases List.eq_nil_or_concat l with e | ⟨x, z, e⟩
          · rw [e]; rfl
          · rw [e, List.concat_eq_append, List.getLastD_concat, List.map_append, List.map_singleton, List.getLastD_concat]
        rw [q, q, e1]
      rw [this]
    · rw [if_neg hb, if_neg hb]
      exact ⟨by simp only [List.map_append, e1, List.map_cons, List.map_nil, h2], rfl⟩
  · rw [if_neg hl, if_neg hl]
    exact ⟨e1, rfl⟩
theorem stp_non {st : List (List Int) × Bool} {c : Int} (h : letterB c = false) : stp st c = (st.1, false) := by
  unfold stp
  rw [if_neg (by simp [h])]
theorem run_non : ∀ (B : List Int) (st : List (List Int) × Bool), (∀ c ∈ B, letterB c = false) → st.2 = false → B.foldl stp st = st
  | [], _, _, _ => rfl
  | c :: r, st, h, h0 => by
    have e : stp st c = st := by rw [stp_non (h c (List.mem_cons_self ..))]; cases st; simp_all
    rw [List.foldl_cons, e]
    exact run_non r st (fun x hx => h x (List.mem_cons_of_mem _ hx)) h0
theorem run_non1 : ∀ (B : List Int) (st : List (List Int) × Bool), (∀ c ∈ B, letterB c = false) → (B.foldl stp st).1 = st.1
  | [], _, _ => rfl
  | c :: r, st, h => by
    rw [List.foldl_cons, stp_non (h c (List.mem_cons_self ..)), run_non1 r _ (fun x hx => h x (List.mem_cons_of_mem _ hx))]
/-- a line whose spaces are followed by B, in capitals -/
def rpL (B : List Int) : List Int → List Int
  | [] => []
  | c :: r => if c = 32 then 32 :: (B ++ rpL B r) else upI c :: rpL B r
theorem sim_run (B : List Int) (hB : ∀ c ∈ B, letterB c = false) : ∀ (l : List Int) (a b : List (List Int) × Bool), (∀ c ∈ l, 0 ≤ c ∧ c ≤ 255) → Sim a b → Sim (l.foldl stp a) ((rpL B l).foldl stp b)
  | [], _, _, _, h => h
  | c :: r, a, b, hr, h => by
    rw [List.foldl_cons, rpL]
    have hr' : ∀ x ∈ r, 0 ≤ x ∧ x ≤ 255 := fun x hx => hr x (List.mem_cons_of_mem _ hx)
    by_cases hc : c = 32
    · rw [if_pos hc, List.foldl_cons, List.foldl_append]
      have s1 := sim_step (c := c) (c' := 32) h (by rw [hc]) (by rw [hc])
      rw [run_non B (stp b 32) hB (by rw [stp_non (by decide)])]
      exact sim_run B hB r _ _ hr' s1
    · rw [if_neg hc, List.foldl_cons]
      obtain ⟨n, hn⟩ := byte_fin (hr c (List.mem_cons_self ..))
      have hu := up_all n
      exact sim_run B hB r _ _ hr' (sim_step h (by rw [hn]; exact hu.1) (by rw [hn]; exact hu.2.1))
theorem same_words (L B B2 : List Int) (hL : ∀ c ∈ L, 0 ≤ c ∧ c ≤ 255) (hB : ∀ c ∈ B, letterB c = false) (hB2 : ∀ c ∈ B2, letterB c = false) :
    (runL L).1.map (·.map foldB) = (runL (B ++ rpL B2 L ++ B)).1.map (·.map foldB) := by
  unfold runL
  rw [List.foldl_append, List.foldl_append, run_non B ([], false) hB rfl, run_non1 B _ hB]
  exact (sim_run B2 hB2 L ([], false) ([], false) hL ⟨rfl, rfl⟩).1
theorem foldedS_run (s : ByteArray) (h : validS s = 0) : (foldedS s).1 = ((runL (bytesOf s)).1.map (·.map foldB)).map strOfNums := by
  have hr := (run_spans (bytesOf s) s.size (by rw [bytesOf_length]; exact Nat.le_refl _)).1
  rw [List.take_of_length_le (by rw [bytesOf_length]; exact Nat.le_refl _)] at hr
  unfold foldedS wordsS
  rw [if_pos h, ← hr, List.map_map, List.map_map]
  refine List.map_congr_left fun x _ => ?_
  show foldS _ = _
  unfold foldS
  rw [bytesOf_extract]; rfl
end Go.Proofs.YteokimhjojppcaaDoor.Lem
