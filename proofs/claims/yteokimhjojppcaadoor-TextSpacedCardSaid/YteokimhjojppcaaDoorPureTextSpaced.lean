/- Same does not depend on capitals, nor on punctuation that stands where there is some already. -/
import Derived.Test.YteokimhjojppcaaDoorSp2
import Derived.Test.YteokimhjojppcaaDoorX9
namespace Go.Proofs.YteokimhjojppcaaDoor.Pure
open Go.RowKit Go.Proofs.YteokimhjojppcaaDoor.X Go.Proofs.YteokimhjojppcaaDoor.Lem Go.Proofs.YteokimhjojppcaaDoorW.PrintWords Go.Proofs.YteokimhjojppcaaDoorW.PrintLast
theorem has_loop (s : ByteArray) (hs : s.size ≤ 1000000) (d : Nat) : ∀ i : Nat, i + d = s.size → ∃ t : Int, Ev (fun k => slices_IndexFunc_byte_byte_ancepsref01_Letter.l0 k (bytesOf s) ((bytesOf s).length : Int) (i : Int)) t ∧ ((t ≥ 0) ↔ ∃ c ∈ (bytesOf s).drop i, letterB c = true) := by
  have hl : (bytesOf s).length = s.size := bytesOf_length s
  induction d with
  | zero =>
    intro i hi
    rw [drop_ge s i (by omega)]
    exact ⟨-1, Ev.step (fun k => rfl) (Ev.neg (by omega) (Ev.now _)), by simp⟩
  | succ d ih =>
    intro i hi
    rw [drop_lt s i (by omega)]
    have hr : rd (bytesOf s) (i : Int) = bt s (i : Int) := rd_bytesOf s (i : Int)
    have hb := Lem.bt_range s (i : Int)
    by_cases h : letterB (bt s (i : Int)) = true
    · refine ⟨i, Ev.step (fun k => rfl) (Ev.pos (by omega) (Ev.pos (by omega) (Ev.pos (by omega) ?_))), ?_⟩
      · rw [hr]
        exact Ev.bind (rletter_ev hb) (Ev.pos h (Ev.now _))
      · exact ⟨fun _ => ⟨_, List.mem_cons_self .., h⟩, fun _ => by omega⟩
    · obtain ⟨t, h1, h2⟩ := ih (i + 1) (by omega)
      refine ⟨t, Ev.step (fun k => rfl) (Ev.pos (by omega) (Ev.pos (by omega) (Ev.pos (by omega) ?_))), ?_⟩
      · rw [hr, w64 (by omega) (by omega)]
        exact Ev.bind (rletter_ev hb) (Ev.neg h h1)
      · rw [h2]
        constructor
        · rintro ⟨c, hc, hq⟩; exact ⟨c, List.mem_cons_of_mem _ hc, hq⟩
        · rintro ⟨c, hc, hq⟩
          rcases List.mem_cons.1 hc with rfl | hc
          · exact absurd hq h
          · exact ⟨c, hc, hq⟩
theorem has_ev (s : ByteArray) (hs : s.size ≤ 1000000) : ∃ b : Bool, Ev (fun k => slices_ContainsFunc_byte_byte_ancepsref01_Letter.f k (bytesOf s)) b ∧ (b = false → ∀ c ∈ bytesOf s, letterB c = false) := by
  obtain ⟨t, h1, h2⟩ := has_loop s hs s.size 0 (by omega)
  rw [List.drop_zero] at h2
  refine ⟨decide (t ≥ 0), Ev.bind h1 (Ev.now _), fun h c hc => ?_⟩
  rw [decide_eq_false_iff_not, h2] at h
  cases hq : letterB c with
  | false => rfl
  | true => exact absurd ⟨c, hc, hq⟩ h
/-- what ReplaceAll and ToUpper make, as numbers -/
theorem made_bytes (B8 : List UInt8) : ∀ l : List UInt8, (Lib.toUpperA (strings_ReplaceAll.rep 32 (32 :: B8) l)).map (fun b => (b.toNat : Int)) = rpL ((B8.map (fun b => (b.toNat : Int))).map upI) (l.map (fun b => (b.toNat : Int)))
  | [] => rfl
  | x :: r => by
    have ih := made_bytes B8 r
    have hup : ∀ y : UInt8, ((Lib.upperB y).toNat : Int) = upI (y.toNat : Int) := fun y => by
      have := (up_all ⟨y.toNat, UInt8.toNat_lt y⟩).2.2.2
      simpa using this
    unfold Lib.toUpperA at ih ⊢
    rw [strings_ReplaceAll.rep, List.map_cons, rpL]
    by_cases h : x = 32
    · subst h
      rw [if_pos (by decide), if_pos (by decide), List.cons_append, List.map_cons, List.map_cons, List.map_append, List.map_append, ih]
      refine congr (congrArg List.cons (by decide)) (congrArg (· ++ _) ?_)
      rw [List.map_map, List.map_map]
      exact List.map_congr_left fun y _ => hup y
    · have hn : ¬ ((x.toNat : Int) = 32) := fun e => h (UInt8.toNat_inj.1 (show x.toNat = 32 by omega))
      rw [if_neg (by simpa using h), if_neg hn, List.map_cons, List.map_cons, ih, hup]
theorem rp_ok (B : List Int) (hB : B.all okB = true) : ∀ l : List Int, (∀ c ∈ l, 0 ≤ c ∧ c ≤ 255) → l.all okB = true → (rpL B l).all okB = true
  | [], _, _ => rfl
  | c :: r, hr, h => by
    rw [List.all_cons, Bool.and_eq_true] at h
    have ih := rp_ok B hB r (fun x hx => hr x (List.mem_cons_of_mem _ hx)) h.2
    rw [rpL]
    by_cases hc : c = 32
    · rw [if_pos hc, List.all_cons, List.all_append, hB, ih]; rfl
    · rw [if_neg hc, List.all_cons, ih, Bool.and_true]
      obtain ⟨n, hn⟩ := byte_fin (hr c (List.mem_cons_self ..))
      have := (up_all n).2.2.1
      rw [← hn] at this
      exact this h.1
theorem valid_ok {s : ByteArray} (h : validS s = 0) : (bytesOf s).all okB = true := by
  unfold validS at h
  by_cases h1 : (s.size : Int) > 120
  · rw [if_pos h1] at h; omega
  · rw [if_neg h1] at h
    cases hq : (bytesOf s).all okB with
    | true => rfl
    | false => rw [hq] at h; simp at h
theorem valid_mk {s : ByteArray} (h : s.size ≤ 120) (ho : (bytesOf s).all okB = true) : validS s = 0 := by
  unfold validS
  rw [if_neg (by omega), ho]; rfl
theorem up_ok (l : List Int) (hr : ∀ c ∈ l, 0 ≤ c ∧ c ≤ 255) (h : l.all okB = true) : (l.map upI).all okB = true := by
  rw [List.all_map]
  refine List.all_eq_true.2 fun c hc => ?_
  obtain ⟨n, hn⟩ := byte_fin (hr c hc)
  have := (up_all n).2.2.1
  rw [← hn] at this
  exact this (List.all_eq_true.1 h c hc)
theorem up_non (l : List Int) (hr : ∀ c ∈ l, 0 ≤ c ∧ c ≤ 255) (h : ∀ c ∈ l, letterB c = false) : ∀ c ∈ l.map upI, letterB c = false := by
  intro c hc
  obtain ⟨x, hx, rfl⟩ := List.mem_map.1 hc
  obtain ⟨n, hn⟩ := byte_fin (hr x hx)
  have := (up_all n).1
  rw [← hn] at this
  rw [this]; exact h x hx
theorem spaced_j0 (a b : ByteArray) (x : Bool) (hx : x = false → a.size ≤ 40 ∧ b.size ≤ 40 ∧ validS a = 0 ∧ validS b = 0) : Ev (fun k => ancepslaw01_TextSpaced.j0 k a b x) true := by
  refine Ev.step (fun k => rfl) (Ev.cond (fun h => Ev.bind awake_ev (Ev.now _)) (fun h => ?_))
  obtain ⟨ha, hb, va, vb⟩ := hx (by simpa using h)
  obtain ⟨q, hq, hn⟩ := has_ev b (by omega)
  refine Ev.pos (by omega) (Ev.bind hq (Ev.cond (fun _ => Ev.now _) (fun hq0 => ?_)))
  have hB := hn (by simpa using hq0)
  have hd : ((⟨#[32]⟩ : ByteArray) ++ b).data.toList = 32 :: b.data.toList := by
    rw [ByteArray.data_append, Array.toList_append]; rfl
  have hds : ((⟨#[32]⟩ : ByteArray) ++ b).size = 1 + b.size := by rw [ByteArray.size_append]; rfl
  have hbl : b.data.toList.length = b.size := by simp
  have hal : a.data.toList.length = a.size := by simp
  have hrl := strings_ReplaceAll.rep_len 32 (32 :: b.data.toList) (by rw [List.length_cons]; omega) a.data.toList
  have hR : strings_ReplaceAll.f a (⟨#[32]⟩ : ByteArray) ((⟨#[32]⟩ : ByteArray) ++ b) = some ⟨(strings_ReplaceAll.rep 32 (32 :: b.data.toList) a.data.toList).toArray⟩ := by
    unfold strings_ReplaceAll.f
    rw [if_pos ⟨rfl, by omega, by omega⟩, hd]; rfl
  have hm := made_bytes b.data.toList a.data.toList
  have hokB := up_ok (bytesOf b) (bytesOf_range b) (valid_ok vb)
  have hokR := rp_ok _ hokB (bytesOf a) (bytesOf_range a) (valid_ok va)
  have hascii : (strings_ReplaceAll.rep 32 (32 :: b.data.toList) a.data.toList).all (fun y => decide (y.toNat < 128)) = true := by
    have okr : ∀ (l : List UInt8), (l.map (fun b => (b.toNat : Int))).all okB = true → ∀ y ∈ l, y.toNat < 128 := fun l hl y hy => by
      have := List.all_eq_true.1 hl _ (List.mem_map.2 ⟨y, hy, rfl⟩)
      unfold okB at this
      have := of_decide_eq_true this
      omega
    have ra := okr a.data.toList (valid_ok va)
    have rb := okr b.data.toList (valid_ok vb)
    have go : ∀ l : List UInt8, (∀ y ∈ l, y.toNat < 128) → ∀ y ∈ strings_ReplaceAll.rep 32 (32 :: b.data.toList) l, y.toNat < 128 := by
      intro l
      induction l with
      | nil => intro _ y hy; simp [strings_ReplaceAll.rep] at hy
      | cons z r ih =>
        intro hz y hy
        rw [strings_ReplaceAll.rep] at hy
        split at hy
        · rcases List.mem_append.1 hy with hy | hy
          · rcases List.mem_cons.1 hy with rfl | hy
            · decide
            · exact rb y hy
          · exact ih (fun w hw => hz w (List.mem_cons_of_mem _ hw)) y hy
        · rcases List.mem_cons.1 hy with rfl | hy
          · exact hz _ (List.mem_cons_self ..)
          · exact ih (fun w hw => hz w (List.mem_cons_of_mem _ hw)) y hy
    exact List.all_eq_true.2 fun y hy => decide_eq_true (go _ ra y hy)
  generalize hrep : strings_ReplaceAll.rep 32 (32 :: b.data.toList) a.data.toList = R at hR hm hascii hrl
  have hU : strings_ToUpper.f ⟨R.toArray⟩ = some ⟨(Lib.toUpperA R).toArray⟩ := by
    unfold strings_ToUpper.f
    have hz : (⟨R.toArray⟩ : ByteArray).size = R.length := by show R.toArray.size = _; simp
    rw [if_pos ⟨by omega, by simpa using hascii⟩]
  have htl : (⟨(Lib.toUpperA R).toArray⟩ : ByteArray).size = R.length := by
    show (Lib.toUpperA R).toArray.size = _
    unfold Lib.toUpperA
    simp
  have htb : bytesOf ⟨(Lib.toUpperA R).toArray⟩ = rpL ((bytesOf b).map upI) (bytesOf a) := hm
  generalize (⟨(Lib.toUpperA R).toArray⟩ : ByteArray) = t at hU htl htb
  have hs1 : (b ++ t).size = b.size + t.size := ByteArray.size_append
  have hs2 : (b ++ t ++ b).size = b.size + t.size + b.size := by rw [ByteArray.size_append, hs1]
  refine Ev.pos (by omega) (Ev.bind (Ev.now' hR) (Ev.bind (Ev.now' hU) (Ev.pos (by omega) (Ev.pos (by omega) (Ev.cond (fun _ => Ev.now _) (fun hle => ?_))))))
  have ho : bytesOf (b ++ t ++ b) = bytesOf b ++ rpL ((bytesOf b).map upI) (bytesOf a) ++ bytesOf b := by rw [bytesOf_app, bytesOf_app, htb]
  have vo : validS (b ++ t ++ b) = 0 := by
    refine valid_mk (by omega) ?_
    rw [ho, List.all_append, List.all_append, valid_ok vb, hokR]; rfl
  have hsame : sameS a (b ++ t ++ b) = true := by
    unfold sameS
    rw [wordsS_err, wordsS_err, va, vo, foldedS_run a va, foldedS_run _ vo, ho, ← same_words (bytesOf a) (bytesOf b) ((bytesOf b).map upI) (bytesOf_range a) hB (up_non (bytesOf b) (bytesOf_range b) hB)]
    simp
  have hev := same_ev a (b ++ t ++ b) (by omega) (by omega)
  rw [hsame] at hev
  exact Ev.bind hev (Ev.now _)
theorem TextSpaced : ancepslaw01_TextSpaced.Pure := by
  intro a b ha hb
  refine Ev.rounds ?_
  unfold ancepslaw01_TextSpaced.f
  have no : Ev (fun k => ancepslaw01_TextSpaced.j0 k a b true) true := spaced_j0 a b true (fun h => by cases h)
  refine Ev.bind awake_ev (Ev.pos rfl (Ev.cond (fun _ => no) (fun h1 => Ev.cond (fun _ => no) (fun h2 => Ev.bind (rvalid_ev a (by omega)) (Ev.cond (fun h3 => Ev.bind (rvalid_ev b (by omega)) (spaced_j0 a b _ (fun h4 => ?_))) (fun _ => no))))))
  rw [bne_eq_false_iff_eq] at h4
  exact ⟨by omega, by omega, h3, h4⟩
end Go.Proofs.YteokimhjojppcaaDoor.Pure
