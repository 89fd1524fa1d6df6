/- Plain lemmas of the sounds' chapter: the sound with a text, lists with texts. -/
import Derived.Test.YtnjiniegpjfemaaDoorLN
import Derived.Test.YtnjiniegpjfemaaDoorS1
import Derived.Test.YtnjiniegpjfemaaDoorX3
import Derived.Test.YtnjiniegpjfemaaDoorX5
namespace Go.Proofs.YtnjiniegpjfemaaDoor.Lem
open Go.RowKit Go.Proofs.YtnjiniegpjfemaaDoor.X Go.Proofs.YtnjiniegpjfemaaDoorW.PrintWords Go.Proofs.YtnjiniegpjfemaaDoorW.PrintLast
def kinds : List UInt8 := [118, 100, 109, 108, 110, 115, 120, 103, 98]
def kdOf (c : Int) : Int := Lib.indexByte kinds c.toNat.toUInt8 + 1
def klOf (a : Int) : UInt8 := kinds.getD (a.toNat - 1) 0
theorem indexByte_range (l : List UInt8) (c : UInt8) : -1 ≤ Lib.indexByte l c ∧ Lib.indexByte l c ≤ l.length := by
  have h := Lib.indexByte_ge l c
  refine ⟨h, ?_⟩
  by_cases h1 : Lib.indexByte l c = -1
  · omega
  · obtain ⟨o, ho⟩ : ∃ o : Nat, Lib.indexByte l c = o := ⟨(Lib.indexByte l c).toNat, by omega⟩
    have h2 := (Lib.indexByte_some ho).1
    have := (List.getElem?_eq_some_iff.1 h2).1
    omega
theorem kdOf_range (c : Int) : 0 ≤ kdOf c ∧ kdOf c ≤ 10 := by
  have := indexByte_range kinds c.toNat.toUInt8
  have h9 : kinds.length = 9 := rfl
  unfold kdOf
  omega
def fin1 (a b : Int) (t : ByteArray) : Option S23 := if validS a b t = 0 then some ⟨a, b, t⟩ else none
def readR (t r : ByteArray) : Option S23 :=
  if r.size = 0 then none
  else if nuc (kdOf (bt r 0)) = true then (if r.size = 2 ∧ 49 ≤ bt r 1 ∧ bt r 1 ≤ 51 then fin1 (kdOf (bt r 0)) (bt r 1 - 48) t else none)
  else if r.size = 1 then fin1 (kdOf (bt r 0)) 0 t else none
def parse1 (s : ByteArray) : Option S23 := if (strings_Cut.at1 s 47).2.2 = true then readR (strings_Cut.at1 s 47).1 (strings_Cut.at1 s 47).2.1 else none
def Told (o : Option S23) (v : Int × Int × ByteArray × Bool) : Prop := o = if v.2.2.2 = true then some ⟨v.1, v.2.1, v.2.2.1⟩ else none
theorem told_fin (a b : Int) (t : ByteArray) : Told (fin1 a b t) (a, b, t, (validS a b t == 0)) := by
  unfold Told fin1
  simp only [beq_iff_eq]
theorem bt_range (s : ByteArray) (i : Int) : 0 ≤ bt s i ∧ bt s i ≤ 255 := by
  unfold bt
  split
  · have := UInt8.toNat_lt (s[i.toNat]); omega
  · omega
theorem read_j0 (t r : ByteArray) (x : Bool) (hx : x = true ↔ r.size = 0) : ∃ v, Ev (fun k => sound_read.j0 k t r x) v ∧ Told (readR t r) v := by
  by_cases h0 : r.size = 0
  · refine ⟨(0, 0, (⟨#[]⟩ : ByteArray), false), Ev.step (fun k => rfl) (Ev.pos (hx.2 h0) (Ev.now _)), ?_⟩
    unfold Told readR
    rw [if_pos h0]; rfl
  · have hk := kdOf_range (bt r 0)
    have hb := bt_range r 1
    have hix : strings_IndexByte.f (⟨#[118, 100, 109, 108, 110, 115, 120, 103, 98]⟩ : ByteArray) (bt r 0) = some (kdOf (bt r 0) - 1) := by
      unfold strings_IndexByte.f kdOf
      rw [Int.add_sub_cancel]; rfl
    have hw : wrap64 (kdOf (bt r 0) - 1 + 1) = kdOf (bt r 0) := by rw [Int.sub_add_cancel, w64 (by omega) (by omega)]
    have base : ∀ v, (Ev (fun k => (sound_Nucleus.f (kdOf (bt r 0)) 0 t).bind fun t139 => (if t139 = true then (if (r.size : Int) = 2 then (if 1 < (r.size : Int) then (if (bt r 1) < 49 then (some (0, 0, (⟨#[]⟩ : ByteArray), false)) else (if (bt r 1) > 51 then (some (0, 0, (⟨#[]⟩ : ByteArray), false)) else ((sound_Valid.f k (kdOf (bt r 0)) (((bt r 1) - 48) % 256) t).bind fun t140 => (some (kdOf (bt r 0), ((bt r 1) - 48) % 256, t, (t140 == 0)))))) else (none)) else (some (0, 0, (⟨#[]⟩ : ByteArray), false))) else (if (r.size : Int) = 1 then ((sound_Valid.f k (kdOf (bt r 0)) 0 t).bind fun t141 => (some (kdOf (bt r 0), 0, t, (t141 == 0)))) else (some (0, 0, (⟨#[]⟩ : ByteArray), false))))) v) → Ev (fun k => sound_read.j0 k t r x) v := by
      intro v h
      refine Ev.step (fun k => rfl) (Ev.neg (fun z => h0 (hx.1 z)) (Ev.pos (by omega) (Ev.bind (Ev.now' hix) ?_)))
      rw [hw]
      exact h
    have no : Told none (0, 0, (⟨#[]⟩ : ByteArray), false) := rfl
    unfold readR
    rw [if_neg h0]
    by_cases h1 : nuc (kdOf (bt r 0)) = true
    · rw [if_pos h1]
      by_cases h2 : r.size = 2
      · by_cases h3 : bt r 1 < 49
        · rw [if_neg (by omega)]
          exact ⟨_, base _ (Ev.bind (Ev.now' (nucleus_f _ _ _)) (Ev.pos h1 (Ev.pos (by omega) (Ev.pos (by omega) (Ev.pos h3 (Ev.now _)))))), no⟩
        · by_cases h4 : bt r 1 > 51
          · rw [if_neg (by omega)]
            exact ⟨_, base _ (Ev.bind (Ev.now' (nucleus_f _ _ _)) (Ev.pos h1 (Ev.pos (by omega) (Ev.pos (by omega) (Ev.neg h3 (Ev.pos h4 (Ev.now _))))))), no⟩
          · rw [if_pos ⟨h2, by omega, by omega⟩]
            have hm : (bt r 1 - 48) % 256 = bt r 1 - 48 := by omega
            rw [hm] at base
            exact ⟨_, base _ (Ev.bind (Ev.now' (nucleus_f _ _ _)) (Ev.pos h1 (Ev.pos (by omega) (Ev.pos (by omega) (Ev.neg h3 (Ev.neg h4 (Ev.bind (valid_ev _ _ _) (Ev.now _)))))))), told_fin _ _ _⟩
      · rw [if_neg (fun z => h2 z.1)]
        exact ⟨_, base _ (Ev.bind (Ev.now' (nucleus_f _ _ _)) (Ev.pos h1 (Ev.neg (by omega) (Ev.now _)))), no⟩
    · rw [if_neg h1]
      by_cases h2 : r.size = 1
      · rw [if_pos h2]
        exact ⟨_, base _ (Ev.bind (Ev.now' (nucleus_f _ _ _)) (Ev.neg h1 (Ev.pos (by omega) (Ev.bind (valid_ev _ _ _) (Ev.now _))))), told_fin _ _ _⟩
      · rw [if_neg h2]
        exact ⟨_, base _ (Ev.bind (Ev.now' (nucleus_f _ _ _)) (Ev.neg h1 (Ev.neg (by omega) (Ev.now _)))), no⟩
theorem read_ev (s : ByteArray) (hs : s.size ≤ 4294967296) : ∃ v, Ev (fun k => sound_read.f k s) v ∧ Told (parse1 s) v := by
  have hc : strings_Cut.f s (⟨#[47]⟩ : ByteArray) = some (strings_Cut.at1 s 47) := by
    unfold strings_Cut.f
    rw [if_pos ⟨rfl, hs⟩]; rfl
  unfold sound_read.f parse1
  rw [hc]
  by_cases h : (strings_Cut.at1 s 47).2.2 = true
  · rw [if_pos h]
    obtain ⟨v, h1, h2⟩ := read_j0 (strings_Cut.at1 s 47).1 (strings_Cut.at1 s 47).2.1 ((strings_Cut.at1 s 47).2.1.toList == ([] : List UInt8)) (by rw [beq_iff_eq]; exact list_nil)
    exact ⟨v, Ev.bind (Ev.now _) (Ev.pos h h1), h2⟩
  · rw [if_neg h]
    have hno : Ev (fun k => sound_read.j0 k (strings_Cut.at1 s 47).1 (strings_Cut.at1 s 47).2.1 true) (0, 0, (⟨#[]⟩ : ByteArray), false) := by
      exact Ev.step (f := fun _ => some (0, 0, (⟨#[]⟩ : ByteArray), false)) (fun k => rfl) (Ev.now _)
    refine ⟨(0, 0, (⟨#[]⟩ : ByteArray), false), Ev.bind (Ev.now _) (Ev.neg h hno), rfl⟩
/-! lists -/
def parseL : List ByteArray → Option (List S23)
  | [] => some []
  | w :: r => match parse1 w with
    | none => none
    | some x => (parseL r).map (x :: ·)
def finP : Option (List S23) → List S23 × Int
  | none => ([], 2)
  | some l => if 200 < l.length then ([], 2) else (l, 0)
def piecesB (s : ByteArray) : List ByteArray := (strings_Split.pieces 32 s.data.toList).map mkB
def parseS (s : ByteArray) : List S23 × Int := if 4000 < s.size then ([], 3) else if s.size = 0 then ([], 0) else finP (parseL (piecesB s))
theorem rdB_at (l : List ByteArray) (i : Nat) (h : i < l.length) : rdOf ByteArray.empty l (i : Int) = l[i] := by
  unfold rdOf
  rw [Int.toNat_natCast, List.getD_eq_getElem?_getD, List.getElem?_eq_getElem h]; rfl
theorem parse_loop (ws : List ByteArray) (hl : ws.length ≤ 100000) (hw : ∀ w ∈ ws, w.size ≤ 4294967296) (d : Nat) : ∀ (i : Nat) (a : List S23), i + d = ws.length → a.length ≤ i → Ev (fun k => sound_Parse.l0 k a ws (ws.length : Int) (i : Int)) (finP ((parseL (ws.drop i)).map (a ++ ·))) := by
  induction d with
  | zero =>
    intro i a hi ha
    rw [List.drop_of_length_le (by omega)]
    refine Ev.step (fun k => rfl) (Ev.neg (by omega) ?_)
    unfold parseL finP
    simp only [Option.map_some, List.append_nil]
    refine Ev.cond (fun h => ?_) (fun h => ?_)
    · rw [if_pos (by omega)]; exact Ev.now _
    · rw [if_neg (by omega)]; exact Ev.now _
  | succ d ih =>
    intro i a hi ha
    have hlt : i < ws.length := by omega
    rw [List.drop_eq_getElem_cons hlt]
    obtain ⟨v, h1, h2⟩ := read_ev ws[i] (hw _ (List.getElem_mem hlt))
    rw [← rdB_at ws i hlt] at h1
    refine Ev.step (fun k => rfl) (Ev.pos (by omega) (Ev.pos (by omega) (Ev.pos (by omega) (Ev.bind h1 (Ev.cond (fun h => ?_) (fun h => ?_))))))
    · have he : parse1 ws[i] = some ⟨v.1, v.2.1, v.2.2.1⟩ := by rw [h2, if_pos h]
      refine Ev.pos (by omega) ?_
      rw [parseL, he, w64 (by omega) (by omega)]
      have := ih (i + 1) (a ++ [⟨v.1, v.2.1, v.2.2.1⟩]) (by omega) (by rw [List.length_append]; simp; omega)
      rw [show Option.map (a ++ ·) (Option.map (fun x => (⟨v.1, v.2.1, v.2.2.1⟩ : S23) :: x) (parseL (ws.drop (i + 1)))) = Option.map ((a ++ [⟨v.1, v.2.1, v.2.2.1⟩]) ++ ·) (parseL (ws.drop (i + 1))) by
        cases parseL (ws.drop (i + 1)) <;> simp]
      exact this
    · have he : parse1 ws[i] = none := by rw [h2, if_neg h]
      rw [parseL, he]
      exact Ev.now _
theorem pieces_count (c : UInt8) (l : List UInt8) : (strings_Split.pieces c l).length ≤ l.length + 1 := by
  rw [strings_Split.pieces_len]
  have : l.count c ≤ l.length := List.count_le_length
  omega
theorem pieces_size (c : UInt8) : ∀ (l : List UInt8), ∀ w ∈ strings_Split.pieces c l, w.length ≤ l.length
  | [], w, h => by simp [strings_Split.pieces] at h; subst h; simp
  | x :: r, w, h => by
    rw [strings_Split.pieces] at h
    split at h
    · rcases List.mem_cons.1 h with rfl | h
      · simp
      · have := pieces_size c r w h; simp only [List.length_cons]; omega
    · cases hs : strings_Split.pieces c r with
      | nil => exact absurd hs (strings_Split.pieces_ne c r)
      | cons y t =>
        rw [hs] at h
        have hy := pieces_size c r
        rw [hs] at hy
        rcases List.mem_cons.1 h with rfl | h
        · have := hy y (List.mem_cons_self ..); simp only [List.length_cons]; omega
        · have := hy w (List.mem_cons_of_mem _ h); simp only [List.length_cons]; omega
theorem piecesB_ok (s : ByteArray) (hs : s.size ≤ 4000) : (piecesB s).length ≤ 100000 ∧ ∀ w ∈ piecesB s, w.size ≤ 4294967296 := by
  have hd : s.data.toList.length = s.size := by simp
  constructor
  · unfold piecesB
    rw [List.length_map]
    have := pieces_count 32 s.data.toList
    omega
  · intro w hw
    obtain ⟨u, hu, rfl⟩ := List.mem_map.1 hw
    rw [mkB_size]
    have := pieces_size 32 _ u hu
    omega
theorem parse_ev (s : ByteArray) : Ev (fun k => sound_Parse.f k s) (parseS s) := by
  unfold sound_Parse.f parseS
  by_cases h0 : 4000 < s.size
  · rw [if_pos h0]; exact Ev.pos (by omega) (Ev.now _)
  · rw [if_neg h0]
    refine Ev.neg (by omega) ?_
    by_cases h1 : s.size = 0
    · rw [if_pos h1]; exact Ev.pos (list_nil.2 h1) (Ev.now _)
    · rw [if_neg h1]
      have hsp : strings_Split.f s (⟨#[32]⟩ : ByteArray) = some (piecesB s) := by
        unfold strings_Split.f
        rw [if_pos ⟨rfl, by omega⟩]; rfl
      obtain ⟨h2, h3⟩ := piecesB_ok s (by omega)
      refine Ev.neg (fun z => h1 (list_nil.1 z)) (Ev.bind (Ev.now' hsp) ?_)
      have := parse_loop (piecesB s) h2 h3 (piecesB s).length 0 [] (by omega) (by simp)
      rw [List.drop_zero] at this
      simpa using this
/-! the text of a list -/
def sfx (a b : Int) : List UInt8 := 47 :: klOf a :: (if nuc a = true then [(48 + b).toNat.toUInt8] else [])
def wl (x : S23) : List UInt8 := x.f2.data.toList ++ sfx x.f0 x.f1
def errF : List S23 → Int
  | [] => 0
  | x :: r => if validS x.f0 x.f1 x.f2 = 0 then errF r else validS x.f0 x.f1 x.f2
def joinB (ws : List (List UInt8)) : ByteArray := mkB (Lib.join ws [32])
def fmtS (l : List S23) : ByteArray × Int := if 200 < l.length then (⟨#[]⟩, 3) else if errF l = 0 then (joinB (l.map wl), 0) else (⟨#[]⟩, errF l)
theorem validS_zero {a b : Int} {t : ByteArray} (h : validS a b t = 0) : 1 ≤ a ∧ a ≤ 9 ∧ quant a b = true ∧ 0 < t.size ∧ t.size ≤ 8 ∧ ∀ c ∈ bytesOf t, isLet c = true := by
  unfold validS vrest at h
  by_cases h1 : a < 1
  · rw [if_pos h1] at h; omega
  · rw [if_neg h1] at h
    by_cases h2 : a > 9
    · rw [if_pos (decide_eq_true h2)] at h; omega
    · rw [if_neg (by simpa using h2)] at h
      cases h3 : quant a b with
      | false => rw [h3, if_pos rfl] at h; omega
      | true =>
        rw [h3, if_neg (show ¬ (true = false) by decide)] at h
        by_cases h4 : t.size = 0
        · rw [if_pos h4] at h; omega
        · rw [if_neg h4] at h
          by_cases h5 : 8 < t.size
          · rw [if_pos h5] at h; omega
          · rw [if_neg h5] at h
            by_cases h6 : (bytesOf t).all isLet = true
            · exact ⟨by omega, by omega, rfl, by omega, by omega, fun c hc => List.all_eq_true.1 h6 c hc⟩
            · rw [if_neg h6] at h; omega
theorem quant_nuc {a b : Int} (h : quant a b = true) (hn : nuc a = true) : 1 ≤ b ∧ b ≤ 3 := by
  unfold quant at h
  unfold nuc at hn
  simp only [Bool.or_eq_true, beq_iff_eq] at hn
  rcases hn with rfl | rfl
  · rw [if_pos rfl] at h
    simpa using h
  · rw [if_neg (by decide), if_pos rfl] at h
    simp at h
    omega
theorem quant_other {a b : Int} (h : quant a b = true) (hn : ¬ nuc a = true) : b = 0 := by
  unfold nuc at hn
  simp only [Bool.or_eq_true, beq_iff_eq] at hn
  unfold quant at h
  rw [if_neg (by omega), if_neg (by omega)] at h
  simpa using h
theorem three {b : Int} (h : 1 ≤ b ∧ b ≤ 3) : b = 1 ∨ b = 2 ∨ b = 3 := by omega
theorem nine {a : Int} (h : 1 ≤ a) (h' : a ≤ 9) : a = 1 ∨ a = 2 ∨ a = 3 ∨ a = 4 ∨ a = 5 ∨ a = 6 ∨ a = 7 ∨ a = 8 ∨ a = 9 := by omega
theorem mkB_app (a b : List UInt8) : mkB a ++ mkB b = mkB (a ++ b) := by
  apply ByteArray.ext
  rw [ByteArray.data_append]
  apply Array.toList_inj.1
  simp
theorem app_mkB (a : ByteArray) (b : List UInt8) : a ++ mkB b = mkB (a.data.toList ++ b) := by rw [← mkB_app]
theorem wl_len (x : S23) (h : validS x.f0 x.f1 x.f2 = 0) : (wl x).length ≤ 11 := by
  obtain ⟨_, _, _, _, h5, _⟩ := validS_zero h
  have hd : x.f2.data.toList.length = x.f2.size := by simp
  unfold wl sfx
  rw [List.length_append]
  split <;> simp <;> omega
end Go.Proofs.YtnjiniegpjfemaaDoor.Lem
