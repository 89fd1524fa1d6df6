-- printed by this session's xprint.py: out of the translation, by the kit's print with additions; Lean checks it
import Derived.Test.YteokimhjojppcaaDoorWShare
import Derived.Test.YteokimhjojppcaaDoorWRepsOne
import Derived.Test.YteokimhjojppcaaDoorX0
namespace Go.Proofs.YteokimhjojppcaaDoor.X
open Go.RowKit Go.Proofs.YteokimhjojppcaaDoorW.PrintWords Go.Proofs.YteokimhjojppcaaDoorW.PrintLast Go.Proofs.YteokimhjojppcaaDoorW.PrintMore
attribute [local go_sem] max2_int min2_int max_two min_two max_three min_three max_four min_four isSome_setCell   -- for this text's walks alone
set_option linter.unusedVariables false
set_option linter.unusedSimpArgs false

/-! ### strings_Split: function 24 (at a separator of one byte) -/
/-- the pieces between bytes c -/
def strings_Split.pieces (c : UInt8) : List UInt8 → List (List UInt8)
  | [] => [[]]
  | x :: r => if (x == c) = true then [] :: strings_Split.pieces c r else match strings_Split.pieces c r with
    | [] => [[x]]
    | h :: t => (x :: h) :: t
theorem strings_Split.pieces_ne (c : UInt8) (l : List UInt8) : strings_Split.pieces c l ≠ [] := by
  cases l with
  | nil => simp [strings_Split.pieces]
  | cons x r =>
    rw [strings_Split.pieces]
    split
    · simp
    · split <;> simp
theorem strings_Split.pieces_at (c : UInt8) : ∀ l : List UInt8, 0 < l.count c → ∃ j : Nat, Lib.indexByte l c = (j : Int) ∧ j < l.length ∧ strings_Split.pieces c l = l.take j :: strings_Split.pieces c (l.drop (j + 1)) ∧ (l.drop (j + 1)).count c + 1 = l.count c
  | [], h => by simp at h
  | x :: r, h => by
    by_cases hx : (x == c) = true
    · refine ⟨0, by rw [Lib.indexByte, if_pos hx]; rfl, by simp, by rw [strings_Split.pieces, if_pos hx]; rfl, by rw [List.count_cons, if_pos hx]; rfl⟩
    · rw [List.count_cons, if_neg hx] at h
      obtain ⟨j, h1, h2, h3, h4⟩ := strings_Split.pieces_at c r h
      refine ⟨j + 1, ?_, by simp; omega, ?_, ?_⟩
      · rw [Lib.indexByte, if_neg hx, h1, if_neg (by simp)]; omega
      · rw [strings_Split.pieces, if_neg hx, h3]; rfl
      · rw [List.count_cons, if_neg hx]; exact h4
theorem strings_Split.pieces_none (c : UInt8) : ∀ l : List UInt8, l.count c = 0 → strings_Split.pieces c l = [l]
  | [], _ => rfl
  | x :: r, h => by
    by_cases hx : (x == c) = true
    · rw [List.count_cons, if_pos hx] at h; omega
    · rw [List.count_cons, if_neg hx] at h
      rw [strings_Split.pieces, if_neg hx, strings_Split.pieces_none c r h]
theorem strings_Split.pieces_len (c : UInt8) : ∀ l : List UInt8, (strings_Split.pieces c l).length = l.count c + 1
  | [] => rfl
  | x :: r => by
    have ih := strings_Split.pieces_len c r
    rw [strings_Split.pieces, List.count_cons]
    by_cases hx : (x == c) = true
    · rw [if_pos hx, if_pos hx, List.length_cons, ih]
    · rw [if_neg hx, if_neg hx]
      cases hs : strings_Split.pieces c r with
      | nil => exact absurd hs (strings_Split.pieces_ne c r)
      | cons h t => rw [hs] at ih; exact ih
def strings_Split.f (a0 a1 : ByteArray) : Option (List ByteArray) := if a1.size = 1 ∧ a0.size ≤ 4294967296 then some ((strings_Split.pieces (a1.data.toList.getD 0 0) a0.data.toList).map fun l => ⟨l.toArray⟩) else none
theorem strings_Split.info : (Tryd.prog.info? 9).map (fun i => (i.zero, i.size, i.bytes)) = some (some (.string ⟨#[]⟩), 1, 16) := by kernel_rfl
/-- the loop's state: the pieces so far; the rest -/
def strings_Split.Inv (c : UInt8) (l : List UInt8) (w wr : World) (k : Nat) (x : ByteArray) : Prop :=
  ∃ done : List ByteArray, done.length = k ∧ (strings_Split.pieces c l).map (fun l => (⟨l.toArray⟩ : ByteArray)) = done ++ (strings_Split.pieces c x.data.toList).map (fun l => (⟨l.toArray⟩ : ByteArray)) ∧ x.data.toList.count c + k = l.count c ∧ x.size ≤ l.length ∧
    Kd.R Kd.string 9 wr w.heap.size (fun _ => True) (.slice (some ⟨w.heap.size, 0, none⟩) (l.count c + 1) (l.count c + 1)) (done ++ List.replicate (l.count c + 1 - k) (⟨#[]⟩ : ByteArray)) ∧ Below w.heap.size w wr ∧ w.heap.size < wr.heap.size
theorem strings_Split.start (c : UInt8) (s : ByteArray) (w : World) (hs : s.size ≤ 4294967296) : strings_Split.Inv c s.data.toList w (w.alloc (.cells (madeCells #[.string ⟨#[]⟩] (s.data.toList.count c + 1)) 9)) 0 s := by
  have hcl : s.data.toList.count c ≤ s.data.toList.length := List.count_le_length
  have hsl : s.data.toList.length = s.size := by simp
  refine ⟨[], rfl, rfl, rfl, by simp, ?_, (Below.refl _ _).alloc (Nat.le_refl _) _, by simp⟩
  have h := World.ownsRow_lit (base := w.heap.size) (e := 9) (size := 1) w (madeCells #[Value.string ⟨#[]⟩] (s.data.toList.count c + 1)) (s.data.toList.count c + 1) (Nat.le_refl _) (by unfold maxLen; omega) (by simp [size_madeCells])
  refine Kd.R_of_own (enc := Value.string) (h1 := fun _ => rfl) ?_ (fun _ _ => trivial)
  rw [List.nil_append, List.length_replicate, Nat.sub_zero]
  have hl : (madeCells #[Value.string ⟨#[]⟩] (s.data.toList.count c + 1)).toList = encs Value.string (List.replicate (s.data.toList.count c + 1) (⟨#[]⟩ : ByteArray)) := by
    apply List.ext_getElem
    · simp [encs, size_madeCells]
    · intro i h1 h2
      simp [encs, madeCells, Nat.mod_one]
  rwa [hl] at h
theorem strings_Split.cell {c : UInt8} {l : List UInt8} {w wr : World} {k : Nat} {x : ByteArray} (h : strings_Split.Inv c l w wr k x) (hk : k ≤ l.count c) :
    ∃ u, wr.cell? ⟨w.heap.size, k, none⟩ = some u ∧ wr.frozen? ⟨w.heap.size, k, none⟩ = false := by
  obtain ⟨done, hd, _, _, _, hR, _, _⟩ := h
  have := Kd.R_celln (⟨#[]⟩ : ByteArray) hR (k : Int) (by omega) (by omega)
  rw [Int.toNat_natCast] at this
  exact ⟨_, this⟩
theorem strings_Split.ba_eta (x : ByteArray) : (⟨x.data.toList.toArray⟩ : ByteArray) = x := rfl
theorem strings_Split.step {c : UInt8} {l : List UInt8} {w wr : World} {k j : Nat} {x : ByteArray} (h : strings_Split.Inv c l w wr k x) (hk : k < l.count c) (hj : j < x.data.toList.length)
    (hp : strings_Split.pieces c x.data.toList = x.data.toList.take j :: strings_Split.pieces c (x.data.toList.drop (j + 1))) (hc : (x.data.toList.drop (j + 1)).count c + 1 = x.data.toList.count c) :
    strings_Split.Inv c l w (wr.setCell ⟨w.heap.size, k, none⟩ (.string (x.extract 0 j))) (k + 1) (x.extract (j + 1) x.size) := by
  obtain ⟨done, hd, h1, h2, h3, hR, hB, hlt⟩ := h
  have e1 : (x.extract 0 j).data.toList = x.data.toList.take j := by rw [ByteArray.data_extract, Array.toList_extract]; simp
  have e2 : (x.extract (j + 1) x.size).data.toList = x.data.toList.drop (j + 1) := by
    rw [ByteArray.data_extract, Array.toList_extract]
    rw [List.extract_eq_take_drop, List.take_of_length_le]
    rw [List.length_drop]; simp
  have hR2 := Kd.R_putn hR (k : Int) (x.extract 0 j)
  rw [Int.toNat_natCast] at hR2
  refine ⟨done ++ [x.extract 0 j], by rw [List.length_append, hd]; rfl, ?_, by rw [e2]; omega, by rw [ByteArray.size_extract]; omega, ?_, hB.setCell (p := ⟨w.heap.size, k, none⟩) (Nat.le_refl _) _, by simp [World.setCell]; exact hlt⟩
  · rw [h1, hp, e2, List.map_cons, List.append_assoc, List.singleton_append, ← e1]
  · rw [show l.count c + 1 - k = (l.count c + 1 - (k + 1)) + 1 by omega, List.replicate_succ, List.set_append_right _ _ (by omega), hd, Nat.sub_self, List.set_cons_zero] at hR2
    rw [List.append_assoc, List.singleton_append]
    exact hR2
theorem strings_Split.last {c : UInt8} {l : List UInt8} {w wr : World} {x : ByteArray} (h : strings_Split.Inv c l w wr (l.count c) x) :
    Kd.R Kd.string 9 (wr.setCell ⟨w.heap.size, l.count c, none⟩ (.string x)) w.heap.size (fun _ => True) (.slice (some ⟨w.heap.size, 0, none⟩) (l.count c + 1) (l.count c + 1)) ((strings_Split.pieces c l).map fun l => ⟨l.toArray⟩) ∧ Below w.heap.size w (wr.setCell ⟨w.heap.size, l.count c, none⟩ (.string x)) := by
  obtain ⟨done, hd, h1, h2, h3, hR, hB, hlt⟩ := h
  have hR2 := Kd.R_putn hR ((l.count c : Nat) : Int) x
  rw [Int.toNat_natCast] at hR2
  refine ⟨?_, hB.setCell (p := ⟨w.heap.size, l.count c, none⟩) (Nat.le_refl _) _⟩
  rw [h1, strings_Split.pieces_none c x.data.toList (by omega), List.map_cons, List.map_nil]
  rw [show l.count c + 1 - l.count c = 0 + 1 by omega, List.replicate_succ, List.replicate_zero, List.set_append_right _ _ (by omega), hd, Nat.sub_self, List.set_cons_zero] at hR2
  exact hR2
set_option maxHeartbeats 4000000 in
set_option maxRecDepth 100000 in
theorem strings_Split.gen (s : ByteArray) (c : UInt8) (w : World) (hs : s.size ≤ 4294967296) :
    Calls Tryd.prog 41 #[.string s, .string ⟨#[c]⟩, .int .i64 0, .int .i64 (-1)] w fun e w' => ∃ v0_ : Value, e = .returned (v0_) ∧ Kd.R Kd.string 9 w' w.heap.size (fun _ => True) v0_ ((strings_Split.pieces c s.data.toList).map fun l => ⟨l.toArray⟩) ∧ Below w.heap.size w w' := by
  have hcl : s.data.toList.count c ≤ s.data.toList.length := List.count_le_length
  obtain ⟨n, hn⟩ : ∃ n, s.data.toList.count c = n := ⟨_, rfl⟩
  have hsl : s.data.toList.length = s.size := by simp
  rw [hn, hsl] at hcl
  have hcnt : ∀ W : World, Calls Tryd.prog 49 #[.string s, .string ⟨#[c]⟩] W fun e w' => e = .returned (.int .i64 (n : Int)) ∧ w' = W := fun W => by
    have := Tryd.strings_Count_one s c W
    rw [show Lib.countByte s.data.toList c = n from hn] at this
    exact this
  have HN := Lib.hid hn
  clear hn hsl
  have hmin : ¬ ((s.size : Int) + 1 < (n : Int) + 1) := by omega
  have hmk := fun W => run_make_row' (P := Tryd.prog) 23 9 (.string ⟨#[]⟩) 16 Tryd.underlying23 strings_Split.info rfl .i64 .i64 (n + 1) (by omega) (by omega) W
  have ec : ((n + 1 : Nat) : Int) = (n : Int) + 1 := by omega
  rw [ec] at hmk
  clear ec
  go_enter Tryd.func41, Tryd.ntmps41
  go_wp2_with (go_at_call 49; refine (hcnt _).mono ?_; rintro e w1 ⟨rfl, hw1⟩; obtain rfl : w = w1 := hw1.symm; clear hw1)
  have HS := Lib.hid (strings_Split.start c s w hs)
  rw [HN.out] at HS
  clear hmk hcnt
  go_loopw [0, 10] (fun x i wr => ∃ (k : Nat) (y : ByteArray), k ≤ n ∧ y.size ≤ 4294967296 ∧ i = .int .i64 k ∧ x = .string y ∧ Hid (strings_Split.Inv c s.data.toList w wr k y)) (fun _ i _ => n - (intOf i).toNat)
  case atStart => exact ⟨0, s, Nat.zero_le _, hs, rfl, rfl, HS⟩
  case round =>
    obtain ⟨k, y, hk, hy, rfl, rfl, hI⟩ := hrel
    have hI0 := hI.out
    obtain ⟨u, hcu, hfu⟩ := strings_Split.cell hI0 (by rw [HN.out]; exact hk)
    by_cases hkn : k < n
    · have hpos : 0 < y.data.toList.count c := by
        obtain ⟨done, _, _, h2, _⟩ := hI0
        have := HN.out
        omega
      obtain ⟨j, hj1, hj2, hj3, hj4⟩ := strings_Split.pieces_at c _ hpos
      have hidx : ∀ W : World, Calls Tryd.prog 50 #[.string y, .string ⟨#[c]⟩] W fun e w' => e = .returned (.int .i64 (j : Int)) ∧ w' = W := fun W => by
        have := Tryd.strings_Index_one y c W
        rw [hj1] at this
        exact this
      have hS := strings_Split.step hI0 (by rw [HN.out]; exact hkn) hj2 hj3 hj4
      have hjs : j < y.size := by rw [show y.size = y.data.toList.length by simp]; exact hj2
      have HS := Lib.hid hS
      have hys : (y.extract (j + 1) y.size).size ≤ 4294967296 := by rw [ByteArray.size_extract]; omega
      have HYS := Lib.hid hys
      clear hpos hj1 hj2 hj3 hj4 hS hI0 hys
      go_wp2_with (go_at_call 50; refine (hidx _).mono ?_; rintro e w1 ⟨rfl, hw1⟩; obtain rfl : wr = w1 := hw1.symm; clear hw1)
      go_roundw
      case rel => exact ⟨k + 1, _, by omega, HYS.out, by go_num, rfl, HS⟩
      case measure => simp [intOf]; omega
    · obtain rfl : k = n := by omega
      have hL : strings_Split.Inv c s.data.toList w wr (s.data.toList.count c) y := by rw [HN.out]; exact hI0
      have hE := strings_Split.last hL
      rw [HN.out] at hE
      have HE := Lib.hid hE
      clear hI0 hL hE
      go_wp2
      go_ret
      exact ⟨_, rfl, HE.out.1, HE.out.2⟩
theorem strings_Split.calls (a0 a1 : ByteArray) (r : List ByteArray) (w : World) (h : strings_Split.f a0 a1 = some r) :
    Calls Tryd.prog 24 #[.string a0, .string a1] w fun e w' => ∃ v0_ : Value, e = .returned (v0_) ∧ Kd.R Kd.string 9 w' w.heap.size (fun _ => True) v0_ r ∧ Below w.heap.size w w' := by
  unfold strings_Split.f at h
  split at h
  · rename_i hg
    obtain rfl := Option.some.inj h
    clear h
    obtain ⟨c, rfl⟩ : ∃ c : UInt8, a1 = ⟨#[c]⟩ := by
      obtain ⟨⟨l⟩⟩ := a1
      match l, hg.1 with
      | [c], _ => exact ⟨c, rfl⟩
    go_enter Tryd.func24, Tryd.ntmps24
    go_wp2_with (go_at_call 41; refine (strings_Split.gen a0 c _ hg.2).mono ?_; rintro e w1 ⟨v, rfl, hR, hB⟩; obtain ⟨A_, c_, hv⟩ := Kd.R_slice hR; rw [List.length_map] at hv; subst hv)
    go_ret
    exact ⟨_, rfl, hR, hB⟩
  · cases h

end Go.Proofs.YteokimhjojppcaaDoor.X
