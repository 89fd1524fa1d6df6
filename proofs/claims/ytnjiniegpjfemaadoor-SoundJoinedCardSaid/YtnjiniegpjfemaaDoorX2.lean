-- printed by this session's xprint.py: out of the translation, by the kit's print with additions; Lean checks it
import Derived.Test.YtnjiniegpjfemaaDoorWN
import Derived.Test.YtnjiniegpjfemaaDoorWShare
import Derived.Test.YtnjiniegpjfemaaDoorWRepsOne
import Derived.Test.YtnjiniegpjfemaaDoorX0
namespace Go.Proofs.YtnjiniegpjfemaaDoor.X
open Go.RowKit Go.Proofs.YtnjiniegpjfemaaDoorW.PrintWords Go.Proofs.YtnjiniegpjfemaaDoorW.PrintLast Go.Proofs.YtnjiniegpjfemaaDoorW.PrintMore
attribute [local go_sem] max2_int min2_int max_two min_two max_three min_three max_four min_four isSome_setCell binOp_gtr_str binOp_leq_str binOp_geq_str   -- for this text's walks alone
set_option linter.unusedVariables false
set_option linter.unusedSimpArgs false

/-! ### strings_Split: function 47 (at a separator of one byte) -/
/-- the pieces between bytes c -/
def strings_Split.pieces (c : UInt8) : List UInt8 → List (List UInt8)
  | [] => [[]]
  | x :: r => if (x == c) = true then [] :: strings_Split.pieces c r else match strings_Split.pieces c r with
    | [] => [[x]]
    | h :: t => (x :: h) :: t
theorem strings_Split.pieces_ne (c : UInt8) (l : List UInt8) : strings_Split.pieces c l ≠ [] := by
  cases l with
  | nil => simp [strings_Split.pieces]
  | cons x r =>
    rw [strings_Split.pieces]
    split
    · simp
    · split <;> simp
theorem strings_Split.pieces_at (c : UInt8) : ∀ l : List UInt8, 0 < l.count c → ∃ j : Nat, Lib.indexByte l c = (j : Int) ∧ j < l.length ∧ strings_Split.pieces c l = l.take j :: strings_Split.pieces c (l.drop (j + 1)) ∧ (l.drop (j + 1)).count c + 1 = l.count c
  | [], h => by simp at h
  | x :: r, h => by
    by_cases hx : (x == c) = true
    · refine ⟨0, by rw [Lib.indexByte, if_pos hx]; rfl, by simp, by rw [strings_Split.pieces, if_pos hx]; rfl, by rw [List.count_cons, if_pos hx]; rfl⟩
    · rw [List.count_cons, if_neg hx] at h
      obtain ⟨j, h1, h2, h3, h4⟩ := strings_Split.pieces_at c r h
      refine ⟨j + 1, ?_, by simp; omega, ?_, ?_⟩
      · rw [Lib.indexByte, if_neg hx, h1, if_neg (by simp)]; omega
      · rw [strings_Split.pieces, if_neg hx, h3]; rfl
      · rw [List.count_cons, if_neg hx]; exact h4
theorem strings_Split.pieces_none (c : UInt8) : ∀ l : List UInt8, l.count c = 0 → strings_Split.pieces c l = [l]
  | [], _ => rfl
  | x :: r, h => by
    by_cases hx : (x == c) = true
    · rw [List.count_cons, if_pos hx] at h; omega
    · rw [List.count_cons, if_neg hx] at h
      rw [strings_Split.pieces, if_neg hx, strings_Split.pieces_none c r h]
theorem strings_Split.pieces_len (c : UInt8) : ∀ l : List UInt8, (strings_Split.pieces c l).length = l.count c + 1
  | [] => rfl
  | x :: r => by
    have ih := strings_Split.pieces_len c r
    rw [strings_Split.pieces, List.count_cons]
    by_cases hx : (x == c) = true
    · rw [if_pos hx, if_pos hx, List.length_cons, ih]
    · rw [if_neg hx, if_neg hx]
      cases hs : strings_Split.pieces c r with
      | nil => exact absurd hs (strings_Split.pieces_ne c r)
      | cons h t => rw [hs] at ih; exact ih
def strings_Split.f (a0 a1 : ByteArray) : Option (List ByteArray) := if a1.size = 1 ∧ a0.size ≤ 4294967296 then some ((strings_Split.pieces (a1.data.toList.getD 0 0) a0.data.toList).map fun l => ⟨l.toArray⟩) else none
theorem strings_Split.info : (Tryd.prog.info? 9).map (fun i => (i.zero, i.size, i.bytes)) = some (some (.string ⟨#[]⟩), 1, 16) := by kernel_rfl
/-- the loop's state: the pieces so far; the rest -/
def strings_Split.Inv (c : UInt8) (l : List UInt8) (w wr : World) (k : Nat) (x : ByteArray) : Prop :=
  ∃ done : List ByteArray, done.length = k ∧ (strings_Split.pieces c l).map (fun l => (⟨l.toArray⟩ : ByteArray)) = done ++ (strings_Split.pieces c x.data.toList).map (fun l => (⟨l.toArray⟩ : ByteArray)) ∧ x.data.toList.count c + k = l.count c ∧ x.size ≤ l.length ∧
    Kd.R Kd.string 9 wr w.heap.size (fun _ => True) (.slice (some ⟨w.heap.size, 0, none⟩) (l.count c + 1) (l.count c + 1)) (done ++ List.replicate (l.count c + 1 - k) (⟨#[]⟩ : ByteArray)) ∧ Below w.heap.size w wr ∧ w.heap.size < wr.heap.size
theorem strings_Split.start (c : UInt8) (s : ByteArray) (w : World) (hs : s.size ≤ 4294967296) : strings_Split.Inv c s.data.toList w (w.alloc (.cells (madeCells #[.string ⟨#[]⟩] (s.data.toList.count c + 1)) 9)) 0 s := by
  have hcl : s.data.toList.count c ≤ s.data.toList.length := List.count_le_length
  have hsl : s.data.toList.length = s.size := by simp
  refine ⟨[], rfl, rfl, rfl, by simp, ?_, (Below.refl _ _).alloc (Nat.le_refl _) _, by simp⟩
  have h := World.ownsRow_lit (base := w.heap.size) (e := 9) (size := 1) w (madeCells #[Value.string ⟨#[]⟩] (s.data.toList.count c + 1)) (s.data.toList.count c + 1) (Nat.le_refl _) (by unfold maxLen; omega) (by simp [size_madeCells])
  refine Kd.R_of_own (enc := Value.string) (h1 := fun _ => rfl) ?_ (fun _ _ => trivial)
  rw [List.nil_append, List.length_replicate, Nat.sub_zero]
  have hl : (madeCells #[Value.string ⟨#[]⟩] (s.data.toList.count c + 1)).toList = encs Value.string (List.replicate (s.data.toList.count c + 1) (⟨#[]⟩ : ByteArray)) := by
    apply List.ext_getElem
    · simp [encs, size_madeCells]
    · intro i h1 h2
      simp [encs, madeCells, Nat.mod_one]
  rwa [hl] at h
theorem strings_Split.cell {c : UInt8} {l : List UInt8} {w wr : World} {k : Nat} {x : ByteArray} (h : strings_Split.Inv c l w wr k x) (hk : k ≤ l.count c) :
    ∃ u, wr.cell? ⟨w.heap.size, k, none⟩ = some u ∧ wr.frozen? ⟨w.heap.size, k, none⟩ = false := by
  obtain ⟨done, hd, _, _, _, hR, _, _⟩ := h
  have := Kd.R_celln (⟨#[]⟩ : ByteArray) hR (k : Int) (by omega) (by omega)
  rw [Int.toNat_natCast] at this
  exact ⟨_, this⟩
theorem strings_Split.ba_eta (x : ByteArray) : (⟨x.data.toList.toArray⟩ : ByteArray) = x := rfl
theorem strings_Split.step {c : UInt8} {l : List UInt8} {w wr : World} {k j : Nat} {x : ByteArray} (h : strings_Split.Inv c l w wr k x) (hk : k < l.count c) (hj : j < x.data.toList.length)
    (hp : strings_Split.pieces c x.data.toList = x.data.toList.take j :: strings_Split.pieces c (x.data.toList.drop (j + 1))) (hc : (x.data.toList.drop (j + 1)).count c + 1 = x.data.toList.count c) :
    strings_Split.Inv c l w (wr.setCell ⟨w.heap.size, k, none⟩ (.string (x.extract 0 j))) (k + 1) (x.extract (j + 1) x.size) := by
  obtain ⟨done, hd, h1, h2, h3, hR, hB, hlt⟩ := h
  have e1 : (x.extract 0 j).data.toList = x.data.toList.take j := by rw [ByteArray.data_extract, Array.toList_extract]; simp
  have e2 : (x.extract (j + 1) x.size).data.toList = x.data.toList.drop (j + 1) := by
    rw [ByteArray.data_extract, Array.toList_extract]
    rw [List.extract_eq_take_drop, List.take_of_length_le]
    rw [List.length_drop]; simp
  have hR2 := Kd.R_putn hR (k : Int) (x.extract 0 j)
  rw [Int.toNat_natCast] at hR2
  refine ⟨done ++ [x.extract 0 j], by rw [List.length_append, hd]; rfl, ?_, by rw [e2]; omega, by rw [ByteArray.size_extract]; omega, ?_, hB.setCell (p := ⟨w.heap.size, k, none⟩) (Nat.le_refl _) _, by simp [World.setCell]; exact hlt⟩
  · rw [h1, hp, e2, List.map_cons, List.append_assoc, List.singleton_append, ← e1]
  · rw [show l.count c + 1 - k = (l.count c + 1 - (k + 1)) + 1 by omega, List.replicate_succ, List.set_append_right _ _ (by omega), hd, Nat.sub_self, List.set_cons_zero] at hR2
    rw [List.append_assoc, List.singleton_append]
    exact hR2
theorem strings_Split.last {c : UInt8} {l : List UInt8} {w wr : World} {x : ByteArray} (h : strings_Split.Inv c l w wr (l.count c) x) :
    Kd.R Kd.string 9 (wr.setCell ⟨w.heap.size, l.count c, none⟩ (.string x)) w.heap.size (fun _ => True) (.slice (some ⟨w.heap.size, 0, none⟩) (l.count c + 1) (l.count c + 1)) ((strings_Split.pieces c l).map fun l => ⟨l.toArray⟩) ∧ Below w.heap.size w (wr.setCell ⟨w.heap.size, l.count c, none⟩ (.string x)) := by
  obtain ⟨done, hd, h1, h2, h3, hR, hB, hlt⟩ := h
  have hR2 := Kd.R_putn hR ((l.count c : Nat) : Int) x
  rw [Int.toNat_natCast] at hR2
  refine ⟨?_, hB.setCell (p := ⟨w.heap.size, l.count c, none⟩) (Nat.le_refl _) _⟩
  rw [h1, strings_Split.pieces_none c x.data.toList (by omega), List.map_cons, List.map_nil]
  rw [show l.count c + 1 - l.count c = 0 + 1 by omega, List.replicate_succ, List.replicate_zero, List.set_append_right _ _ (by omega), hd, Nat.sub_self, List.set_cons_zero] at hR2
  exact hR2
set_option maxHeartbeats 4000000 in
set_option maxRecDepth 100000 in
theorem strings_Split.gen (s : ByteArray) (c : UInt8) (w : World) (hs : s.size ≤ 4294967296) :
    Calls Tryd.prog 58 #[.string s, .string ⟨#[c]⟩, .int .i64 0, .int .i64 (-1)] w fun e w' => ∃ v0_ : Value, e = .returned (v0_) ∧ Kd.R Kd.string 9 w' w.heap.size (fun _ => True) v0_ ((strings_Split.pieces c s.data.toList).map fun l => ⟨l.toArray⟩) ∧ Below w.heap.size w w' := by
  have hcl : s.data.toList.count c ≤ s.data.toList.length := List.count_le_length
  obtain ⟨n, hn⟩ : ∃ n, s.data.toList.count c = n := ⟨_, rfl⟩
  have hsl : s.data.toList.length = s.size := by simp
  rw [hn, hsl] at hcl
  have hcnt : ∀ W : World, Calls Tryd.prog 67 #[.string s, .string ⟨#[c]⟩] W fun e w' => e = .returned (.int .i64 (n : Int)) ∧ w' = W := fun W => by
    have := Tryd.strings_Count_one s c W
    rw [show Lib.countByte s.data.toList c = n from hn] at this
    exact this
  have HN := Lib.hid hn
  clear hn hsl
  have hmin : ¬ ((s.size : Int) + 1 < (n : Int) + 1) := by omega
  have hmk := fun W => run_make_row' (P := Tryd.prog) 63 9 (.string ⟨#[]⟩) 16 Tryd.underlying63 strings_Split.info rfl .i64 .i64 (n + 1) (by omega) (by omega) W
  have ec : ((n + 1 : Nat) : Int) = (n : Int) + 1 := by omega
  rw [ec] at hmk
  clear ec
  go_enter Tryd.func58, Tryd.ntmps58
  go_wp2_with (go_at_call 67; refine (hcnt _).mono ?_; rintro e w1 ⟨rfl, hw1⟩; obtain rfl : w = w1 := hw1.symm; clear hw1)
  have HS := Lib.hid (strings_Split.start c s w hs)
  rw [HN.out] at HS
  clear hmk hcnt
  go_loopw [0, 10] (fun x i wr => ∃ (k : Nat) (y : ByteArray), k ≤ n ∧ y.size ≤ 4294967296 ∧ i = .int .i64 k ∧ x = .string y ∧ Hid (strings_Split.Inv c s.data.toList w wr k y)) (fun _ i _ => n - (intOf i).toNat)
  case atStart => exact ⟨0, s, Nat.zero_le _, hs, rfl, rfl, HS⟩
  case round =>
    obtain ⟨k, y, hk, hy, rfl, rfl, hI⟩ := hrel
    have hI0 := hI.out
    obtain ⟨u, hcu, hfu⟩ := strings_Split.cell hI0 (by rw [HN.out]; exact hk)
    by_cases hkn : k < n
    · have hpos : 0 < y.data.toList.count c := by
        obtain ⟨done, _, _, h2, _⟩ := hI0
        have := HN.out
        omega
      obtain ⟨j, hj1, hj2, hj3, hj4⟩ := strings_Split.pieces_at c _ hpos
      have hidx : ∀ W : World, Calls Tryd.prog 68 #[.string y, .string ⟨#[c]⟩] W fun e w' => e = .returned (.int .i64 (j : Int)) ∧ w' = W := fun W => by
        have := Tryd.strings_Index_one y c W
        rw [hj1] at this
        exact this
      have hS := strings_Split.step hI0 (by rw [HN.out]; exact hkn) hj2 hj3 hj4
      have hjs : j < y.size := by rw [show y.size = y.data.toList.length by simp]; exact hj2
      have HS := Lib.hid hS
      have hys : (y.extract (j + 1) y.size).size ≤ 4294967296 := by rw [ByteArray.size_extract]; omega
      have HYS := Lib.hid hys
      clear hpos hj1 hj2 hj3 hj4 hS hI0 hys
      go_wp2_with (go_at_call 68; refine (hidx _).mono ?_; rintro e w1 ⟨rfl, hw1⟩; obtain rfl : wr = w1 := hw1.symm; clear hw1)
      go_roundw
      case rel => exact ⟨k + 1, _, by omega, HYS.out, by go_num, rfl, HS⟩
      case measure => simp [intOf]; omega
    · obtain rfl : k = n := by omega
      have hL : strings_Split.Inv c s.data.toList w wr (s.data.toList.count c) y := by rw [HN.out]; exact hI0
      have hE := strings_Split.last hL
      rw [HN.out] at hE
      have HE := Lib.hid hE
      clear hI0 hL hE
      go_wp2
      go_ret
      exact ⟨_, rfl, HE.out.1, HE.out.2⟩
theorem strings_Split.calls (a0 a1 : ByteArray) (r : List ByteArray) (w : World) (h : strings_Split.f a0 a1 = some r) :
    Calls Tryd.prog 47 #[.string a0, .string a1] w fun e w' => ∃ v0_ : Value, e = .returned (v0_) ∧ Kd.R Kd.string 9 w' w.heap.size (fun _ => True) v0_ r ∧ Below w.heap.size w w' := by
  unfold strings_Split.f at h
  split at h
  · rename_i hg
    obtain rfl := Option.some.inj h
    clear h
    obtain ⟨c, rfl⟩ : ∃ c : UInt8, a1 = ⟨#[c]⟩ := by
      obtain ⟨⟨l⟩⟩ := a1
      match l, hg.1 with
      | [c], _ => exact ⟨c, rfl⟩
    go_enter Tryd.func47, Tryd.ntmps47
    go_wp2_with (go_at_call 58; refine (strings_Split.gen a0 c _ hg.2).mono ?_; rintro e w1 ⟨v, rfl, hR, hB⟩; obtain ⟨A_, c_, hv⟩ := Kd.R_slice hR; rw [List.length_map] at hv; subst hv)
    go_ret
    exact ⟨_, rfl, hR, hB⟩
  · cases h

/-! ### sound_quantity: function 36 -/
def sound_quantity.f (a0_0 : Int) (a0_1 : Int) (a0_2 : ByteArray) : Option (Bool) := if a0_0 = 1 then (if a0_1 ≥ 1 then (some (decide (a0_1 ≤ 3))) else (some false)) else (if a0_0 = 2 then (some (a0_1 == 2)) else (some (a0_1 == 0)))
set_option maxHeartbeats 8000000 in
set_option maxRecDepth 100000 in
theorem sound_quantity.calls (a0_0 : Int) (a0_1 : Int) (a0_2 : ByteArray) (r : Bool) (w : World) (h : sound_quantity.f a0_0 a0_1 a0_2 = some r) :
    Calls Tryd.prog 36 #[.agg #[.int .i64 a0_0, .int .i64 a0_1, .string a0_2]] w fun e w' => e = .returned (.bool r) ∧ Below w.heap.size w w' := by
  have hu23 := Tryd.underlying23
  have HB := Aside0.mk (Below.refl w.heap.size w)
  have H : (if a0_0 = 1 then (if a0_1 ≥ 1 then (some (decide (a0_1 ≤ 3))) else (some false)) else (if a0_0 = 2 then (some (a0_1 == 2)) else (some (a0_1 == 0)))) = some r := h
  clear h
  by_cases c2 : a0_0 = 1
  · rw [if_pos c2] at H
    have c2b0 : (a0_0 == 1) = true := beq_iff_eq.mpr c2
    have c2b1 : (a0_0 != 1) = false := bne_eq_false_iff_eq.mpr c2
    clear c2
    by_cases c3 : a0_1 ≥ 1
    · rw [if_pos c3] at H
      have c3b0 : decide (1 ≤ a0_1) = true := decide_eq_true c3
      clear c3
      obtain rfl := Option.some.inj H
      go_enter Tryd.func36, Tryd.ntmps36
      go_wp2_with (first | ((with_reducible refine gate_dst (N := 1) rfl ?_); refine box_event ?hg (N := 1) ?hd (cs := #[.int .i64 a0_0, .int .i64 a0_1, .string a0_2]) (t := 23) ?hr ?_; (case hd => rfl); (case hg => rfl); (case hr => first | (go_simp; done) | (go_simp; rfl)); intro gb128 hg w4 hbox hb; have n0_ := Aside0.mk (below_step (by repeat (first | (with_reducible first | exact HB.out | apply below_alloc | apply pw_below_drewN | apply below_drew1) | exact HB.out)) hb); have n1_ := Aside0.mk (hbox); have n2_ := Aside0.mk ((by rw [hg]; exact (below_size (by repeat (first | (with_reducible first | exact HB.out | apply below_alloc | apply pw_below_drewN | apply below_drew1) | exact HB.out))) : w.heap.size ≤ gb128)); have n3_ := Aside0.mk ((by rw [hg]; exact (below_size (by repeat (first | (with_reducible first | exact HB.out | apply below_alloc | apply pw_below_drewN | apply below_drew1) | exact HB.out))) : w.heap.size ≤ gb128)); clear HB; have HB := n0_; have BK128 := n1_; have GW128 := n2_; have GE128 := n3_; clear n0_ n1_ n2_ n3_; clear hb hbox hg; have hcz5_0 : w4.cell? ⟨gb128, 0, none⟩ = some (.int .i64 a0_0) := (blk_cell BK128.out 0).trans rfl; have hcz5_1 : w4.cell? ⟨gb128, 1, none⟩ = some (.int .i64 a0_1) := (blk_cell BK128.out 1).trans rfl; have hcz5_2 : w4.cell? ⟨gb128, 2, none⟩ = some (.string a0_2) := (blk_cell BK128.out 2).trans rfl; have hfz5_0 := blk_frozen BK128.out 0; have hfz5_1 := blk_frozen BK128.out 1; have hfz5_2 := blk_frozen BK128.out 2))
      go_ret
      exact ⟨by first | rfl | (simp [errW_none, errW_some] <;> rfl) | (simp [*, errW_none, errW_some] <;> rfl), by repeat (first | (with_reducible first | exact HB.out | apply below_alloc | apply pw_below_drewN | apply below_drew1 | refine below_set ?_ GE128.out) | exact HB.out)⟩
    · rw [if_neg c3] at H
      have c3b0 : decide (1 ≤ a0_1) = false := decide_eq_false c3
      clear c3
      obtain rfl := Option.some.inj H
      go_enter Tryd.func36, Tryd.ntmps36
      go_wp2_with (first | ((with_reducible refine gate_dst (N := 1) rfl ?_); refine box_event ?hg (N := 1) ?hd (cs := #[.int .i64 a0_0, .int .i64 a0_1, .string a0_2]) (t := 23) ?hr ?_; (case hd => rfl); (case hg => rfl); (case hr => first | (go_simp; done) | (go_simp; rfl)); intro gb128 hg w6 hbox hb; have n0_ := Aside0.mk (below_step (by repeat (first | (with_reducible first | exact HB.out | apply below_alloc | apply pw_below_drewN | apply below_drew1) | exact HB.out)) hb); have n1_ := Aside0.mk (hbox); have n2_ := Aside0.mk ((by rw [hg]; exact (below_size (by repeat (first | (with_reducible first | exact HB.out | apply below_alloc | apply pw_below_drewN | apply below_drew1) | exact HB.out))) : w.heap.size ≤ gb128)); have n3_ := Aside0.mk ((by rw [hg]; exact (below_size (by repeat (first | (with_reducible first | exact HB.out | apply below_alloc | apply pw_below_drewN | apply below_drew1) | exact HB.out))) : w.heap.size ≤ gb128)); clear HB; have HB := n0_; have BK128 := n1_; have GW128 := n2_; have GE128 := n3_; clear n0_ n1_ n2_ n3_; clear hb hbox hg; have hcz7_0 : w6.cell? ⟨gb128, 0, none⟩ = some (.int .i64 a0_0) := (blk_cell BK128.out 0).trans rfl; have hcz7_1 : w6.cell? ⟨gb128, 1, none⟩ = some (.int .i64 a0_1) := (blk_cell BK128.out 1).trans rfl; have hcz7_2 : w6.cell? ⟨gb128, 2, none⟩ = some (.string a0_2) := (blk_cell BK128.out 2).trans rfl; have hfz7_0 := blk_frozen BK128.out 0; have hfz7_1 := blk_frozen BK128.out 1; have hfz7_2 := blk_frozen BK128.out 2))
      go_ret
      exact ⟨by first | rfl | (simp [errW_none, errW_some] <;> rfl) | (simp [*, errW_none, errW_some] <;> rfl), by repeat (first | (with_reducible first | exact HB.out | apply below_alloc | apply pw_below_drewN | apply below_drew1 | refine below_set ?_ GE128.out) | exact HB.out)⟩
  · rw [if_neg c2] at H
    have c2b0 : (a0_0 == 1) = false := beq_eq_false_iff_ne.mpr c2
    have c2b1 : (a0_0 != 1) = true := bne_iff_ne.mpr c2
    by_cases c8 : a0_0 = 2
    · rw [if_pos c8] at H
      have c8b0 : (a0_0 == 2) = true := beq_iff_eq.mpr c8
      have c8b1 : (a0_0 != 2) = false := bne_eq_false_iff_eq.mpr c8
      clear c8
      obtain rfl := Option.some.inj H
      go_enter Tryd.func36, Tryd.ntmps36
      go_wp2_with (first | ((with_reducible refine gate_dst (N := 1) rfl ?_); refine box_event ?hg (N := 1) ?hd (cs := #[.int .i64 a0_0, .int .i64 a0_1, .string a0_2]) (t := 23) ?hr ?_; (case hd => rfl); (case hg => rfl); (case hr => first | (go_simp; done) | (go_simp; rfl)); intro gb128 hg w9 hbox hb; have n0_ := Aside0.mk (below_step (by repeat (first | (with_reducible first | exact HB.out | apply below_alloc | apply pw_below_drewN | apply below_drew1) | exact HB.out)) hb); have n1_ := Aside0.mk (hbox); have n2_ := Aside0.mk ((by rw [hg]; exact (below_size (by repeat (first | (with_reducible first | exact HB.out | apply below_alloc | apply pw_below_drewN | apply below_drew1) | exact HB.out))) : w.heap.size ≤ gb128)); have n3_ := Aside0.mk ((by rw [hg]; exact (below_size (by repeat (first | (with_reducible first | exact HB.out | apply below_alloc | apply pw_below_drewN | apply below_drew1) | exact HB.out))) : w.heap.size ≤ gb128)); clear HB; have HB := n0_; have BK128 := n1_; have GW128 := n2_; have GE128 := n3_; clear n0_ n1_ n2_ n3_; clear hb hbox hg; have hcz10_0 : w9.cell? ⟨gb128, 0, none⟩ = some (.int .i64 a0_0) := (blk_cell BK128.out 0).trans rfl; have hcz10_1 : w9.cell? ⟨gb128, 1, none⟩ = some (.int .i64 a0_1) := (blk_cell BK128.out 1).trans rfl; have hcz10_2 : w9.cell? ⟨gb128, 2, none⟩ = some (.string a0_2) := (blk_cell BK128.out 2).trans rfl; have hfz10_0 := blk_frozen BK128.out 0; have hfz10_1 := blk_frozen BK128.out 1; have hfz10_2 := blk_frozen BK128.out 2))
      go_ret
      exact ⟨by first | rfl | (simp [errW_none, errW_some] <;> rfl) | (simp [*, errW_none, errW_some] <;> rfl), by repeat (first | (with_reducible first | exact HB.out | apply below_alloc | apply pw_below_drewN | apply below_drew1 | refine below_set ?_ GE128.out) | exact HB.out)⟩
    · rw [if_neg c8] at H
      have c8b0 : (a0_0 == 2) = false := beq_eq_false_iff_ne.mpr c8
      have c8b1 : (a0_0 != 2) = true := bne_iff_ne.mpr c8
      obtain rfl := Option.some.inj H
      go_enter Tryd.func36, Tryd.ntmps36
      go_wp2_with (first | ((with_reducible refine gate_dst (N := 1) rfl ?_); refine box_event ?hg (N := 1) ?hd (cs := #[.int .i64 a0_0, .int .i64 a0_1, .string a0_2]) (t := 23) ?hr ?_; (case hd => rfl); (case hg => rfl); (case hr => first | (go_simp; done) | (go_simp; rfl)); intro gb128 hg w11 hbox hb; have n0_ := Aside0.mk (below_step (by repeat (first | (with_reducible first | exact HB.out | apply below_alloc | apply pw_below_drewN | apply below_drew1) | exact HB.out)) hb); have n1_ := Aside0.mk (hbox); have n2_ := Aside0.mk ((by rw [hg]; exact (below_size (by repeat (first | (with_reducible first | exact HB.out | apply below_alloc | apply pw_below_drewN | apply below_drew1) | exact HB.out))) : w.heap.size ≤ gb128)); have n3_ := Aside0.mk ((by rw [hg]; exact (below_size (by repeat (first | (with_reducible first | exact HB.out | apply below_alloc | apply pw_below_drewN | apply below_drew1) | exact HB.out))) : w.heap.size ≤ gb128)); clear HB; have HB := n0_; have BK128 := n1_; have GW128 := n2_; have GE128 := n3_; clear n0_ n1_ n2_ n3_; clear hb hbox hg; have hcz12_0 : w11.cell? ⟨gb128, 0, none⟩ = some (.int .i64 a0_0) := (blk_cell BK128.out 0).trans rfl; have hcz12_1 : w11.cell? ⟨gb128, 1, none⟩ = some (.int .i64 a0_1) := (blk_cell BK128.out 1).trans rfl; have hcz12_2 : w11.cell? ⟨gb128, 2, none⟩ = some (.string a0_2) := (blk_cell BK128.out 2).trans rfl; have hfz12_0 := blk_frozen BK128.out 0; have hfz12_1 := blk_frozen BK128.out 1; have hfz12_2 := blk_frozen BK128.out 2))
      go_ret
      exact ⟨by first | rfl | (simp [errW_none, errW_some] <;> rfl) | (simp [*, errW_none, errW_some] <;> rfl), by repeat (first | (with_reducible first | exact HB.out | apply below_alloc | apply pw_below_drewN | apply below_drew1 | refine below_set ?_ GE128.out) | exact HB.out)⟩

-- NOT PRINTED: function 65 (strings_indexFunc)

-- NOT PRINTED: function 55 (strings_IndexFunc)

-- NOT PRINTED: function 37 (strings_ContainsFunc)

/-! ### sound_written: function 39 -/
def sound_written.f (a0 : Int) : Option (Bool) := if a0 ≥ 97 then (if a0 ≤ 122 then (some true) else (if a0 ≥ 48 then (if a0 ≤ 57 then (some true) else (if a0 = 95 then (some true) else (if a0 = 94 then (some true) else (some (a0 == 39))))) else (if a0 = 95 then (some true) else (if a0 = 94 then (some true) else (some (a0 == 39)))))) else (if a0 ≥ 48 then (if a0 ≤ 57 then (some true) else (if a0 = 95 then (some true) else (if a0 = 94 then (some true) else (some (a0 == 39))))) else (if a0 = 95 then (some true) else (if a0 = 94 then (some true) else (some (a0 == 39)))))
set_option maxHeartbeats 8000000 in
set_option maxRecDepth 100000 in
theorem sound_written.calls (a0 : Int) (r : Bool) (w : World) (h : sound_written.f a0 = some r) :
    Calls Tryd.prog 39 #[.int .i32 a0] w fun e w' => e = .returned (.bool r) ∧ Drawn0 w w' := by
  have H : (if a0 ≥ 97 then (if a0 ≤ 122 then (some true) else (if a0 ≥ 48 then (if a0 ≤ 57 then (some true) else (if a0 = 95 then (some true) else (if a0 = 94 then (some true) else (some (a0 == 39))))) else (if a0 = 95 then (some true) else (if a0 = 94 then (some true) else (some (a0 == 39)))))) else (if a0 ≥ 48 then (if a0 ≤ 57 then (some true) else (if a0 = 95 then (some true) else (if a0 = 94 then (some true) else (some (a0 == 39))))) else (if a0 = 95 then (some true) else (if a0 = 94 then (some true) else (some (a0 == 39)))))) = some r := h
  clear h
  by_cases c2 : a0 ≥ 97
  · rw [if_pos c2] at H
    have c2b0 : decide (97 ≤ a0) = true := decide_eq_true c2
    clear c2
    by_cases c3 : a0 ≤ 122
    · rw [if_pos c3] at H
      have c3b0 : decide (a0 ≤ 122) = true := decide_eq_true c3
      clear c3
      obtain rfl := Option.some.inj H
      go_enter Tryd.func39, Tryd.ntmps39
      go_wp2
      go_ret
      exact ⟨by first | rfl | (simp; done) | (simp [*]; done), by repeat (first | exact Drawn0.refl _ | apply Drawn0.step)⟩
    · rw [if_neg c3] at H
      have c3b0 : decide (a0 ≤ 122) = false := decide_eq_false c3
      clear c3
      by_cases c4 : a0 ≥ 48
      · rw [if_pos c4] at H
        have c4b0 : decide (48 ≤ a0) = true := decide_eq_true c4
        clear c4
        by_cases c5 : a0 ≤ 57
        · rw [if_pos c5] at H
          have c5b0 : decide (a0 ≤ 57) = true := decide_eq_true c5
          clear c5
          obtain rfl := Option.some.inj H
          go_enter Tryd.func39, Tryd.ntmps39
          go_wp2
          go_ret
          exact ⟨by first | rfl | (simp; done) | (simp [*]; done), by repeat (first | exact Drawn0.refl _ | apply Drawn0.step)⟩
        · rw [if_neg c5] at H
          have c5b0 : decide (a0 ≤ 57) = false := decide_eq_false c5
          clear c5
          by_cases c6 : a0 = 95
          · rw [if_pos c6] at H
            have c6b0 : (a0 == 95) = true := beq_iff_eq.mpr c6
            have c6b1 : (a0 != 95) = false := bne_eq_false_iff_eq.mpr c6
            clear c6
            obtain rfl := Option.some.inj H
            go_enter Tryd.func39, Tryd.ntmps39
            go_wp2
            go_ret
            exact ⟨by first | rfl | (simp; done) | (simp [*]; done), by repeat (first | exact Drawn0.refl _ | apply Drawn0.step)⟩
          · rw [if_neg c6] at H
            have c6b0 : (a0 == 95) = false := beq_eq_false_iff_ne.mpr c6
            have c6b1 : (a0 != 95) = true := bne_iff_ne.mpr c6
            by_cases c7 : a0 = 94
            · rw [if_pos c7] at H
              have c7b0 : (a0 == 94) = true := beq_iff_eq.mpr c7
              have c7b1 : (a0 != 94) = false := bne_eq_false_iff_eq.mpr c7
              clear c7
              obtain rfl := Option.some.inj H
              go_enter Tryd.func39, Tryd.ntmps39
              go_wp2
              go_ret
              exact ⟨by first | rfl | (simp; done) | (simp [*]; done), by repeat (first | exact Drawn0.refl _ | apply Drawn0.step)⟩
            · rw [if_neg c7] at H
              have c7b0 : (a0 == 94) = false := beq_eq_false_iff_ne.mpr c7
              have c7b1 : (a0 != 94) = true := bne_iff_ne.mpr c7
              obtain rfl := Option.some.inj H
              go_enter Tryd.func39, Tryd.ntmps39
              go_wp2
              go_ret
              exact ⟨by first | rfl | (simp; done) | (simp [*]; done), by repeat (first | exact Drawn0.refl _ | apply Drawn0.step)⟩
      · rw [if_neg c4] at H
        have c4b0 : decide (48 ≤ a0) = false := decide_eq_false c4
        clear c4
        by_cases c8 : a0 = 95
        · rw [if_pos c8] at H
          have c8b0 : (a0 == 95) = true := beq_iff_eq.mpr c8
          have c8b1 : (a0 != 95) = false := bne_eq_false_iff_eq.mpr c8
          clear c8
          obtain rfl := Option.some.inj H
          go_enter Tryd.func39, Tryd.ntmps39
          go_wp2
          go_ret
          exact ⟨by first | rfl | (simp; done) | (simp [*]; done), by repeat (first | exact Drawn0.refl _ | apply Drawn0.step)⟩
        · rw [if_neg c8] at H
          have c8b0 : (a0 == 95) = false := beq_eq_false_iff_ne.mpr c8
          have c8b1 : (a0 != 95) = true := bne_iff_ne.mpr c8
          by_cases c9 : a0 = 94
          · rw [if_pos c9] at H
            have c9b0 : (a0 == 94) = true := beq_iff_eq.mpr c9
            have c9b1 : (a0 != 94) = false := bne_eq_false_iff_eq.mpr c9
            clear c9
            obtain rfl := Option.some.inj H
            go_enter Tryd.func39, Tryd.ntmps39
            go_wp2
            go_ret
            exact ⟨by first | rfl | (simp; done) | (simp [*]; done), by repeat (first | exact Drawn0.refl _ | apply Drawn0.step)⟩
          · rw [if_neg c9] at H
            have c9b0 : (a0 == 94) = false := beq_eq_false_iff_ne.mpr c9
            have c9b1 : (a0 != 94) = true := bne_iff_ne.mpr c9
            obtain rfl := Option.some.inj H
            go_enter Tryd.func39, Tryd.ntmps39
            go_wp2
            go_ret
            exact ⟨by first | rfl | (simp; done) | (simp [*]; done), by repeat (first | exact Drawn0.refl _ | apply Drawn0.step)⟩
  · rw [if_neg c2] at H
    have c2b0 : decide (97 ≤ a0) = false := decide_eq_false c2
    clear c2
    by_cases c10 : a0 ≥ 48
    · rw [if_pos c10] at H
      have c10b0 : decide (48 ≤ a0) = true := decide_eq_true c10
      clear c10
      by_cases c11 : a0 ≤ 57
      · rw [if_pos c11] at H
        have c11b0 : decide (a0 ≤ 57) = true := decide_eq_true c11
        clear c11
        obtain rfl := Option.some.inj H
        go_enter Tryd.func39, Tryd.ntmps39
        go_wp2
        go_ret
        exact ⟨by first | rfl | (simp; done) | (simp [*]; done), by repeat (first | exact Drawn0.refl _ | apply Drawn0.step)⟩
      · rw [if_neg c11] at H
        have c11b0 : decide (a0 ≤ 57) = false := decide_eq_false c11
        clear c11
        by_cases c12 : a0 = 95
        · rw [if_pos c12] at H
          have c12b0 : (a0 == 95) = true := beq_iff_eq.mpr c12
          have c12b1 : (a0 != 95) = false := bne_eq_false_iff_eq.mpr c12
          clear c12
          obtain rfl := Option.some.inj H
          go_enter Tryd.func39, Tryd.ntmps39
          go_wp2
          go_ret
          exact ⟨by first | rfl | (simp; done) | (simp [*]; done), by repeat (first | exact Drawn0.refl _ | apply Drawn0.step)⟩
        · rw [if_neg c12] at H
          have c12b0 : (a0 == 95) = false := beq_eq_false_iff_ne.mpr c12
          have c12b1 : (a0 != 95) = true := bne_iff_ne.mpr c12
          by_cases c13 : a0 = 94
          · rw [if_pos c13] at H
            have c13b0 : (a0 == 94) = true := beq_iff_eq.mpr c13
            have c13b1 : (a0 != 94) = false := bne_eq_false_iff_eq.mpr c13
            clear c13
            obtain rfl := Option.some.inj H
            go_enter Tryd.func39, Tryd.ntmps39
            go_wp2
            go_ret
            exact ⟨by first | rfl | (simp; done) | (simp [*]; done), by repeat (first | exact Drawn0.refl _ | apply Drawn0.step)⟩
          · rw [if_neg c13] at H
            have c13b0 : (a0 == 94) = false := beq_eq_false_iff_ne.mpr c13
            have c13b1 : (a0 != 94) = true := bne_iff_ne.mpr c13
            obtain rfl := Option.some.inj H
            go_enter Tryd.func39, Tryd.ntmps39
            go_wp2
            go_ret
            exact ⟨by first | rfl | (simp; done) | (simp [*]; done), by repeat (first | exact Drawn0.refl _ | apply Drawn0.step)⟩
    · rw [if_neg c10] at H
      have c10b0 : decide (48 ≤ a0) = false := decide_eq_false c10
      clear c10
      by_cases c14 : a0 = 95
      · rw [if_pos c14] at H
        have c14b0 : (a0 == 95) = true := beq_iff_eq.mpr c14
        have c14b1 : (a0 != 95) = false := bne_eq_false_iff_eq.mpr c14
        clear c14
        obtain rfl := Option.some.inj H
        go_enter Tryd.func39, Tryd.ntmps39
        go_wp2
        go_ret
        exact ⟨by first | rfl | (simp; done) | (simp [*]; done), by repeat (first | exact Drawn0.refl _ | apply Drawn0.step)⟩
      · rw [if_neg c14] at H
        have c14b0 : (a0 == 95) = false := beq_eq_false_iff_ne.mpr c14
        have c14b1 : (a0 != 95) = true := bne_iff_ne.mpr c14
        by_cases c15 : a0 = 94
        · rw [if_pos c15] at H
          have c15b0 : (a0 == 94) = true := beq_iff_eq.mpr c15
          have c15b1 : (a0 != 94) = false := bne_eq_false_iff_eq.mpr c15
          clear c15
          obtain rfl := Option.some.inj H
          go_enter Tryd.func39, Tryd.ntmps39
          go_wp2
          go_ret
          exact ⟨by first | rfl | (simp; done) | (simp [*]; done), by repeat (first | exact Drawn0.refl _ | apply Drawn0.step)⟩
        · rw [if_neg c15] at H
          have c15b0 : (a0 == 94) = false := beq_eq_false_iff_ne.mpr c15
          have c15b1 : (a0 != 94) = true := bne_iff_ne.mpr c15
          obtain rfl := Option.some.inj H
          go_enter Tryd.func39, Tryd.ntmps39
          go_wp2
          go_ret
          exact ⟨by first | rfl | (simp; done) | (simp [*]; done), by repeat (first | exact Drawn0.refl _ | apply Drawn0.step)⟩

/-! ### sound_Valid_1: function 38 -/
def sound_Valid_1.f (a0 : Int) : Option (Bool) := (sound_written.f a0).bind fun t129 => (some (!t129))
set_option maxHeartbeats 8000000 in
set_option maxRecDepth 100000 in
theorem sound_Valid_1.calls (a0 : Int) (r : Bool) (w : World) (h : sound_Valid_1.f a0 = some r) :
    Calls Tryd.prog 38 #[.int .i32 a0] w fun e w' => e = .returned (.bool r) ∧ Drawn0 w w' := by
  have H : ((sound_written.f a0).bind fun t129 => (some (!t129))) = some r := h
  clear h
  replace H := Option.bind_eq_some_iff.mp H
  obtain ⟨t129, A20, H⟩ := H
  replace H : (some (!t129)) = some r := H
  have A2 := Aside0.mk A20
  clear A20
  obtain rfl := Option.some.inj H
  go_enter Tryd.func38, Tryd.ntmps38
  go_wp2_with (first | ((with_reducible refine gate_callee (f := 39) rfl ?_); refine goesL_ (some 4) rfl rfl Tryd.func39 (by kernel_rfl) rfl #[.int .i32 a0] rfl (by (try simp only [List.map_toArray, List.map_cons, List.map_nil]); first | done | rfl | (simp only [List.length_drop, List.length_take]; rfl)) ?_; (with_reducible refine (sound_written.calls a0 t129 _ A2.out).mono ?_); rintro e w' ⟨rfl, ⟨nd, rfl⟩⟩; refine ⟨_, rfl, ?_⟩))
  go_ret
  exact ⟨by first | rfl | (simp; done) | (simp [*]; done), by repeat (first | exact Drawn0.refl _ | apply Drawn0.step)⟩

/-! ### strings_ContainsFunc_sound_Valid_1: function 100000 (strings.ContainsFunc, at a function that captures nothing) -/
theorem strings_ContainsFunc_sound_Valid_1.told (c : Int) : ∃ b, sound_Valid_1.f c = some b := by
  unfold sound_Valid_1.f
  unfold sound_written.f
  (repeat' split) <;> exact ⟨_, rfl⟩
def strings_ContainsFunc_sound_Valid_1.p (r : Nat) : Bool := (sound_Valid_1.f (r : Int)).getD false
theorem strings_ContainsFunc_sound_Valid_1.p_eq (r : Nat) : sound_Valid_1.f (r : Int) = some (strings_ContainsFunc_sound_Valid_1.p r) := by
  obtain ⟨b, hb⟩ := strings_ContainsFunc_sound_Valid_1.told (r : Int)
  unfold strings_ContainsFunc_sound_Valid_1.p
  rw [hb]; rfl
def strings_ContainsFunc_sound_Valid_1.f (a0 : ByteArray) : Option (Bool) := some (decide (0 ≤ Lib.idxFunc strings_ContainsFunc_sound_Valid_1.p true a0))
theorem strings_ContainsFunc_sound_Valid_1.calls (a0 : ByteArray) (r : Bool) (w : World) (h : strings_ContainsFunc_sound_Valid_1.f a0 = some r) :
    Calls Tryd.prog 37 #[.string a0, .func (.func 38) #[] #[]] w fun e w' => e = .returned (.bool r) ∧ Below w.heap.size w w' := by
  obtain rfl := Option.some.inj h
  exact Tryd.strings_ContainsFunc 38 #[] (enters_of Tryd.func38 (by kernel_rfl) rfl) strings_ContainsFunc_sound_Valid_1.p a0 w (fun W r _ => (sound_Valid_1.calls (r : Int) _ W (strings_ContainsFunc_sound_Valid_1.p_eq r)).mono fun e w' ⟨he, hw⟩ => ⟨he, hw.out⟩)

/-! ### sound_Valid: function 13 -/
def sound_Valid.j0 : Nat → Bool → Int → Int → ByteArray → Option (Int)
  | 0, _, _, _, _ => none
  | k + 1, x3, x131000, x131001, x131002 => if x3 = true then (some 1) else ((sound_quantity.f x131000 x131001 x131002).bind fun t131 => (if t131 = true then (if x131002.toList = ([] : List UInt8) then (some 7) else (if (x131002.size : Int) > 8 then (some 3) else ((strings_ContainsFunc_sound_Valid_1.f x131002).bind fun t132 => (if t132 = true then (some 2) else (some 0))))) else (some 6)))
def sound_Valid.f (k : Nat) (a0_0 : Int) (a0_1 : Int) (a0_2 : ByteArray) : Option (Int) := if a0_0 < 1 then (sound_Valid.j0 k true a0_0 a0_1 a0_2) else (sound_Valid.j0 k (decide (a0_0 > 9)) a0_0 a0_1 a0_2)
theorem sound_Valid.mono_l : ∀ k, (∀ y0 y1 y2 y3, LeO (sound_Valid.j0 k y0 y1 y2 y3) (sound_Valid.j0 (k + 1) y0 y1 y2 y3))
  | 0 => fun _ _ _ _ r h => by simp [sound_Valid.j0] at h
  | k + 1 => by
    have ih0 := sound_Valid.mono_l k
    · intro y0 y1 y2 y3
      unfold sound_Valid.j0
      repeat' first
      | (with_reducible exact ih0 _ _ _ _)
      | (with_reducible exact LeO.refl _)
      | (with_reducible exact LeO.none _)
      | (with_reducible refine LeO.ite ?_ ?_)
      | (with_reducible refine LeO.bind ?_ (fun _ => ?_))
      | exact ih0 _ _ _ _
      | exact LeO.none _
      | refine LeO.ite ?_ ?_
      | refine LeO.bind ?_ (fun _ => ?_)
theorem sound_Valid.mono : ∀ a0 a1 a2 k, LeO (sound_Valid.f k a0 a1 a2) (sound_Valid.f (k + 1) a0 a1 a2) := by
  intro a0 a1 a2 k
  have ih0 := sound_Valid.mono_l k
  unfold sound_Valid.f
  repeat' first
      | (with_reducible exact ih0 _ _ _ _)
      | (with_reducible exact LeO.refl _)
      | (with_reducible exact LeO.none _)
      | (with_reducible refine LeO.ite ?_ ?_)
      | (with_reducible refine LeO.bind ?_ (fun _ => ?_))
      | exact ih0 _ _ _ _
      | exact LeO.none _
      | refine LeO.ite ?_ ?_
      | refine LeO.bind ?_ (fun _ => ?_)
set_option maxHeartbeats 8000000 in
set_option maxRecDepth 100000 in
theorem sound_Valid.calls (k : Nat) (a0_0 : Int) (a0_1 : Int) (a0_2 : ByteArray) (r : Int) (w : World) (h : sound_Valid.f k a0_0 a0_1 a0_2 = some r) :
    Calls Tryd.prog 13 #[.agg #[.int .i64 a0_0, .int .i64 a0_1, .string a0_2]] w fun e w' => e = .returned (.int .i64 r) ∧ Below w.heap.size w w' := by
  have hu23 := Tryd.underlying23
  have HB := Aside0.mk (Below.refl w.heap.size w)
  have H : (if a0_0 < 1 then (sound_Valid.j0 k true a0_0 a0_1 a0_2) else (sound_Valid.j0 k (decide (a0_0 > 9)) a0_0 a0_1 a0_2)) = some r := h
  clear h
  have HC2 := Aside0.mk H
  clear H
  go_enter Tryd.func13, Tryd.ntmps13
  go_upto_region 1 with (first | ((with_reducible refine gate_dst (N := 1) rfl ?_); refine box_event ?hg (N := 1) ?hd (cs := #[.int .i64 a0_0, .int .i64 a0_1, .string a0_2]) (t := 23) ?hr ?_; (case hd => rfl); (case hg => rfl); (case hr => first | (go_simp; done) | (go_simp; rfl)); intro gb130 hg w3 hbox hb; have n0_ := Aside0.mk (below_step (by repeat (first | (with_reducible first | exact HB.out | apply below_alloc | apply pw_below_drewN | apply below_drew1) | exact HB.out)) hb); have n1_ := Aside0.mk (hbox); have n2_ := Aside0.mk ((by rw [hg]; exact (below_size (by repeat (first | (with_reducible first | exact HB.out | apply below_alloc | apply pw_below_drewN | apply below_drew1) | exact HB.out))) : w.heap.size ≤ gb130)); have n3_ := Aside0.mk ((by rw [hg]; exact (below_size (by repeat (first | (with_reducible first | exact HB.out | apply below_alloc | apply pw_below_drewN | apply below_drew1) | exact HB.out))) : w.heap.size ≤ gb130)); clear HB; have HB := n0_; have BK130 := n1_; have GW130 := n2_; have GE130 := n3_; clear n0_ n1_ n2_ n3_; clear hb hbox hg))
  (try simp only [Act.put, List.setIfInBounds_toArray, List.set_cons_zero, List.set_cons_succ])
  go_cut [3] (fun v3 wc => ∃ (kq : Nat) (x3_1 : Bool), v3 = .bool x3_1 ∧ Aside0 (sound_Valid.j0 kq x3_1 a0_0 a0_1 a0_2 = some r) ∧ Aside0 (kq ≤ k) ∧ Aside0 (wc.heap[gb130]? = some (.cells #[.int .i64 a0_0, .int .i64 a0_1, .string a0_2] 23 (0, 0))) ∧ Aside0 (Below w.heap.size w wc))
  case first =>
    have H := HC2.out
    clear HC2
    by_cases c4 : a0_0 < 1
    · rw [if_pos c4] at H
      have c4b0 : decide (a0_0 < 1) = true := decide_eq_true c4
      clear c4
      (first | rw [c4b0] | (simp only [i64_w, i32_w]; rw [c4b0]) | skip)
      have H' := Aside0.mk H
      clear H
      have hcz5_0 : w3.cell? ⟨gb130, 0, none⟩ = some (.int .i64 a0_0) := (blk_cell BK130.out 0).trans rfl
      have hcz5_1 : w3.cell? ⟨gb130, 1, none⟩ = some (.int .i64 a0_1) := (blk_cell BK130.out 1).trans rfl
      have hcz5_2 : w3.cell? ⟨gb130, 2, none⟩ = some (.string a0_2) := (blk_cell BK130.out 2).trans rfl
      have hfz5_0 := blk_frozen BK130.out 0
      have hfz5_1 := blk_frozen BK130.out 1
      have hfz5_2 := blk_frozen BK130.out 2
      go_wp2
      go_meet
      case rel => exact ⟨_, (true), (by first | rfl | (simp; done) | (simp [*]; done)), H', ⟨by first | omega | exact Nat.le_refl _⟩, ⟨by (with_reducible repeat (first | refine blk_drewN ?_ _ | refine blk_drew ?_ | refine blk_alloc ?_ _)); exact BK130.out⟩, ⟨by repeat (first | (with_reducible first | exact HB.out | apply below_alloc | apply pw_below_drewN | apply below_drew1 | refine below_set ?_ GE130.out) | exact HB.out)⟩⟩
    · rw [if_neg c4] at H
      have c4b0 : decide (a0_0 < 1) = false := decide_eq_false c4
      clear c4
      (first | rw [c4b0] | (simp only [i64_w, i32_w]; rw [c4b0]) | skip)
      have H' := Aside0.mk H
      clear H
      have hcz6_0 : w3.cell? ⟨gb130, 0, none⟩ = some (.int .i64 a0_0) := (blk_cell BK130.out 0).trans rfl
      have hcz6_1 : w3.cell? ⟨gb130, 1, none⟩ = some (.int .i64 a0_1) := (blk_cell BK130.out 1).trans rfl
      have hcz6_2 : w3.cell? ⟨gb130, 2, none⟩ = some (.string a0_2) := (blk_cell BK130.out 2).trans rfl
      have hfz6_0 := blk_frozen BK130.out 0
      have hfz6_1 := blk_frozen BK130.out 1
      have hfz6_2 := blk_frozen BK130.out 2
      go_wp2
      go_meet
      case rel => exact ⟨_, (decide (a0_0 > 9)), (by first | rfl | (simp; done) | (simp [*]; done)), H', ⟨by first | omega | exact Nat.le_refl _⟩, ⟨by (with_reducible repeat (first | refine blk_drewN ?_ _ | refine blk_drew ?_ | refine blk_alloc ?_ _)); exact BK130.out⟩, ⟨by repeat (first | (with_reducible first | exact HB.out | apply below_alloc | apply pw_below_drewN | apply below_drew1 | refine below_set ?_ GE130.out) | exact HB.out)⟩⟩
  case rest =>
    clear HC2
    try clear c1
    try clear p2
    try clear c4
    try clear c4b0
    try clear hcz5_0
    try clear hcz5_1
    try clear hcz5_2
    try clear hcz6_0
    try clear hcz6_1
    try clear hcz6_2
    try clear hfz5_0
    try clear hfz5_1
    try clear hfz5_2
    try clear hfz6_0
    try clear hfz6_1
    try clear hfz6_2
    obtain ⟨kq, x3_1, rfl, HA, HJ1, BK130, HB⟩ := hcut
    cases kq with
    | zero => exact absurd HA.out (by simp [sound_Valid.j0])
    | succ kj1 =>
      have H := HA.out
      clear HA
      simp only [sound_Valid.j0] at H
      by_cases c7 : x3_1 = true
      · subst c7
        have H1 : (some 1) = some r := by rw [if_pos rfl] at H; exact H
        clear H
        have H := H1
        clear H1
        obtain rfl := Option.some.inj H
        go_wp2
        go_ret
        exact ⟨by first | rfl | (simp [errW_none, errW_some] <;> rfl) | (simp [*, errW_none, errW_some] <;> rfl), by repeat (first | (with_reducible first | exact HB.out | apply below_alloc | apply pw_below_drewN | apply below_drew1 | refine below_set ?_ GE130.out) | exact HB.out)⟩
      · replace c7 := Bool.eq_false_iff.mpr c7
        subst c7
        have H1 : ((sound_quantity.f a0_0 a0_1 a0_2).bind fun t131 => (if t131 = true then (if a0_2.toList = ([] : List UInt8) then (some 7) else (if (a0_2.size : Int) > 8 then (some 3) else ((strings_ContainsFunc_sound_Valid_1.f a0_2).bind fun t132 => (if t132 = true then (some 2) else (some 0))))) else (some 6))) = some r := by rw [if_neg (show ¬ (false = true) by decide)] at H; exact H
        clear H
        have H := H1
        clear H1
        replace H := Option.bind_eq_some_iff.mp H
        obtain ⟨t131, A80, H⟩ := H
        replace H : (if t131 = true then (if a0_2.toList = ([] : List UInt8) then (some 7) else (if (a0_2.size : Int) > 8 then (some 3) else ((strings_ContainsFunc_sound_Valid_1.f a0_2).bind fun t132 => (if t132 = true then (some 2) else (some 0))))) else (some 6)) = some r := H
        have A8 := Aside0.mk A80
        clear A80
        by_cases c9 : t131 = true
        · subst c9
          have H1 : (if a0_2.toList = ([] : List UInt8) then (some 7) else (if (a0_2.size : Int) > 8 then (some 3) else ((strings_ContainsFunc_sound_Valid_1.f a0_2).bind fun t132 => (if t132 = true then (some 2) else (some 0))))) = some r := by rw [if_pos rfl] at H; exact H
          clear H
          have H := H1
          clear H1
          by_cases c10 : a0_2.toList = ([] : List UInt8)
          · rw [if_pos c10] at H
            have c10b0 : (a0_2.toList == ([] : List UInt8)) = true := beq_iff_eq.mpr c10
            have c10b1 : (a0_2.toList != ([] : List UInt8)) = false := bne_eq_false_iff_eq.mpr c10
            clear c10
            obtain rfl := Option.some.inj H
            have hcz11_0 : wc.cell? ⟨gb130, 0, none⟩ = some (.int .i64 a0_0) := (blk_cell BK130.out 0).trans rfl
            have hcz11_1 : wc.cell? ⟨gb130, 1, none⟩ = some (.int .i64 a0_1) := (blk_cell BK130.out 1).trans rfl
            have hcz11_2 : wc.cell? ⟨gb130, 2, none⟩ = some (.string a0_2) := (blk_cell BK130.out 2).trans rfl
            have hfz11_0 := blk_frozen BK130.out 0
            have hfz11_1 := blk_frozen BK130.out 1
            have hfz11_2 := blk_frozen BK130.out 2
            go_wp2_with (first | ((with_reducible refine gate_callee (f := 36) rfl ?_); refine goesL_ (some 14) rfl rfl Tryd.func36 (by kernel_rfl) rfl #[.agg #[.int .i64 a0_0, .int .i64 a0_1, .string a0_2]] rfl (by (try simp only [List.map_toArray, List.map_cons, List.map_nil]); first | done | rfl | (simp only [List.length_drop, List.length_take]; rfl)) ?_; (with_reducible refine (sound_quantity.calls a0_0 a0_1 a0_2 true _ A8.out).mono ?_); rintro e w12 ⟨rfl, hb⟩; refine ⟨_, rfl, ?_⟩; have n0_ := Aside0.mk (blk_below (g := gb130) (o := .cells #[.int .i64 a0_0, .int .i64 a0_1, .string a0_2] 23 (0, 0)) (by (with_reducible repeat (first | refine blk_drewN ?_ _ | refine blk_drew ?_ | refine blk_alloc ?_ _)); exact BK130.out) hb); have n1_ := Aside0.mk (below_step (by repeat (first | (with_reducible first | exact HB.out | apply below_alloc | apply pw_below_drewN | apply below_drew1 | refine below_set ?_ GE130.out) | exact HB.out)) hb); clear BK130; clear HB; have BK130 := n0_; have HB := n1_; clear n0_ n1_; (try clear hb); (try clear hb2); (try clear hk); (try clear hi); have hcz13_0 : w12.cell? ⟨gb130, 0, none⟩ = some (.int .i64 a0_0) := (blk_cell BK130.out 0).trans rfl; have hcz13_1 : w12.cell? ⟨gb130, 1, none⟩ = some (.int .i64 a0_1) := (blk_cell BK130.out 1).trans rfl; have hcz13_2 : w12.cell? ⟨gb130, 2, none⟩ = some (.string a0_2) := (blk_cell BK130.out 2).trans rfl; have hfz13_0 := blk_frozen BK130.out 0; have hfz13_1 := blk_frozen BK130.out 1; have hfz13_2 := blk_frozen BK130.out 2))
            go_ret
            exact ⟨by first | rfl | (simp [errW_none, errW_some] <;> rfl) | (simp [*, errW_none, errW_some] <;> rfl), by repeat (first | (with_reducible first | exact HB.out | apply below_alloc | apply pw_below_drewN | apply below_drew1 | refine below_set ?_ GE130.out) | exact HB.out)⟩
          · rw [if_neg c10] at H
            have c10b0 : (a0_2.toList == ([] : List UInt8)) = false := beq_eq_false_iff_ne.mpr c10
            have c10b1 : (a0_2.toList != ([] : List UInt8)) = true := bne_iff_ne.mpr c10
            by_cases c14 : (a0_2.size : Int) > 8
            · rw [if_pos c14] at H
              have c14b0 : decide (8 < (a0_2.size : Int)) = true := decide_eq_true c14
              have c14b1 : decide (8 < a0_2.size) = true := decide_eq_true (by omega)
              clear c14
              obtain rfl := Option.some.inj H
              have hcz15_0 : wc.cell? ⟨gb130, 0, none⟩ = some (.int .i64 a0_0) := (blk_cell BK130.out 0).trans rfl
              have hcz15_1 : wc.cell? ⟨gb130, 1, none⟩ = some (.int .i64 a0_1) := (blk_cell BK130.out 1).trans rfl
              have hcz15_2 : wc.cell? ⟨gb130, 2, none⟩ = some (.string a0_2) := (blk_cell BK130.out 2).trans rfl
              have hfz15_0 := blk_frozen BK130.out 0
              have hfz15_1 := blk_frozen BK130.out 1
              have hfz15_2 := blk_frozen BK130.out 2
              go_wp2_with (first | ((with_reducible refine gate_callee (f := 36) rfl ?_); refine goesL_ (some 14) rfl rfl Tryd.func36 (by kernel_rfl) rfl #[.agg #[.int .i64 a0_0, .int .i64 a0_1, .string a0_2]] rfl (by (try simp only [List.map_toArray, List.map_cons, List.map_nil]); first | done | rfl | (simp only [List.length_drop, List.length_take]; rfl)) ?_; (with_reducible refine (sound_quantity.calls a0_0 a0_1 a0_2 true _ A8.out).mono ?_); rintro e w16 ⟨rfl, hb⟩; refine ⟨_, rfl, ?_⟩; have n0_ := Aside0.mk (blk_below (g := gb130) (o := .cells #[.int .i64 a0_0, .int .i64 a0_1, .string a0_2] 23 (0, 0)) (by (with_reducible repeat (first | refine blk_drewN ?_ _ | refine blk_drew ?_ | refine blk_alloc ?_ _)); exact BK130.out) hb); have n1_ := Aside0.mk (below_step (by repeat (first | (with_reducible first | exact HB.out | apply below_alloc | apply pw_below_drewN | apply below_drew1 | refine below_set ?_ GE130.out) | exact HB.out)) hb); clear BK130; clear HB; have BK130 := n0_; have HB := n1_; clear n0_ n1_; (try clear hb); (try clear hb2); (try clear hk); (try clear hi); have hcz17_0 : w16.cell? ⟨gb130, 0, none⟩ = some (.int .i64 a0_0) := (blk_cell BK130.out 0).trans rfl; have hcz17_1 : w16.cell? ⟨gb130, 1, none⟩ = some (.int .i64 a0_1) := (blk_cell BK130.out 1).trans rfl; have hcz17_2 : w16.cell? ⟨gb130, 2, none⟩ = some (.string a0_2) := (blk_cell BK130.out 2).trans rfl; have hfz17_0 := blk_frozen BK130.out 0; have hfz17_1 := blk_frozen BK130.out 1; have hfz17_2 := blk_frozen BK130.out 2))
              go_ret
              exact ⟨by first | rfl | (simp [errW_none, errW_some] <;> rfl) | (simp [*, errW_none, errW_some] <;> rfl), by repeat (first | (with_reducible first | exact HB.out | apply below_alloc | apply pw_below_drewN | apply below_drew1 | refine below_set ?_ GE130.out) | exact HB.out)⟩
            · rw [if_neg c14] at H
              have c14b0 : decide (8 < (a0_2.size : Int)) = false := decide_eq_false c14
              have c14b1 : decide (8 < a0_2.size) = false := decide_eq_false (by omega)
              clear c14
              replace H := Option.bind_eq_some_iff.mp H
              obtain ⟨t132, A180, H⟩ := H
              replace H : (if t132 = true then (some 2) else (some 0)) = some r := H
              have A18 := Aside0.mk A180
              clear A180
              by_cases c19 : t132 = true
              · subst c19
                have H1 : (some 2) = some r := by rw [if_pos rfl] at H; exact H
                clear H
                have H := H1
                clear H1
                obtain rfl := Option.some.inj H
                have hcz20_0 : wc.cell? ⟨gb130, 0, none⟩ = some (.int .i64 a0_0) := (blk_cell BK130.out 0).trans rfl
                have hcz20_1 : wc.cell? ⟨gb130, 1, none⟩ = some (.int .i64 a0_1) := (blk_cell BK130.out 1).trans rfl
                have hcz20_2 : wc.cell? ⟨gb130, 2, none⟩ = some (.string a0_2) := (blk_cell BK130.out 2).trans rfl
                have hfz20_0 := blk_frozen BK130.out 0
                have hfz20_1 := blk_frozen BK130.out 1
                have hfz20_2 := blk_frozen BK130.out 2
                go_wp2_with (first | ((with_reducible refine gate_callee (f := 36) rfl ?_); refine goesL_ (some 14) rfl rfl Tryd.func36 (by kernel_rfl) rfl #[.agg #[.int .i64 a0_0, .int .i64 a0_1, .string a0_2]] rfl (by (try simp only [List.map_toArray, List.map_cons, List.map_nil]); first | done | rfl | (simp only [List.length_drop, List.length_take]; rfl)) ?_; (with_reducible refine (sound_quantity.calls a0_0 a0_1 a0_2 true _ A8.out).mono ?_); rintro e w21 ⟨rfl, hb⟩; refine ⟨_, rfl, ?_⟩; have n0_ := Aside0.mk (blk_below (g := gb130) (o := .cells #[.int .i64 a0_0, .int .i64 a0_1, .string a0_2] 23 (0, 0)) (by (with_reducible repeat (first | refine blk_drewN ?_ _ | refine blk_drew ?_ | refine blk_alloc ?_ _)); exact BK130.out) hb); have n1_ := Aside0.mk (below_step (by repeat (first | (with_reducible first | exact HB.out | apply below_alloc | apply pw_below_drewN | apply below_drew1 | refine below_set ?_ GE130.out) | exact HB.out)) hb); clear BK130; clear HB; have BK130 := n0_; have HB := n1_; clear n0_ n1_; (try clear hb); (try clear hb2); (try clear hk); (try clear hi); have hcz22_0 : w21.cell? ⟨gb130, 0, none⟩ = some (.int .i64 a0_0) := (blk_cell BK130.out 0).trans rfl; have hcz22_1 : w21.cell? ⟨gb130, 1, none⟩ = some (.int .i64 a0_1) := (blk_cell BK130.out 1).trans rfl; have hcz22_2 : w21.cell? ⟨gb130, 2, none⟩ = some (.string a0_2) := (blk_cell BK130.out 2).trans rfl; have hfz22_0 := blk_frozen BK130.out 0; have hfz22_1 := blk_frozen BK130.out 1; have hfz22_2 := blk_frozen BK130.out 2) | ((with_reducible refine gate_callee (f := 37) rfl ?_); refine goesL_ (some 28) rfl rfl Tryd.func37 (by kernel_rfl) rfl #[.string a0_2, .func (.func 38) #[] #[]] rfl (by (try simp only [List.map_toArray, List.map_cons, List.map_nil]); first | done | rfl | (simp only [List.length_drop, List.length_take]; rfl)) ?_; (with_reducible refine (strings_ContainsFunc_sound_Valid_1.calls a0_2  true _ A18.out).mono ?_); rintro e w23 ⟨rfl, hb⟩; refine ⟨_, rfl, ?_⟩; have n0_ := Aside0.mk (blk_below (g := gb130) (o := .cells #[.int .i64 a0_0, .int .i64 a0_1, .string a0_2] 23 (0, 0)) (by (with_reducible repeat (first | refine blk_drewN ?_ _ | refine blk_drew ?_ | refine blk_alloc ?_ _)); exact BK130.out) hb); have n1_ := Aside0.mk (below_step (by repeat (first | (with_reducible first | exact HB.out | apply below_alloc | apply pw_below_drewN | apply below_drew1 | refine below_set ?_ GE130.out) | exact HB.out)) hb); clear BK130; clear HB; have BK130 := n0_; have HB := n1_; clear n0_ n1_; (try clear hb); (try clear hb2); (try clear hk); (try clear hi)))
                go_ret
                exact ⟨by first | rfl | (simp [errW_none, errW_some] <;> rfl) | (simp [*, errW_none, errW_some] <;> rfl), by repeat (first | (with_reducible first | exact HB.out | apply below_alloc | apply pw_below_drewN | apply below_drew1 | refine below_set ?_ GE130.out) | exact HB.out)⟩
              · replace c19 := Bool.eq_false_iff.mpr c19
                subst c19
                have H1 : (some 0) = some r := by rw [if_neg (show ¬ (false = true) by decide)] at H; exact H
                clear H
                have H := H1
                clear H1
                obtain rfl := Option.some.inj H
                have hcz24_0 : wc.cell? ⟨gb130, 0, none⟩ = some (.int .i64 a0_0) := (blk_cell BK130.out 0).trans rfl
                have hcz24_1 : wc.cell? ⟨gb130, 1, none⟩ = some (.int .i64 a0_1) := (blk_cell BK130.out 1).trans rfl
                have hcz24_2 : wc.cell? ⟨gb130, 2, none⟩ = some (.string a0_2) := (blk_cell BK130.out 2).trans rfl
                have hfz24_0 := blk_frozen BK130.out 0
                have hfz24_1 := blk_frozen BK130.out 1
                have hfz24_2 := blk_frozen BK130.out 2
                go_wp2_with (first | ((with_reducible refine gate_callee (f := 36) rfl ?_); refine goesL_ (some 14) rfl rfl Tryd.func36 (by kernel_rfl) rfl #[.agg #[.int .i64 a0_0, .int .i64 a0_1, .string a0_2]] rfl (by (try simp only [List.map_toArray, List.map_cons, List.map_nil]); first | done | rfl | (simp only [List.length_drop, List.length_take]; rfl)) ?_; (with_reducible refine (sound_quantity.calls a0_0 a0_1 a0_2 true _ A8.out).mono ?_); rintro e w25 ⟨rfl, hb⟩; refine ⟨_, rfl, ?_⟩; have n0_ := Aside0.mk (blk_below (g := gb130) (o := .cells #[.int .i64 a0_0, .int .i64 a0_1, .string a0_2] 23 (0, 0)) (by (with_reducible repeat (first | refine blk_drewN ?_ _ | refine blk_drew ?_ | refine blk_alloc ?_ _)); exact BK130.out) hb); have n1_ := Aside0.mk (below_step (by repeat (first | (with_reducible first | exact HB.out | apply below_alloc | apply pw_below_drewN | apply below_drew1 | refine below_set ?_ GE130.out) | exact HB.out)) hb); clear BK130; clear HB; have BK130 := n0_; have HB := n1_; clear n0_ n1_; (try clear hb); (try clear hb2); (try clear hk); (try clear hi); have hcz26_0 : w25.cell? ⟨gb130, 0, none⟩ = some (.int .i64 a0_0) := (blk_cell BK130.out 0).trans rfl; have hcz26_1 : w25.cell? ⟨gb130, 1, none⟩ = some (.int .i64 a0_1) := (blk_cell BK130.out 1).trans rfl; have hcz26_2 : w25.cell? ⟨gb130, 2, none⟩ = some (.string a0_2) := (blk_cell BK130.out 2).trans rfl; have hfz26_0 := blk_frozen BK130.out 0; have hfz26_1 := blk_frozen BK130.out 1; have hfz26_2 := blk_frozen BK130.out 2) | ((with_reducible refine gate_callee (f := 37) rfl ?_); refine goesL_ (some 28) rfl rfl Tryd.func37 (by kernel_rfl) rfl #[.string a0_2, .func (.func 38) #[] #[]] rfl (by (try simp only [List.map_toArray, List.map_cons, List.map_nil]); first | done | rfl | (simp only [List.length_drop, List.length_take]; rfl)) ?_; (with_reducible refine (strings_ContainsFunc_sound_Valid_1.calls a0_2  false _ A18.out).mono ?_); rintro e w27 ⟨rfl, hb⟩; refine ⟨_, rfl, ?_⟩; have n0_ := Aside0.mk (blk_below (g := gb130) (o := .cells #[.int .i64 a0_0, .int .i64 a0_1, .string a0_2] 23 (0, 0)) (by (with_reducible repeat (first | refine blk_drewN ?_ _ | refine blk_drew ?_ | refine blk_alloc ?_ _)); exact BK130.out) hb); have n1_ := Aside0.mk (below_step (by repeat (first | (with_reducible first | exact HB.out | apply below_alloc | apply pw_below_drewN | apply below_drew1 | refine below_set ?_ GE130.out) | exact HB.out)) hb); clear BK130; clear HB; have BK130 := n0_; have HB := n1_; clear n0_ n1_; (try clear hb); (try clear hb2); (try clear hk); (try clear hi)))
                go_ret
                exact ⟨by first | rfl | (simp [errW_none, errW_some] <;> rfl) | (simp [*, errW_none, errW_some] <;> rfl), by repeat (first | (with_reducible first | exact HB.out | apply below_alloc | apply pw_below_drewN | apply below_drew1 | refine below_set ?_ GE130.out) | exact HB.out)⟩
        · replace c9 := Bool.eq_false_iff.mpr c9
          subst c9
          have H1 : (some 6) = some r := by rw [if_neg (show ¬ (false = true) by decide)] at H; exact H
          clear H
          have H := H1
          clear H1
          obtain rfl := Option.some.inj H
          have hcz28_0 : wc.cell? ⟨gb130, 0, none⟩ = some (.int .i64 a0_0) := (blk_cell BK130.out 0).trans rfl
          have hcz28_1 : wc.cell? ⟨gb130, 1, none⟩ = some (.int .i64 a0_1) := (blk_cell BK130.out 1).trans rfl
          have hcz28_2 : wc.cell? ⟨gb130, 2, none⟩ = some (.string a0_2) := (blk_cell BK130.out 2).trans rfl
          have hfz28_0 := blk_frozen BK130.out 0
          have hfz28_1 := blk_frozen BK130.out 1
          have hfz28_2 := blk_frozen BK130.out 2
          go_wp2_with (first | ((with_reducible refine gate_callee (f := 36) rfl ?_); refine goesL_ (some 14) rfl rfl Tryd.func36 (by kernel_rfl) rfl #[.agg #[.int .i64 a0_0, .int .i64 a0_1, .string a0_2]] rfl (by (try simp only [List.map_toArray, List.map_cons, List.map_nil]); first | done | rfl | (simp only [List.length_drop, List.length_take]; rfl)) ?_; (with_reducible refine (sound_quantity.calls a0_0 a0_1 a0_2 false _ A8.out).mono ?_); rintro e w29 ⟨rfl, hb⟩; refine ⟨_, rfl, ?_⟩; have n0_ := Aside0.mk (blk_below (g := gb130) (o := .cells #[.int .i64 a0_0, .int .i64 a0_1, .string a0_2] 23 (0, 0)) (by (with_reducible repeat (first | refine blk_drewN ?_ _ | refine blk_drew ?_ | refine blk_alloc ?_ _)); exact BK130.out) hb); have n1_ := Aside0.mk (below_step (by repeat (first | (with_reducible first | exact HB.out | apply below_alloc | apply pw_below_drewN | apply below_drew1 | refine below_set ?_ GE130.out) | exact HB.out)) hb); clear BK130; clear HB; have BK130 := n0_; have HB := n1_; clear n0_ n1_; (try clear hb); (try clear hb2); (try clear hk); (try clear hi)))
          go_ret
          exact ⟨by first | rfl | (simp [errW_none, errW_some] <;> rfl) | (simp [*, errW_none, errW_some] <;> rfl), by repeat (first | (with_reducible first | exact HB.out | apply below_alloc | apply pw_below_drewN | apply below_drew1 | refine below_set ?_ GE130.out) | exact HB.out)⟩

/-! ### strings_Cut: function 59 (at a separator of one byte) -/
def strings_Cut.at1 (s : ByteArray) (c : UInt8) : ByteArray × ByteArray × Bool := if 0 ≤ Lib.indexByte s.data.toList c then (s.extract 0 (Lib.indexByte s.data.toList c).toNat, s.extract ((Lib.indexByte s.data.toList c).toNat + 1) s.size, true) else (s, ⟨#[]⟩, false)
def strings_Cut.f (a0 a1 : ByteArray) : Option (ByteArray × ByteArray × Bool) := if a1.size = 1 ∧ a0.size ≤ 4294967296 then some (strings_Cut.at1 a0 (a1.data.toList.getD 0 0)) else none
set_option maxHeartbeats 4000000 in
set_option maxRecDepth 100000 in
theorem strings_Cut.lite (s : ByteArray) (c : UInt8) (w : World) (hs : s.size ≤ 4294967296) :
    Calls Tryd.prog 69 #[.string s, .string ⟨#[c]⟩] w fun e w' => e = .returned (.tuple #[.string (strings_Cut.at1 s c).1, .string (strings_Cut.at1 s c).2.1, .bool (strings_Cut.at1 s c).2.2]) ∧ Drawn0 w w' := by
  have hidx : ∀ W : World, Calls Tryd.prog 76 #[.string s, .string ⟨#[c]⟩] W fun e w' => e = .returned (.int .i64 (Lib.indexByte s.data.toList c)) ∧ w' = W := fun W => Tryd.stringslite_Index_one s c W
  have hge := Lib.indexByte_ge s.data.toList c
  have hlt : Lib.indexByte s.data.toList c < (s.size : Int) ∨ Lib.indexByte s.data.toList c = -1 := by
    have : ∀ l : List UInt8, Lib.indexByte l c < (l.length : Int) ∨ Lib.indexByte l c = -1 := by
      intro l
      induction l with
      | nil => exact .inr rfl
      | cons x r ih =>
        have := Lib.indexByte_ge r c
        rw [Lib.indexByte, List.length_cons]
        by_cases hx : (x == c) = true
        · rw [if_pos hx]; exact .inl (by omega)
        · rw [if_neg hx]
          by_cases h1 : (Lib.indexByte r c == -1) = true
          · rw [if_pos h1]; exact .inr rfl
          · rw [if_neg h1]
            have : Lib.indexByte r c ≠ -1 := by simpa using h1
            exact .inl (by omega)
    have h2 := this s.data.toList
    rwa [show s.data.toList.length = s.size by simp] at h2
  unfold strings_Cut.at1
  generalize Lib.indexByte s.data.toList c = i at hidx hge hlt ⊢
  by_cases h0 : 0 ≤ i
  · rw [if_pos h0]
    obtain ⟨j, rfl⟩ := Int.eq_ofNat_of_zero_le h0
    have hj : j < s.size := by omega
    have h1 : (⟨#[c]⟩ : ByteArray).size = 1 := rfl
    rw [Int.toNat_natCast]
    obtain ⟨x, hx⟩ : ∃ x, s.extract 0 j = x := ⟨_, rfl⟩
    obtain ⟨y, hy⟩ : ∃ y, s.extract (j + 1) s.size = y := ⟨_, rfl⟩
    clear hge hlt
    go_enter Tryd.func69, Tryd.ntmps69
    go_wp2_with (go_at_call 76; refine (hidx _).mono ?_; rintro e w1 ⟨rfl, hw1⟩; obtain rfl : w = w1 := hw1.symm; clear hw1)
    go_quiet (fail)
    try go_wp2
    go_ret3
    subst hx; subst hy
    exact ⟨rfl, ⟨_, rfl⟩⟩
  · rw [if_neg h0]
    have hd : decide ((0 : Int) ≤ i) = false := decide_eq_false h0
    clear hge hlt
    go_enter Tryd.func69, Tryd.ntmps69
    go_wp2_with (go_at_call 76; refine (hidx _).mono ?_; rintro e w1 ⟨rfl, hw1⟩; obtain rfl : w = w1 := hw1.symm; clear hw1)
    go_ret3
    exact ⟨rfl, Drawn0.refl _⟩
theorem strings_Cut.calls (a0 a1 : ByteArray) (r1 r2 : ByteArray) (r3 : Bool) (w : World) (h : strings_Cut.f a0 a1 = some (r1, r2, r3)) :
    Calls Tryd.prog 59 #[.string a0, .string a1] w fun e w' => e = .returned (.tuple #[.string r1, .string r2, .bool r3]) ∧ Drawn0 w w' := by
  unfold strings_Cut.f at h
  split at h
  · rename_i hg
    have h := Option.some.inj h
    obtain ⟨c, rfl⟩ : ∃ c : UInt8, a1 = ⟨#[c]⟩ := by
      obtain ⟨⟨l⟩⟩ := a1
      match l, hg.1 with
      | [c], _ => exact ⟨c, rfl⟩
    have hL := fun W => strings_Cut.lite a0 c W hg.2
    rw [show strings_Cut.at1 a0 c = (r1, r2, r3) from h] at hL
    clear h
    go_enter Tryd.func59, Tryd.ntmps59
    go_wp2_with (go_at_call 69; refine (hL _).mono ?_; rintro e w1 ⟨rfl, ⟨nd, rfl⟩⟩)
    go_ret3
    exact ⟨rfl, ⟨nd, rfl⟩⟩
  · cases h

/-! ### strings_IndexByte: function 60 -/
def strings_IndexByte.f (a0 : ByteArray) (a1 : Int) : Option (Int) := some (Lib.indexByte a0.data.toList a1.toNat.toUInt8)
theorem strings_IndexByte.calls (a0 : ByteArray) (a1 : Int) (r : Int) (w : World) (h : strings_IndexByte.f a0 a1 = some r) :
    Calls Tryd.prog 60 #[.string a0, .int .u8 a1] w fun e w' => e = .returned (.int .i64 r) ∧ Drawn0 w w' := by
  obtain rfl := Option.some.inj h
  exact (Tryd.strings_IndexByte a0 a1 w).mono fun e w' ⟨he, hw⟩ => ⟨he, hw ▸ Drawn0.refl _⟩

end Go.Proofs.YtnjiniegpjfemaaDoor.X
