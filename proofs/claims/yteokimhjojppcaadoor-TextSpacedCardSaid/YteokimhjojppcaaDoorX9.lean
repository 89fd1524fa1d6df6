-- printed by this session's xprint.py: out of the translation, by the kit's print with additions; Lean checks it
import Derived.Test.YteokimhjojppcaaDoorBld
import Derived.Test.YteokimhjojppcaaDoorWN
import Derived.Test.YteokimhjojppcaaDoorWShare
import Derived.Test.YteokimhjojppcaaDoorWRepsOne
import Derived.Test.YteokimhjojppcaaDoorWGuard
import Derived.Test.YteokimhjojppcaaDoorX0
import Derived.Test.YteokimhjojppcaaDoorX3
import Derived.Test.YteokimhjojppcaaDoorX4
namespace Go.Proofs.YteokimhjojppcaaDoor.X
open Go.RowKit Go.Proofs.YteokimhjojppcaaDoorW.PrintWords Go.Proofs.YteokimhjojppcaaDoorW.PrintLast Go.Proofs.YteokimhjojppcaaDoorW.PrintMore
attribute [local go_sem] max2_int min2_int max_two min_two max_three min_three max_four min_four isSome_setCell binOp_gtr_str binOp_leq_str   -- for this text's walks alone
set_option linter.unusedVariables false
set_option linter.unusedSimpArgs false

-- NOT PRINTED: function 29 (slices_IndexFunc_byte_byte)

-- NOT PRINTED: function 15 (slices_ContainsFunc_byte_byte)

/-! ### ancepsref01_Letter: function 16 -/
mutual
def ancepsref01_Letter.j0 : Nat → Int → Bool → Option (Bool)
  | 0, _, _ => none
  | k + 1, x0, x9 => if x9 = true then (some false) else (ancepsref01_Letter.l0 k x0 0)
def ancepsref01_Letter.l0 : Nat → Int → Int → Option (Bool)
  | 0, _, _ => none
  | k + 1, x0, x3 => if x3 < 15 then (if 0 ≤ x3 then (if (bt (⟨#[32, 46, 44, 59, 58, 33, 63, 34, 45, 91, 93, 60, 62, 123, 125]⟩ : ByteArray) x3) = x0 then (some false) else (ancepsref01_Letter.l0 k x0 (wrap64 (x3 + 1)))) else (none)) else (some true)
end
def ancepsref01_Letter.f (k : Nat) (a0 : Int) : Option (Bool) := if a0 < 32 then (ancepsref01_Letter.j0 k a0 true) else (ancepsref01_Letter.j0 k a0 (decide (a0 > 126)))
theorem ancepsref01_Letter.mono_l : ∀ k, (∀ y0 y1, LeO (ancepsref01_Letter.j0 k y0 y1) (ancepsref01_Letter.j0 (k + 1) y0 y1)) ∧ (∀ y0 y1, LeO (ancepsref01_Letter.l0 k y0 y1) (ancepsref01_Letter.l0 (k + 1) y0 y1))
  | 0 => ⟨fun _ _ r h => by simp [ancepsref01_Letter.j0] at h, fun _ _ r h => by simp [ancepsref01_Letter.l0] at h⟩
  | k + 1 => by
    obtain ⟨ih0, ih1⟩ := ancepsref01_Letter.mono_l k
    refine ⟨?_, ?_⟩
    · intro y0 y1
      unfold ancepsref01_Letter.j0
      repeat' first
      | (with_reducible exact ih0 _ _)
      | (with_reducible exact ih1 _ _)
      | (with_reducible exact LeO.refl _)
      | (with_reducible exact LeO.none _)
      | (with_reducible refine LeO.ite ?_ ?_)
      | (with_reducible refine LeO.bind ?_ (fun _ => ?_))
      | exact ih0 _ _
      | exact ih1 _ _
      | exact LeO.none _
      | refine LeO.ite ?_ ?_
      | refine LeO.bind ?_ (fun _ => ?_)
    · intro y0 y1
      unfold ancepsref01_Letter.l0
      repeat' first
      | (with_reducible exact ih0 _ _)
      | (with_reducible exact ih1 _ _)
      | (with_reducible exact LeO.refl _)
      | (with_reducible exact LeO.none _)
      | (with_reducible refine LeO.ite ?_ ?_)
      | (with_reducible refine LeO.bind ?_ (fun _ => ?_))
      | exact ih0 _ _
      | exact ih1 _ _
      | exact LeO.none _
      | refine LeO.ite ?_ ?_
      | refine LeO.bind ?_ (fun _ => ?_)
theorem ancepsref01_Letter.mono : ∀ a0 k, LeO (ancepsref01_Letter.f k a0) (ancepsref01_Letter.f (k + 1) a0) := by
  intro a0 k
  obtain ⟨ih0, ih1⟩ := ancepsref01_Letter.mono_l k
  unfold ancepsref01_Letter.f
  repeat' first
      | (with_reducible exact ih0 _ _)
      | (with_reducible exact ih1 _ _)
      | (with_reducible exact LeO.refl _)
      | (with_reducible exact LeO.none _)
      | (with_reducible refine LeO.ite ?_ ?_)
      | (with_reducible refine LeO.bind ?_ (fun _ => ?_))
      | exact ih0 _ _
      | exact ih1 _ _
      | exact LeO.none _
      | refine LeO.ite ?_ ?_
      | refine LeO.bind ?_ (fun _ => ?_)
set_option maxHeartbeats 8000000 in
set_option maxRecDepth 100000 in
theorem ancepsref01_Letter.calls (k : Nat) (a0 : Int) (r : Bool) (w : World) (h : ancepsref01_Letter.f k a0 = some r) :
    Calls Tryd.prog 16 #[.int .u8 a0] w fun e w' => e = .returned (.bool r) ∧ Drawn0 w w' := by
  have H : (if a0 < 32 then (ancepsref01_Letter.j0 k a0 true) else (ancepsref01_Letter.j0 k a0 (decide (a0 > 126)))) = some r := h
  clear h
  have HC2 := Aside0.mk H
  clear H
  go_enter Tryd.func16, Tryd.ntmps16
  go_upto_region 1 with (fail)
  go_cut [9] (fun v9 wc => ∃ (kq : Nat) (x9_1 : Bool), v9 = .bool x9_1 ∧ Aside0 (ancepsref01_Letter.j0 kq a0 x9_1 = some r) ∧ Aside0 (kq ≤ k) ∧ Drawn0 w wc)
  case first =>
    have H := HC2.out
    clear HC2
    by_cases c3 : a0 < 32
    · rw [if_pos c3] at H
      have c3b0 : decide (a0 < 32) = true := decide_eq_true c3
      clear c3
      (first | rw [c3b0] | (simp only [i64_w, i32_w]; rw [c3b0]) | skip)
      have H' := Aside0.mk H
      clear H
      go_wp2
      go_meet
      case rel => exact ⟨_, (true), (by first | rfl | (simp; done) | (simp [*]; done)), H', ⟨by first | omega | exact Nat.le_refl _⟩, by repeat (first | exact Drawn0.refl _ | apply Drawn0.step)⟩
    · rw [if_neg c3] at H
      have c3b0 : decide (a0 < 32) = false := decide_eq_false c3
      clear c3
      (first | rw [c3b0] | (simp only [i64_w, i32_w]; rw [c3b0]) | skip)
      have H' := Aside0.mk H
      clear H
      go_wp2
      go_meet
      case rel => exact ⟨_, (decide (a0 > 126)), (by first | rfl | (simp; done) | (simp [*]; done)), H', ⟨by first | omega | exact Nat.le_refl _⟩, by repeat (first | exact Drawn0.refl _ | apply Drawn0.step)⟩
  case rest =>
    clear HC2
    try clear c1
    try clear p2
    try clear c3
    try clear c3b0
    obtain ⟨kq, x9_1, rfl, HA, HJ1, ⟨mc1, rfl⟩⟩ := hcut
    cases kq with
    | zero => exact absurd HA.out (by simp [ancepsref01_Letter.j0])
    | succ kj1 =>
      have H := HA.out
      clear HA
      simp only [ancepsref01_Letter.j0] at H
      by_cases c4 : x9_1 = true
      · subst c4
        have H1 : (some false) = some r := by rw [if_pos rfl] at H; exact H
        clear H
        have H := H1
        clear H1
        obtain rfl := Option.some.inj H
        go_wp2
        go_ret
        exact ⟨by first | rfl | (simp; done) | (simp [*]; done), by repeat (first | exact Drawn0.refl _ | apply Drawn0.step)⟩
      · replace c4 := Bool.eq_false_iff.mpr c4
        subst c4
        have H1 : (ancepsref01_Letter.l0 kj1 a0 0) = some r := by rw [if_neg (show ¬ (false = true) by decide)] at H; exact H
        clear H
        have H := H1
        clear H1
        have H' := Aside0.mk H
        clear H
        go_wp2
        go_loopg [3] kj1 (fun kq v3 w' => ∃ (x3_2 : Int), v3 = .int .i64 x3_2 ∧ Aside0 (ancepsref01_Letter.l0 kq a0 x3_2 = some r) ∧ Aside0 (kq ≤ kj1) ∧ Drawn0 w w')
        case atStart => exact ⟨(0), (by first | rfl | (simp; done) | (simp [*]; done)), H', ⟨Nat.le_refl _⟩, by repeat (first | exact Drawn0.refl _ | apply Drawn0.step)⟩
        case round =>
          clear H'
          try clear c1
          try clear p2
          try clear c3
          try clear c3b0
          try clear c4
          try clear p2
          obtain ⟨x3_2, rfl, HA, HK2, ⟨m2, rfl⟩⟩ := hrel
          cases gk with
          | zero => exact absurd HA.out (by simp [ancepsref01_Letter.l0])
          | succ k2 =>
            have H := HA.out
            clear HA
            simp only [ancepsref01_Letter.l0] at H
            by_cases c5 : x3_2 < 15
            · rw [if_pos c5] at H
              have c5b0 : decide (x3_2 < 15) = true := decide_eq_true c5
              clear c5
              by_cases c6 : 0 ≤ x3_2
              · rw [if_pos c6] at H
                have c6b0 : decide (0 ≤ x3_2) = true := decide_eq_true c6
                clear c6
                by_cases c8 : (bt (⟨#[32, 46, 44, 59, 58, 33, 63, 34, 45, 91, 93, 60, 62, 123, 125]⟩ : ByteArray) x3_2) = a0
                · rw [if_pos c8] at H
                  have c8b0 : ((bt (⟨#[32, 46, 44, 59, 58, 33, 63, 34, 45, 91, 93, 60, 62, 123, 125]⟩ : ByteArray) x3_2) == a0) = true := beq_iff_eq.mpr c8
                  have c8b1 : ((bt (⟨#[32, 46, 44, 59, 58, 33, 63, 34, 45, 91, 93, 60, 62, 123, 125]⟩ : ByteArray) x3_2) != a0) = false := bne_eq_false_iff_eq.mpr c8
                  clear c8
                  obtain rfl := Option.some.inj H
                  have p7 : 0 ≤ (x3_2 : Int) := of_decide_eq_true (by first | (with_reducible assumption) | assumption)
                  have q7 : x3_2 < (15 : Int) := of_decide_eq_true (by first | (with_reducible assumption) | assumption)
                  have hx7 := bt_at (⟨#[32, 46, 44, 59, 58, 33, 63, 34, 45, 91, 93, 60, 62, 123, 125]⟩ : ByteArray) x3_2
                  replace p7 := eq_true p7
                  replace q7 := eq_true q7
                  go_wp2
                  go_ret
                  exact ⟨by first | rfl | (simp; done) | (simp [*]; done), by repeat (first | exact Drawn0.refl _ | apply Drawn0.step)⟩
                · rw [if_neg c8] at H
                  have c8b0 : ((bt (⟨#[32, 46, 44, 59, 58, 33, 63, 34, 45, 91, 93, 60, 62, 123, 125]⟩ : ByteArray) x3_2) == a0) = false := beq_eq_false_iff_ne.mpr c8
                  have c8b1 : ((bt (⟨#[32, 46, 44, 59, 58, 33, 63, 34, 45, 91, 93, 60, 62, 123, 125]⟩ : ByteArray) x3_2) != a0) = true := bne_iff_ne.mpr c8
                  have H' := Aside0.mk H
                  clear H
                  have p7 : 0 ≤ (x3_2 : Int) := of_decide_eq_true (by first | (with_reducible assumption) | assumption)
                  have q7 : x3_2 < (15 : Int) := of_decide_eq_true (by first | (with_reducible assumption) | assumption)
                  have hx7 := bt_at (⟨#[32, 46, 44, 59, 58, 33, 63, 34, 45, 91, 93, 60, 62, 123, 125]⟩ : ByteArray) x3_2
                  replace p7 := eq_true p7
                  replace q7 := eq_true q7
                  go_wp2
                  go_roundg k2
                  case measure => have := HJ1.out; have := HK2.out; omega
                  case rel => exact ⟨(wrap64 (x3_2 + 1)), (by first | rfl | (simp; done) | (simp [*]; done)), H', ⟨by have := HJ1.out; have := HK2.out; omega⟩, by repeat (first | exact Drawn0.refl _ | apply Drawn0.step)⟩
              · rw [if_neg c6] at H
                exact absurd H (by simp)
            · rw [if_neg c5] at H
              have c5b0 : decide (x3_2 < 15) = false := decide_eq_false c5
              clear c5
              obtain rfl := Option.some.inj H
              go_wp2
              go_ret
              exact ⟨by first | rfl | (simp; done) | (simp [*]; done), by repeat (first | exact Drawn0.refl _ | apply Drawn0.step)⟩

/-! ### strings_ToUpper: function 17 (at ASCII) -/
def strings_ToUpper.f (a0 : ByteArray) : Option ByteArray := if a0.size ≤ 140737488355328 ∧ a0.data.toList.all (fun b => decide (b.toNat < 128)) = true then some ⟨(Lib.toUpperA a0.data.toList).toArray⟩ else none
theorem strings_ToUpper.calls (a0 : ByteArray) (r : ByteArray) (w : World) (h : strings_ToUpper.f a0 = some r) :
    Calls Tryd.prog 17 #[.string a0] w fun e w' => e = .returned (.string r) ∧ Below w.heap.size w w' := by
  unfold strings_ToUpper.f at h
  split at h
  · rename_i hg
    obtain rfl := Option.some.inj h
    exact Tryd.strings_ToUpper_ascii a0 w hg.1 (fun j b hb => of_decide_eq_true (List.all_eq_true.1 hg.2 b (List.mem_of_getElem? hb)))
  · cases h

/-! ### strings_ReplaceAll: function 18 (at an old of one byte) -/
/-- every byte c turned into nw -/
def strings_ReplaceAll.rep (c : UInt8) (nw : List UInt8) : List UInt8 → List UInt8
  | [] => []
  | x :: r => if (x == c) = true then nw ++ strings_ReplaceAll.rep c nw r else x :: strings_ReplaceAll.rep c nw r
theorem strings_ReplaceAll.rep_none (c : UInt8) (nw : List UInt8) : ∀ l : List UInt8, l.count c = 0 → strings_ReplaceAll.rep c nw l = l
  | [], _ => rfl
  | x :: r, h => by
    rw [List.count_cons] at h
    rw [strings_ReplaceAll.rep]
    by_cases hx : (x == c) = true
    · rw [if_pos hx] at h; omega
    · rw [if_neg hx] at h
      rw [if_neg hx, strings_ReplaceAll.rep_none c nw r h]
theorem strings_ReplaceAll.rep_at (c : UInt8) (nw : List UInt8) : ∀ l : List UInt8, 0 < l.count c → ∃ j : Nat, Lib.indexByte l c = (j : Int) ∧ j < l.length ∧ strings_ReplaceAll.rep c nw l = l.take j ++ (nw ++ strings_ReplaceAll.rep c nw (l.drop (j + 1))) ∧ (l.drop (j + 1)).count c + 1 = l.count c
  | [], h => by simp at h
  | x :: r, h => by
    by_cases hx : (x == c) = true
    · refine ⟨0, by rw [Lib.indexByte, if_pos hx]; rfl, by simp, by rw [strings_ReplaceAll.rep, if_pos hx]; rfl, by rw [List.count_cons, if_pos hx]; rfl⟩
    · rw [List.count_cons, if_neg hx] at h
      obtain ⟨j, h1, h2, h3, h4⟩ := strings_ReplaceAll.rep_at c nw r h
      refine ⟨j + 1, ?_, by simpa using h2, ?_, ?_⟩
      · rw [Lib.indexByte, if_neg hx, h1]
        rw [if_neg (by simp)]; omega
      · rw [strings_ReplaceAll.rep, if_neg hx, h3]; rfl
      · rw [List.count_cons, if_neg hx, List.drop_succ_cons]; omega
theorem strings_ReplaceAll.rep_len (c : UInt8) (nw : List UInt8) (h : nw.length ≤ 4096) : ∀ l : List UInt8, (strings_ReplaceAll.rep c nw l).length ≤ 4097 * l.length
  | [] => by simp [strings_ReplaceAll.rep]
  | x :: r => by
    have ih := strings_ReplaceAll.rep_len c nw h r
    rw [strings_ReplaceAll.rep]
    split
    · simp only [List.length_append, List.length_cons]; omega
    · simp only [List.length_cons]; omega
theorem strings_ReplaceAll.rep_same (c : UInt8) : ∀ l : List UInt8, strings_ReplaceAll.rep c [c] l = l
  | [] => rfl
  | x :: r => by
    rw [strings_ReplaceAll.rep, strings_ReplaceAll.rep_same c r]
    split
    · rename_i h
      rw [beq_iff_eq.1 h]; rfl
    · rfl
def strings_ReplaceAll.f (a0 a1 a2 : ByteArray) : Option ByteArray := if a1.size = 1 ∧ a0.size ≤ 1048576 ∧ a2.size ≤ 4096 then some ⟨(strings_ReplaceAll.rep (a1.data.toList.getD 0 0) a2.data.toList a0.data.toList).toArray⟩ else none
theorem strings_ReplaceAll.cut (x : ByteArray) (a : Nat) : (x.extract a x.size).data.toList = x.data.toList.drop a := by
  rw [ByteArray.data_extract, Array.toList_extract, List.extract_eq_take_drop, List.take_of_length_le]
  rw [List.length_drop]; simp
theorem strings_ReplaceAll.mid (x : ByteArray) (a j : Nat) : (x.extract a (a + j)).data.toList = (x.data.toList.drop a).take j := by
  rw [ByteArray.data_extract, Array.toList_extract, List.extract_eq_take_drop, Nat.add_sub_cancel_left]
/-- a fresh builder, grown -/
theorem strings_ReplaceAll.grown (w : World) (n : Nat) (hn : n ≤ 281474976710656) :
    Calls Tryd.prog 30 #[.pointer (some ⟨w.heap.size, 0, none⟩), .int .i64 n] (w.alloc (.cells #[.pointer none, .slice none 0 0] 54)) fun e w' =>
      e = .returned (.tuple #[]) ∧ ∃ r, Bld.Bd w' w.heap.size r [] ∧ (∀ g, r = some g → w.heap.size ≤ g) ∧ Below w.heap.size w w' := by
  have hs : w.heap.size ≤ (w.alloc (.cells #[.pointer none, .slice none 0 0] 54)).heap.size := by simp
  have hk : (w.alloc (.cells #[.pointer none, .slice none 0 0] 54)).heap[w.heap.size]? = some (.cells #[.pointer none, .slice none 0 0] 54 (0, 0)) := heap_alloc_new w _
  refine (Tryd.Builder_Grow_fresh w.heap.size w.heap.size n _ (Nat.le_refl _) hk hs hn).mono ?_
  rintro e w' ⟨he, ⟨_, v, h1, h2, h3⟩, h4⟩
  refine ⟨he, v.ownBlock, ⟨_, v, .inr rfl, h1, ?_, rfl, h3⟩, ?_, ((Below.refl _ _).alloc (Nat.le_refl _) _).trans h4⟩
  · obtain ⟨q1, q2⟩ := h2
    refine ⟨q1, q2.imp_right ?_⟩
    rintro ⟨g, cap, cur, rfl, hg, hh, rest⟩
    exact ⟨g, cap, cur, rfl, Nat.zero_le _, hh, rest⟩
  · intro g hg
    obtain ⟨q1, q2⟩ := h2
    rcases q2 with ⟨rfl, _⟩ | ⟨g', cap, cur, rfl, hg', hh, rest⟩
    · simp [Value.ownBlock] at hg
    · simp only [Value.ownBlock] at hg
      injection hg with hg
      omega
set_option maxHeartbeats 4000000 in
set_option maxRecDepth 100000 in
theorem strings_ReplaceAll.repl (s nw : ByteArray) (c : UInt8) (w : World) (hs : s.size ≤ 1048576) (hn : nw.size ≤ 4096) (hne : (⟨#[c]⟩ : ByteArray) ≠ nw) :
    Calls Tryd.prog 34 #[.string s, .string ⟨#[c]⟩, .string nw, .int .i64 (-1)] w fun e w' => e = .returned (.string ⟨(strings_ReplaceAll.rep c nw.data.toList s.data.toList).toArray⟩) ∧ Below w.heap.size w w' := by
  have hsl : s.data.toList.length = s.size := by simp
  have hnl : nw.data.toList.length = nw.size := by simp
  have hcl : s.data.toList.count c ≤ s.data.toList.length := List.count_le_length
  have hrl := strings_ReplaceAll.rep_len c nw.data.toList (by omega) s.data.toList
  obtain ⟨m, hm⟩ : ∃ m, s.data.toList.count c = m := ⟨_, rfl⟩
  have hneq : ((⟨#[c]⟩ : ByteArray).toList == nw.toList) = false := by
    rw [beq_eq_false_iff_ne]
    intro e
    apply hne
    rw [Lib.toList_data, Lib.toList_data] at e
    have : (⟨(⟨#[c]⟩ : ByteArray).data.toList.toArray⟩ : ByteArray) = ⟨nw.data.toList.toArray⟩ := by rw [e]
    exact this
  have hneq2 : ([c] == nw.toList) = false := by rw [show [c] = (⟨#[c]⟩ : ByteArray).toList by rw [Lib.toList_data]]; exact hneq
  have hcnt : ∀ W : World, Calls Tryd.prog 49 #[.string s, .string ⟨#[c]⟩] W fun e w' => e = .returned (.int .i64 (m : Int)) ∧ w' = W := fun W => by
    have := Tryd.strings_Count_one s c W
    rw [show Lib.countByte s.data.toList c = m from hm] at this
    exact this
  rw [hm, hsl] at hcl
  by_cases h0 : m = 0
  · subst h0
    have hr : strings_ReplaceAll.rep c nw.data.toList s.data.toList = s.data.toList := strings_ReplaceAll.rep_none c _ _ hm
    rw [hr]
    clear hr hrl hm hsl hnl hcl
    have hz : (((0 : Nat) : Int) == 0) = true := rfl
    go_enter Tryd.func34, Tryd.ntmps34
    go_wp2_with (go_at_call 49; refine (hcnt _).mono ?_; rintro e w1 ⟨rfl, hw1⟩; obtain rfl : w = w1 := hw1.symm; clear hw1)
    go_ret
    exact ⟨rfl, Below.refl _ _⟩
  · have hz : ((m : Int) == 0) = false := by rw [beq_eq_false_iff_ne]; omega
    obtain ⟨d, hd⟩ : ∃ d : Int, (nw.size : Int) - 1 = d := ⟨_, rfl⟩
    have hdw : IntKind.i64.wrap ((nw.size : Int) - 1) = d := by rw [hd, IntKind.wrap_i64]; omega
    obtain ⟨p, hp⟩ : ∃ p : Int, (m : Int) * d = p := ⟨_, rfl⟩
    have hpr : -(m : Int) ≤ p ∧ p ≤ 4294967296 := by
      rw [← hp]
      constructor
      · have h1 : (m : Int) * (-1) ≤ (m : Int) * d := Int.mul_le_mul_of_nonneg_left (by omega) (by omega)
        omega
      · have h1 : (m : Int) * d ≤ (m : Int) * 4096 := Int.mul_le_mul_of_nonneg_left (by omega) (by omega)
        omega
    have hpw : IntKind.i64.wrap ((m : Int) * d) = p := by rw [hp, IntKind.wrap_i64]; omega
    obtain ⟨g, hg⟩ : ∃ g : Nat, (s.size : Int) + p = (g : Int) := ⟨((s.size : Int) + p).toNat, by omega⟩
    have hgw : IntKind.i64.wrap ((s.size : Int) + p) = (g : Int) := by rw [hg, IntKind.wrap_i64]; omega
    have hgn : g ≤ 281474976710656 := by omega
    have HM := Lib.hid hm; have HRL := Lib.hid hrl; have HSL := Lib.hid hsl; have HNL := Lib.hid hnl; have HCL := Lib.hid hcl; have HG := Lib.hid hgn; have HS := Lib.hid hs; have HN := Lib.hid hn
    clear hm hrl hsl hnl hcl hd hp hpr hg hgn
    go_enter Tryd.func34, Tryd.ntmps34
    go_wp2_with (first | (go_at_call 49; refine (hcnt _).mono ?_; rintro e w1 ⟨rfl, hw1⟩; obtain rfl : w = w1 := hw1.symm; clear hw1) | (go_at_call 30; refine (strings_ReplaceAll.grown w g HG.out).mono ?_; rintro e w1 ⟨rfl, r, hB, hr, hbel⟩; have HB := Lib.hid hB; have HR := Lib.hid hr; have HE := Lib.hid hbel; clear hB hr hbel))
    clear hdw hpw hgw hcnt hneq hneq2
    have hmb : m ≤ 1048576 := by
      have h1 := HCL.out
      have h2 := HS.out
      omega
    go_loopw [11, 53] (fun x i wr => ∃ (k p : Nat) (done : List UInt8) (r : Option Nat), k ≤ m ∧ p ≤ s.size ∧ x = .int .i64 p ∧ i = .int .i64 k ∧ Hid ((s.data.toList.drop p).count c + k = m ∧ strings_ReplaceAll.rep c nw.data.toList s.data.toList = done ++ strings_ReplaceAll.rep c nw.data.toList (s.data.toList.drop p)) ∧ Hid (Bld.Bd wr w.heap.size r done) ∧ Hid (∀ g, r = some g → w.heap.size ≤ g) ∧ Hid (Below w.heap.size w wr))
      (fun _ i _ => m - (intOf i).toNat)
    case atStart => exact ⟨0, 0, [], r, Nat.zero_le _, Nat.zero_le _, rfl, rfl, Lib.hid ⟨HM.out, rfl⟩, HB, HR, HE⟩
    case round =>
      obtain ⟨k, p', done, r', hk, hps, rfl, rfl, hI, hB, hR, hE⟩ := hrel
      obtain ⟨i1, i2⟩ := hI.out
      have hlt : w.heap.size < wr.heap.size := (Bld.Bd.lt hB.out).1
      obtain ⟨y, hy⟩ : ∃ y, s.extract p' s.size = y := ⟨_, rfl⟩
      have hyl : y.data.toList = s.data.toList.drop p' := by rw [← hy]; exact strings_ReplaceAll.cut s p'
      have hrlen := HRL.out
      rw [i2, List.length_append, HSL.out] at hrlen
      have hS := HS.out
      have hN := HN.out
      have hNL := HNL.out
      by_cases hkm : k < m
      · obtain ⟨j, hj1, hj2, hj3, hj4⟩ := strings_ReplaceAll.rep_at c nw.data.toList (s.data.toList.drop p') (by omega)
        rw [List.length_drop, HSL.out] at hj2
        have hidx : ∀ W : World, Calls Tryd.prog 50 #[.string y, .string ⟨#[c]⟩] W fun e w' => e = .returned (.int .i64 (j : Int)) ∧ w' = W := fun W => by
          have := Tryd.strings_Index_one y c W
          rw [hyl, hj1] at this
          exact this
        obtain ⟨q, hq⟩ : ∃ q : Nat, p' + j = q := ⟨_, rfl⟩
        obtain ⟨u, hu⟩ : ∃ u : Nat, q + 1 = u := ⟨_, rfl⟩
        have hw1 : (p' : Int) + (j : Int) = (q : Int) := by omega
        have hw2 : (q : Int) + 1 = (u : Int) := by omega
        obtain ⟨z, hz'⟩ : ∃ z, s.extract p' q = z := ⟨_, rfl⟩
        have hzl : z.data.toList = (s.data.toList.drop p').take j := by rw [← hz', ← hq]; exact strings_ReplaceAll.mid s p' j
        have hzs : z.size = j := by
          have : z.data.toList.length = z.size := by simp
          rw [← this, hzl, List.length_take, List.length_drop, HSL.out]; omega
        rw [hj3, List.length_append, List.length_append] at hrlen
        have hl1 : done.length + z.size ≤ 140737488355328 := by omega
        have hl2 : (done ++ z.data.toList).length + nw.size ≤ 140737488355328 := by
          rw [List.length_append]
          have : z.data.toList.length = z.size := by simp
          omega
        have hdd : s.data.toList.drop u = (s.data.toList.drop p').drop (j + 1) := by rw [List.drop_drop, ← hu, ← hq, Nat.add_assoc]
        have hI2 : (s.data.toList.drop u).count c + (k + 1) = m ∧ strings_ReplaceAll.rep c nw.data.toList s.data.toList = (done ++ z.data.toList ++ nw.data.toList) ++ strings_ReplaceAll.rep c nw.data.toList (s.data.toList.drop u) := by
          rw [hdd]
          refine ⟨by omega, ?_⟩
          rw [i2, hj3, hzl]
          simp only [List.append_assoc]
        have HI2 := Lib.hid hI2; have HL1 := Lib.hid hl1; have HL2 := Lib.hid hl2
        have hb1 : p' ≤ q := by omega
        have hb2 : q ≤ s.size := by omega
        have hb3 : u ≤ s.size := by omega
        clear hj1 hj3 hj4 hyl hzl hzs hl1 hl2 hdd hI2 i1 i2 hrlen hS hN hNL hq hu hj2
        go_wp2_with (first | (go_at_call 50; refine (hidx _).mono ?_; rintro e w1 ⟨rfl, hw1'⟩; obtain rfl : wr = w1 := hw1'.symm; clear hw1') | (go_at_call 27; refine (Bld.writeString _ _ _ _ z hB.out HL1.out).mono ?_))
        (first | rintro e w1 rfl hwr | rintro e w1 ⟨rfl, hwr⟩)
        obtain ⟨r2, hbd1, hr1, hf1⟩ := hwr
        obtain ⟨hg1, hbe1⟩ := Bld.carry (Nat.le_refl _) hR.out (Nat.le_of_lt hlt) hr1 hf1
        have hlt1 : w.heap.size < w1.heap.size := (Bld.Bd.lt hbd1).1
        have HB1 := Lib.hid hbd1; have HG1 := Lib.hid hg1; have HE1 := Lib.hid (hE.out.trans hbe1)
        clear hbd1 hr1 hf1 hbe1 hg1
        go_wp2_with (go_at_call 27; refine (Bld.writeString _ _ _ _ nw HB1.out HL2.out).mono ?_)
        (first | rintro e w2 rfl hwr | rintro e w2 ⟨rfl, hwr⟩)
        obtain ⟨r3, hbd2, hr2, hf2⟩ := hwr
        obtain ⟨hg2, hbe2⟩ := Bld.carry (Nat.le_refl _) HG1.out (Nat.le_of_lt hlt1) hr2 hf2
        have HB2 := Lib.hid hbd2; have HG2 := Lib.hid hg2; have HE2 := Lib.hid (HE1.out.trans hbe2)
        clear hbd2 hr2 hf2 hbe2 hg2
        go_wp2
        go_roundw
        case rel => exact ⟨k + 1, u, _, _, by omega, hb3, rfl, by go_num, HI2, HB2, HG2, HE2⟩
        case measure => simp [intOf]; omega
      · obtain rfl : k = m := by omega
        have h0' : (s.data.toList.drop p').count c = 0 := by omega
        rw [strings_ReplaceAll.rep_none c _ _ h0'] at i2 hrlen
        have hl1 : done.length + y.size ≤ 140737488355328 := by
          have : y.data.toList.length = y.size := by simp
          rw [hyl] at this
          omega
        have hres : strings_ReplaceAll.rep c nw.data.toList s.data.toList = done ++ y.data.toList := by rw [i2, hyl]
        have HL1 := Lib.hid hl1; have HRES := Lib.hid hres
        clear hl1 hres i1 i2 hrlen hyl h0' hS hN hNL
        go_wp2_with (go_at_call 27; refine (Bld.writeString _ _ _ _ y hB.out HL1.out).mono ?_)
        (first | rintro e w1 rfl hwr | rintro e w1 ⟨rfl, hwr⟩)
        obtain ⟨r2, hbd1, hr1, hf1⟩ := hwr
        obtain ⟨hg1, hbe1⟩ := Bld.carry (Nat.le_refl _) hR.out (Nat.le_of_lt hlt) hr1 hf1
        have hlt1 : w.heap.size < w1.heap.size := (Bld.Bd.lt hbd1).1
        have HB1 := Lib.hid hbd1; have HG1 := Lib.hid hg1; have HE1 := Lib.hid (hE.out.trans hbe1)
        clear hbd1 hr1 hf1 hbe1 hg1
        go_wp2_with (go_at_call 28; refine (Bld.string_ _ _ _ _ HB1.out).mono ?_)
        (first | rintro e w2 rfl hf2 | rintro e w2 ⟨rfl, hf2⟩)
        have hb2 := hf2.below (Nat.le_of_lt hlt1) (fun g hg => HG1.out g hg.symm)
        have HE2 := Lib.hid (HE1.out.trans hb2)
        clear hf2 hb2
        go_wp2
        go_ret
        exact ⟨by rw [HRES.out]; rfl, HE2.out⟩
theorem strings_ReplaceAll.calls (a0 a1 a2 : ByteArray) (r : ByteArray) (w : World) (h : strings_ReplaceAll.f a0 a1 a2 = some r) :
    Calls Tryd.prog 18 #[.string a0, .string a1, .string a2] w fun e w' => e = .returned (.string r) ∧ Below w.heap.size w w' := by
  unfold strings_ReplaceAll.f at h
  split at h
  · rename_i hg
    obtain rfl := Option.some.inj h
    clear h
    obtain ⟨c, rfl⟩ : ∃ c : UInt8, a1 = ⟨#[c]⟩ := by
      obtain ⟨⟨l⟩⟩ := a1
      match l, hg.1 with
      | [c], _ => exact ⟨c, rfl⟩
    by_cases hne : (⟨#[c]⟩ : ByteArray) = a2
    · subst hne
      rw [show (⟨#[c]⟩ : ByteArray).data.toList = [c] from rfl, show [c].getD 0 0 = c from rfl, strings_ReplaceAll.rep_same]
      have HN := fun W => Tryd.strings_Replace_none a0 ⟨#[c]⟩ ⟨#[c]⟩ (-1) W (.inl rfl)
      clear hg
      go_enter Tryd.func18, Tryd.ntmps18
      go_wp2_with (go_at_call 34; refine (HN _).mono ?_; rintro e w1 ⟨rfl, hw1⟩; obtain rfl : w = w1 := hw1.symm; clear hw1)
      go_ret
      exact ⟨rfl, Below.refl _ _⟩
    · go_enter Tryd.func18, Tryd.ntmps18
      go_wp2_with (go_at_call 34; refine (strings_ReplaceAll.repl a0 a2 c _ hg.2.1 hg.2.2 hne).mono ?_; rintro e w1 ⟨rfl, hB⟩)
      go_ret
      exact ⟨rfl, hB⟩
  · cases h

/-! ### slices_IndexFunc_byte_byte_ancepsref01_Letter: function 100001 -/
def slices_IndexFunc_byte_byte_ancepsref01_Letter.l0 : Nat → List Int → Int → Int → Option (Int)
  | 0, _, _, _ => none
  | k + 1, x0, x7, x8 => if x8 < x7 then (if 0 ≤ x8 then (if x8 < (x0.length : Int) then ((ancepsref01_Letter.f k (rd x0 x8)).bind fun t226 => (if t226 = true then (some x8) else (slices_IndexFunc_byte_byte_ancepsref01_Letter.l0 k x0 x7 (wrap64 (x8 + 1))))) else (none)) else (none)) else (some (-1))
def slices_IndexFunc_byte_byte_ancepsref01_Letter.f (k : Nat) (l0 : List Int)  : Option (Int) := slices_IndexFunc_byte_byte_ancepsref01_Letter.l0 k l0 (l0.length : Int) 0
theorem slices_IndexFunc_byte_byte_ancepsref01_Letter.mono_l : ∀ k, (∀ y0 y1 y2, LeO (slices_IndexFunc_byte_byte_ancepsref01_Letter.l0 k y0 y1 y2) (slices_IndexFunc_byte_byte_ancepsref01_Letter.l0 (k + 1) y0 y1 y2))
  | 0 => fun _ _ _ r h => by simp [slices_IndexFunc_byte_byte_ancepsref01_Letter.l0] at h
  | k + 1 => by
    have ih0 := slices_IndexFunc_byte_byte_ancepsref01_Letter.mono_l k
    · intro y0 y1 y2
      unfold slices_IndexFunc_byte_byte_ancepsref01_Letter.l0
      repeat' first
      | (with_reducible exact ih0 _ _ _)
      | (with_reducible exact ancepsref01_Letter.mono _ _)
      | (with_reducible exact LeO.refl _)
      | (with_reducible exact LeO.none _)
      | (with_reducible refine LeO.ite ?_ ?_)
      | (with_reducible refine LeO.bind ?_ (fun _ => ?_))
      | exact ih0 _ _ _
      | exact ancepsref01_Letter.mono _ _
      | exact LeO.none _
      | refine LeO.ite ?_ ?_
      | refine LeO.bind ?_ (fun _ => ?_)
theorem slices_IndexFunc_byte_byte_ancepsref01_Letter.mono : ∀ a0 k, LeO (slices_IndexFunc_byte_byte_ancepsref01_Letter.f k a0) (slices_IndexFunc_byte_byte_ancepsref01_Letter.f (k + 1) a0) := by
  intro a0 k
  have ih0 := slices_IndexFunc_byte_byte_ancepsref01_Letter.mono_l k
  unfold slices_IndexFunc_byte_byte_ancepsref01_Letter.f
  repeat' first
      | (with_reducible exact ih0 _ _ _)
      | (with_reducible exact ancepsref01_Letter.mono _ _)
      | (with_reducible exact LeO.refl _)
      | (with_reducible exact LeO.none _)
      | (with_reducible refine LeO.ite ?_ ?_)
      | (with_reducible refine LeO.bind ?_ (fun _ => ?_))
      | exact ih0 _ _ _
      | exact ancepsref01_Letter.mono _ _
      | exact LeO.none _
      | refine LeO.ite ?_ ?_
      | refine LeO.bind ?_ (fun _ => ?_)
set_option maxHeartbeats 8000000 in
set_option maxRecDepth 100000 in
theorem slices_IndexFunc_byte_byte_ancepsref01_Letter.calls (k : Nat) (A0 : Option Addr) (c0 : Nat) (l0 : List Int)  (r : Int) (w : World) (hr0 : Kd.C (Kd.int .u8) w A0 l0.length l0) (hc0 : l0.length ≤ c0) (h : slices_IndexFunc_byte_byte_ancepsref01_Letter.f k l0 = some r) :
    Calls Tryd.prog 29 #[.slice A0 l0.length c0, .func (.func 16) #[] #[]] w fun e w' => e = .returned (.int .i64 r) ∧ Drawn0 w w' := by
  have HR0 := Aside0.mk hr0
  have HC0 := Aside0.mk hc0
  clear hr0 hc0
  have H : (slices_IndexFunc_byte_byte_ancepsref01_Letter.l0 k l0 (l0.length : Int) 0) = some r := h
  clear h
  have H' := Aside0.mk H
  clear H
  go_enter Tryd.func29, Tryd.ntmps29
  go_wp2
  go_loopg [8] k (fun kq v8 w' => ∃ (x8_1 : Int), v8 = .int .i64 x8_1 ∧ Aside0 (slices_IndexFunc_byte_byte_ancepsref01_Letter.l0 kq l0 (l0.length : Int) x8_1 = some r) ∧ Aside0 (kq ≤ k) ∧ Drawn0 w w')
  case atStart => exact ⟨(0), (by first | rfl | (simp; done) | (simp [*]; done)), H', ⟨Nat.le_refl _⟩, by repeat (first | exact Drawn0.refl _ | apply Drawn0.step)⟩
  case round =>
    clear H'
    try clear c2
    try clear p2
    obtain ⟨x8_1, rfl, HA, HK1, ⟨m1, rfl⟩⟩ := hrel
    cases gk with
    | zero => exact absurd HA.out (by simp [slices_IndexFunc_byte_byte_ancepsref01_Letter.l0])
    | succ k1 =>
      have H := HA.out
      clear HA
      simp only [slices_IndexFunc_byte_byte_ancepsref01_Letter.l0] at H
      by_cases c3 : x8_1 < (l0.length : Int)
      · rw [if_pos c3] at H
        have c3b0 : decide (x8_1 < (l0.length : Int)) = true := decide_eq_true c3
        clear c3
        by_cases c4 : 0 ≤ x8_1
        · rw [if_pos c4] at H
          have c4b0 : decide (0 ≤ x8_1) = true := decide_eq_true c4
          clear c4
          by_cases c5 : x8_1 < (l0.length : Int)
          · rw [if_pos c5] at H
            have c5b0 : decide (x8_1 < (l0.length : Int)) = true := decide_eq_true c5
            clear c5
            replace H := Option.bind_eq_some_iff.mp H
            obtain ⟨t226, A60, H⟩ := H
            replace H : (if t226 = true then (some x8_1) else (slices_IndexFunc_byte_byte_ancepsref01_Letter.l0 k1 l0 (l0.length : Int) (wrap64 (x8_1 + 1)))) = some r := H
            have A6 := Aside0.mk A60
            clear A60
            by_cases c7 : t226 = true
            · subst c7
              have H1 : (some x8_1) = some r := by rw [if_pos rfl] at H; exact H
              clear H
              have H := H1
              clear H1
              obtain rfl := Option.some.inj H
              have p225 : 0 ≤ (x8_1 : Int) := of_decide_eq_true (by first | (with_reducible assumption) | assumption)
              have q225 : x8_1 < (l0.length : Int) := of_decide_eq_true (by first | (with_reducible assumption) | assumption)
              obtain ⟨ad225, e225, hx225_0⟩ := Kd.at_int HR0.out x8_1 p225 q225
              cases e225
              replace p225 := eq_true p225
              replace q225 := eq_true q225
              go_wp2_with (first | ((with_reducible refine gate_calltmp (t := 11) rfl ?_); refine goesV_ (some 16) rfl rfl Tryd.func16 (by kernel_rfl) rfl #[.int .u8 (rd l0 x8_1)] (.tmp 11) rfl rfl (by (try simp only [List.map_toArray, List.map_cons, List.map_nil]); first | done | rfl | (simp only [List.length_drop, List.length_take]; rfl)) ?_; (with_reducible refine (ancepsref01_Letter.calls k1 (rd l0 x8_1) true _ A6.out).mono ?_); rintro e w' ⟨rfl, ⟨nd, rfl⟩⟩; refine ⟨_, rfl, ?_⟩))
              go_ret
              exact ⟨by first | rfl | (simp; done) | (simp [*]; done), by repeat (first | exact Drawn0.refl _ | apply Drawn0.step)⟩
            · replace c7 := Bool.eq_false_iff.mpr c7
              subst c7
              have H1 : (slices_IndexFunc_byte_byte_ancepsref01_Letter.l0 k1 l0 (l0.length : Int) (wrap64 (x8_1 + 1))) = some r := by rw [if_neg (show ¬ (false = true) by decide)] at H; exact H
              clear H
              have H := H1
              clear H1
              have H' := Aside0.mk H
              clear H
              have p225 : 0 ≤ (x8_1 : Int) := of_decide_eq_true (by first | (with_reducible assumption) | assumption)
              have q225 : x8_1 < (l0.length : Int) := of_decide_eq_true (by first | (with_reducible assumption) | assumption)
              obtain ⟨ad225, e225, hx225_0⟩ := Kd.at_int HR0.out x8_1 p225 q225
              cases e225
              replace p225 := eq_true p225
              replace q225 := eq_true q225
              go_wp2_with (first | ((with_reducible refine gate_calltmp (t := 11) rfl ?_); refine goesV_ (some 16) rfl rfl Tryd.func16 (by kernel_rfl) rfl #[.int .u8 (rd l0 x8_1)] (.tmp 11) rfl rfl (by (try simp only [List.map_toArray, List.map_cons, List.map_nil]); first | done | rfl | (simp only [List.length_drop, List.length_take]; rfl)) ?_; (with_reducible refine (ancepsref01_Letter.calls k1 (rd l0 x8_1) false _ A6.out).mono ?_); rintro e w' ⟨rfl, ⟨nd, rfl⟩⟩; refine ⟨_, rfl, ?_⟩))
              go_roundg k1
              case measure => have := HK1.out; omega
              case rel => exact ⟨(wrap64 (x8_1 + 1)), (by first | rfl | (simp; done) | (simp [*]; done)), H', ⟨by have := HK1.out; omega⟩, by repeat (first | exact Drawn0.refl _ | apply Drawn0.step)⟩
          · rw [if_neg c5] at H
            exact absurd H (by simp)
        · rw [if_neg c4] at H
          exact absurd H (by simp)
      · rw [if_neg c3] at H
        have c3b0 : decide (x8_1 < (l0.length : Int)) = false := decide_eq_false c3
        clear c3
        obtain rfl := Option.some.inj H
        go_wp2
        go_ret
        exact ⟨by first | rfl | (simp; done) | (simp [*]; done), by repeat (first | exact Drawn0.refl _ | apply Drawn0.step)⟩

/-! ### slices_ContainsFunc_byte_byte_ancepsref01_Letter: function 100000 -/
def slices_ContainsFunc_byte_byte_ancepsref01_Letter.f (k : Nat) (l0 : List Int)  : Option (Bool) := (slices_IndexFunc_byte_byte_ancepsref01_Letter.f k l0).bind fun t227 => (some (decide (t227 ≥ 0)))
theorem slices_ContainsFunc_byte_byte_ancepsref01_Letter.mono : ∀ a0 k, LeO (slices_ContainsFunc_byte_byte_ancepsref01_Letter.f k a0) (slices_ContainsFunc_byte_byte_ancepsref01_Letter.f (k + 1) a0) := by
  intro a0 k
  unfold slices_ContainsFunc_byte_byte_ancepsref01_Letter.f
  repeat' first
      | (with_reducible exact slices_IndexFunc_byte_byte_ancepsref01_Letter.mono _ _)
      | (with_reducible exact LeO.refl _)
      | (with_reducible exact LeO.none _)
      | (with_reducible refine LeO.ite ?_ ?_)
      | (with_reducible refine LeO.bind ?_ (fun _ => ?_))
      | exact slices_IndexFunc_byte_byte_ancepsref01_Letter.mono _ _
      | exact LeO.none _
      | refine LeO.ite ?_ ?_
      | refine LeO.bind ?_ (fun _ => ?_)
set_option maxHeartbeats 8000000 in
set_option maxRecDepth 100000 in
theorem slices_ContainsFunc_byte_byte_ancepsref01_Letter.calls (k : Nat) (A0 : Option Addr) (c0 : Nat) (l0 : List Int)  (r : Bool) (w : World) (hr0 : Kd.C (Kd.int .u8) w A0 l0.length l0) (hc0 : l0.length ≤ c0) (h : slices_ContainsFunc_byte_byte_ancepsref01_Letter.f k l0 = some r) :
    Calls Tryd.prog 15 #[.slice A0 l0.length c0, .func (.func 16) #[] #[]] w fun e w' => e = .returned (.bool r) ∧ Drawn0 w w' := by
  have HR0 := Aside0.mk hr0
  have HC0 := Aside0.mk hc0
  clear hr0 hc0
  have H : ((slices_IndexFunc_byte_byte_ancepsref01_Letter.f k l0).bind fun t227 => (some (decide (t227 ≥ 0)))) = some r := h
  clear h
  replace H := Option.bind_eq_some_iff.mp H
  obtain ⟨t227, A30, H⟩ := H
  replace H : (some (decide (t227 ≥ 0))) = some r := H
  have A3 := Aside0.mk A30
  clear A30
  obtain rfl := Option.some.inj H
  go_enter Tryd.func15, Tryd.ntmps15
  go_wp2_with (first | ((with_reducible refine gate_callee (f := 29) rfl ?_); refine goesL_ (some 7) rfl rfl Tryd.func29 (by kernel_rfl) rfl #[.slice A0 l0.length c0, .func (.func 16) #[] #[]] rfl (by (try simp only [List.map_toArray, List.map_cons, List.map_nil]); first | done | rfl | (simp only [List.length_drop, List.length_take]; rfl)) ?_; (with_reducible refine (slices_IndexFunc_byte_byte_ancepsref01_Letter.calls k _ _ l0  t227 _ ?side1 ?side2 A3.out).mono ?_); (case side1 => repeat (first | exact HR0.out | (with_reducible refine Kd.C_alloc ?_ _) | (with_reducible refine Kd.C_drewN ?_ _) | (with_reducible refine Kd.C_drew ?_))); (case side2 => exact HC0.out); rintro e w' ⟨rfl, ⟨nd, rfl⟩⟩; refine ⟨_, rfl, ?_⟩))
  go_ret
  exact ⟨by first | rfl | (simp; done) | (simp [*]; done), by repeat (first | exact Drawn0.refl _ | apply Drawn0.step)⟩

/-! ### ancepslaw01_TextSpaced: function 5 -/
def ancepslaw01_TextSpaced.j0 : Nat → ByteArray → ByteArray → Bool → Option (Bool)
  | 0, _, _, _ => none
  | k + 1, x0, x1, x27 => if x27 = true then ((ancepslaw01_awake.f k).bind fun t231 => (some t231)) else (if x1.size ≤ 140737488355328 then ((slices_ContainsFunc_byte_byte_ancepsref01_Letter.f k (bytesOf x1)).bind fun t235 => (if t235 = true then (some true) else (if 1 + x1.size ≤ 9223372036854775807 then ((strings_ReplaceAll.f x0 (⟨#[32]⟩ : ByteArray) ((⟨#[32]⟩ : ByteArray) ++ x1)).bind fun t236 => ((strings_ToUpper.f t236).bind fun t237 => (if x1.size + t237.size ≤ 9223372036854775807 then (if (x1 ++ t237).size + x1.size ≤ 9223372036854775807 then (if (((x1 ++ t237) ++ x1).size : Int) > 120 then (some true) else ((text_Same.f k x0 ((x1 ++ t237) ++ x1)).bind fun t238 => (some t238))) else (none)) else (none)))) else (none)))) else (none))
def ancepslaw01_TextSpaced.f (k : Nat) (a0 : ByteArray) (a1 : ByteArray) : Option (Bool) := (ancepslaw01_awake.f k).bind fun t228 => (if t228 = true then (if (a0.size : Int) > 40 then (ancepslaw01_TextSpaced.j0 k a0 a1 true) else (if (a1.size : Int) > 40 then (ancepslaw01_TextSpaced.j0 k a0 a1 true) else ((ancepsref01_Valid.f k a0).bind fun t229 => (if t229 = 0 then ((ancepsref01_Valid.f k a1).bind fun t230 => (ancepslaw01_TextSpaced.j0 k a0 a1 (t230 != 0))) else (ancepslaw01_TextSpaced.j0 k a0 a1 true))))) else (ancepslaw01_TextSpaced.j0 k a0 a1 true))
theorem ancepslaw01_TextSpaced.mono_l : ∀ k, (∀ y0 y1 y2, LeO (ancepslaw01_TextSpaced.j0 k y0 y1 y2) (ancepslaw01_TextSpaced.j0 (k + 1) y0 y1 y2))
  | 0 => fun _ _ _ r h => by simp [ancepslaw01_TextSpaced.j0] at h
  | k + 1 => by
    have ih0 := ancepslaw01_TextSpaced.mono_l k
    · intro y0 y1 y2
      unfold ancepslaw01_TextSpaced.j0
      repeat' first
      | (with_reducible exact ih0 _ _ _)
      | (with_reducible exact ancepslaw01_awake.mono _)
      | (with_reducible exact ancepsref01_Valid.mono _ _)
      | (with_reducible exact slices_ContainsFunc_byte_byte_ancepsref01_Letter.mono _ _)
      | (with_reducible exact text_Same.mono _ _ _)
      | (with_reducible exact LeO.refl _)
      | (with_reducible exact LeO.none _)
      | (with_reducible refine LeO.ite ?_ ?_)
      | (with_reducible refine LeO.bind ?_ (fun _ => ?_))
      | exact ih0 _ _ _
      | exact ancepslaw01_awake.mono _
      | exact ancepsref01_Valid.mono _ _
      | exact slices_ContainsFunc_byte_byte_ancepsref01_Letter.mono _ _
      | exact text_Same.mono _ _ _
      | exact LeO.none _
      | refine LeO.ite ?_ ?_
      | refine LeO.bind ?_ (fun _ => ?_)
theorem ancepslaw01_TextSpaced.mono : ∀ a0 a1 k, LeO (ancepslaw01_TextSpaced.f k a0 a1) (ancepslaw01_TextSpaced.f (k + 1) a0 a1) := by
  intro a0 a1 k
  have ih0 := ancepslaw01_TextSpaced.mono_l k
  unfold ancepslaw01_TextSpaced.f
  repeat' first
      | (with_reducible exact ih0 _ _ _)
      | (with_reducible exact ancepslaw01_awake.mono _)
      | (with_reducible exact ancepsref01_Valid.mono _ _)
      | (with_reducible exact slices_ContainsFunc_byte_byte_ancepsref01_Letter.mono _ _)
      | (with_reducible exact text_Same.mono _ _ _)
      | (with_reducible exact LeO.refl _)
      | (with_reducible exact LeO.none _)
      | (with_reducible refine LeO.ite ?_ ?_)
      | (with_reducible refine LeO.bind ?_ (fun _ => ?_))
      | exact ih0 _ _ _
      | exact ancepslaw01_awake.mono _
      | exact ancepsref01_Valid.mono _ _
      | exact slices_ContainsFunc_byte_byte_ancepsref01_Letter.mono _ _
      | exact text_Same.mono _ _ _
      | exact LeO.none _
      | refine LeO.ite ?_ ?_
      | refine LeO.bind ?_ (fun _ => ?_)
set_option maxHeartbeats 8000000 in
set_option maxRecDepth 100000 in
theorem ancepslaw01_TextSpaced.calls (k : Nat) (a0 : ByteArray) (a1 : ByteArray) (r : Bool) (w : World) (h : ancepslaw01_TextSpaced.f k a0 a1 = some r) :
    Calls Tryd.prog 5 #[.string a0, .string a1] w fun e w' => e = .returned (.bool r) ∧ Below w.heap.size w w' := by
  have HB := Aside0.mk (Below.refl w.heap.size w)
  have H : ((ancepslaw01_awake.f k).bind fun t228 => (if t228 = true then (if (a0.size : Int) > 40 then (ancepslaw01_TextSpaced.j0 k a0 a1 true) else (if (a1.size : Int) > 40 then (ancepslaw01_TextSpaced.j0 k a0 a1 true) else ((ancepsref01_Valid.f k a0).bind fun t229 => (if t229 = 0 then ((ancepsref01_Valid.f k a1).bind fun t230 => (ancepslaw01_TextSpaced.j0 k a0 a1 (t230 != 0))) else (ancepslaw01_TextSpaced.j0 k a0 a1 true))))) else (ancepslaw01_TextSpaced.j0 k a0 a1 true))) = some r := h
  clear h
  have HC3 := Aside0.mk H
  clear H
  go_enter Tryd.func5, Tryd.ntmps5
  go_upto_region 1 with (fail)
  go_cut [27] (fun v27 wc => ∃ (kq : Nat) (x27_2 : Bool), v27 = .bool x27_2 ∧ Aside0 (ancepslaw01_TextSpaced.j0 kq a0 a1 x27_2 = some r) ∧ Aside0 (kq ≤ k) ∧ Aside0 (Below w.heap.size w wc))
  case first =>
    have H := HC3.out
    clear HC3
    replace H := Option.bind_eq_some_iff.mp H
    obtain ⟨t228, A40, H⟩ := H
    replace H : (if t228 = true then (if (a0.size : Int) > 40 then (ancepslaw01_TextSpaced.j0 k a0 a1 true) else (if (a1.size : Int) > 40 then (ancepslaw01_TextSpaced.j0 k a0 a1 true) else ((ancepsref01_Valid.f k a0).bind fun t229 => (if t229 = 0 then ((ancepsref01_Valid.f k a1).bind fun t230 => (ancepslaw01_TextSpaced.j0 k a0 a1 (t230 != 0))) else (ancepslaw01_TextSpaced.j0 k a0 a1 true))))) else (ancepslaw01_TextSpaced.j0 k a0 a1 true)) = some r := H
    have A4 := Aside0.mk A40
    clear A40
    by_cases c5 : t228 = true
    · subst c5
      have H1 : (if (a0.size : Int) > 40 then (ancepslaw01_TextSpaced.j0 k a0 a1 true) else (if (a1.size : Int) > 40 then (ancepslaw01_TextSpaced.j0 k a0 a1 true) else ((ancepsref01_Valid.f k a0).bind fun t229 => (if t229 = 0 then ((ancepsref01_Valid.f k a1).bind fun t230 => (ancepslaw01_TextSpaced.j0 k a0 a1 (t230 != 0))) else (ancepslaw01_TextSpaced.j0 k a0 a1 true))))) = some r := by rw [if_pos rfl] at H; exact H
      clear H
      have H := H1
      clear H1
      by_cases c6 : (a0.size : Int) > 40
      · rw [if_pos c6] at H
        have c6b0 : decide (40 < (a0.size : Int)) = true := decide_eq_true c6
        have c6b1 : decide (40 < a0.size) = true := decide_eq_true (by omega)
        clear c6
        (first | rw [c6b0] | (simp only [i64_w, i32_w]; rw [c6b0]) | skip)
        have H' := Aside0.mk H
        clear H
        go_wp2_with (first | ((with_reducible refine gate_callee (f := 6) rfl ?_); refine goesL_ (some 6) rfl rfl Tryd.func6 (by kernel_rfl) rfl #[] rfl (by (try simp only [List.map_toArray, List.map_cons, List.map_nil]); first | done | rfl | (simp only [List.length_drop, List.length_take]; rfl)) ?_; (with_reducible refine (ancepslaw01_awake.calls k  true _ A4.out).mono ?_); rintro e w7 ⟨rfl, hb⟩; refine ⟨_, rfl, ?_⟩; have n0_ := Aside0.mk (below_step (by repeat (first | (with_reducible first | exact HB.out | apply below_alloc | apply pw_below_drewN | apply below_drew1) | exact HB.out)) hb); clear HB; have HB := n0_; clear n0_; (try clear hb); (try clear hb2); (try clear hk); (try clear hi)))
        go_meet
        case rel => exact ⟨_, (true), (by first | rfl | (simp; done) | (simp [*]; done)), H', ⟨by first | omega | exact Nat.le_refl _⟩, ⟨by repeat (first | (with_reducible first | exact HB.out | apply below_alloc | apply pw_below_drewN | apply below_drew1) | exact HB.out)⟩⟩
      · rw [if_neg c6] at H
        have c6b0 : decide (40 < (a0.size : Int)) = false := decide_eq_false c6
        have c6b1 : decide (40 < a0.size) = false := decide_eq_false (by omega)
        clear c6
        (first | rw [c6b0] | (simp only [i64_w, i32_w]; rw [c6b0]) | skip)
        by_cases c8 : (a1.size : Int) > 40
        · rw [if_pos c8] at H
          have c8b0 : decide (40 < (a1.size : Int)) = true := decide_eq_true c8
          have c8b1 : decide (40 < a1.size) = true := decide_eq_true (by omega)
          clear c8
          have H' := Aside0.mk H
          clear H
          go_wp2_with (first | ((with_reducible refine gate_callee (f := 6) rfl ?_); refine goesL_ (some 6) rfl rfl Tryd.func6 (by kernel_rfl) rfl #[] rfl (by (try simp only [List.map_toArray, List.map_cons, List.map_nil]); first | done | rfl | (simp only [List.length_drop, List.length_take]; rfl)) ?_; (with_reducible refine (ancepslaw01_awake.calls k  true _ A4.out).mono ?_); rintro e w9 ⟨rfl, hb⟩; refine ⟨_, rfl, ?_⟩; have n0_ := Aside0.mk (below_step (by repeat (first | (with_reducible first | exact HB.out | apply below_alloc | apply pw_below_drewN | apply below_drew1) | exact HB.out)) hb); clear HB; have HB := n0_; clear n0_; (try clear hb); (try clear hb2); (try clear hk); (try clear hi)))
          go_meet
          case rel => exact ⟨_, (true), (by first | rfl | (simp; done) | (simp [*]; done)), H', ⟨by first | omega | exact Nat.le_refl _⟩, ⟨by repeat (first | (with_reducible first | exact HB.out | apply below_alloc | apply pw_below_drewN | apply below_drew1) | exact HB.out)⟩⟩
        · rw [if_neg c8] at H
          have c8b0 : decide (40 < (a1.size : Int)) = false := decide_eq_false c8
          have c8b1 : decide (40 < a1.size) = false := decide_eq_false (by omega)
          clear c8
          replace H := Option.bind_eq_some_iff.mp H
          obtain ⟨t229, A100, H⟩ := H
          replace H : (if t229 = 0 then ((ancepsref01_Valid.f k a1).bind fun t230 => (ancepslaw01_TextSpaced.j0 k a0 a1 (t230 != 0))) else (ancepslaw01_TextSpaced.j0 k a0 a1 true)) = some r := H
          have A10 := Aside0.mk A100
          clear A100
          by_cases c11 : t229 = 0
          · rw [if_pos c11] at H
            have c11b0 : (t229 == 0) = true := beq_iff_eq.mpr c11
            have c11b1 : (t229 != 0) = false := bne_eq_false_iff_eq.mpr c11
            clear c11
            replace H := Option.bind_eq_some_iff.mp H
            obtain ⟨t230, A120, H⟩ := H
            replace H : (ancepslaw01_TextSpaced.j0 k a0 a1 (t230 != 0)) = some r := H
            have A12 := Aside0.mk A120
            clear A120
            have H' := Aside0.mk H
            clear H
            go_wp2_with (first | ((with_reducible refine gate_callee (f := 6) rfl ?_); refine goesL_ (some 6) rfl rfl Tryd.func6 (by kernel_rfl) rfl #[] rfl (by (try simp only [List.map_toArray, List.map_cons, List.map_nil]); first | done | rfl | (simp only [List.length_drop, List.length_take]; rfl)) ?_; (with_reducible refine (ancepslaw01_awake.calls k  true _ A4.out).mono ?_); rintro e w13 ⟨rfl, hb⟩; refine ⟨_, rfl, ?_⟩; have n0_ := Aside0.mk (below_step (by repeat (first | (with_reducible first | exact HB.out | apply below_alloc | apply pw_below_drewN | apply below_drew1) | exact HB.out)) hb); clear HB; have HB := n0_; clear n0_; (try clear hb); (try clear hb2); (try clear hk); (try clear hi)) | (go_at_call 14; (with_reducible refine (ancepsref01_Valid.calls k a0 t229 _ A10.out).mono ?_); (try clear A10); rintro e w' ⟨rfl, ⟨nd, rfl⟩⟩) | (go_at_call 14; (with_reducible refine (ancepsref01_Valid.calls k a1 t230 _ A12.out).mono ?_); (try clear A12); rintro e w' ⟨rfl, ⟨nd, rfl⟩⟩))
            go_meet
            case rel => exact ⟨_, ((t230 != 0)), (by first | rfl | (simp; done) | (simp [*]; done)), H', ⟨by first | omega | exact Nat.le_refl _⟩, ⟨by repeat (first | (with_reducible first | exact HB.out | apply below_alloc | apply pw_below_drewN | apply below_drew1) | exact HB.out)⟩⟩
          · rw [if_neg c11] at H
            have c11b0 : (t229 == 0) = false := beq_eq_false_iff_ne.mpr c11
            have c11b1 : (t229 != 0) = true := bne_iff_ne.mpr c11
            have H' := Aside0.mk H
            clear H
            go_wp2_with (first | ((with_reducible refine gate_callee (f := 6) rfl ?_); refine goesL_ (some 6) rfl rfl Tryd.func6 (by kernel_rfl) rfl #[] rfl (by (try simp only [List.map_toArray, List.map_cons, List.map_nil]); first | done | rfl | (simp only [List.length_drop, List.length_take]; rfl)) ?_; (with_reducible refine (ancepslaw01_awake.calls k  true _ A4.out).mono ?_); rintro e w14 ⟨rfl, hb⟩; refine ⟨_, rfl, ?_⟩; have n0_ := Aside0.mk (below_step (by repeat (first | (with_reducible first | exact HB.out | apply below_alloc | apply pw_below_drewN | apply below_drew1) | exact HB.out)) hb); clear HB; have HB := n0_; clear n0_; (try clear hb); (try clear hb2); (try clear hk); (try clear hi)) | (go_at_call 14; (with_reducible refine (ancepsref01_Valid.calls k a0 t229 _ A10.out).mono ?_); rintro e w' ⟨rfl, ⟨nd, rfl⟩⟩))
            go_meet
            case rel => exact ⟨_, (true), (by first | rfl | (simp; done) | (simp [*]; done)), H', ⟨by first | omega | exact Nat.le_refl _⟩, ⟨by repeat (first | (with_reducible first | exact HB.out | apply below_alloc | apply pw_below_drewN | apply below_drew1) | exact HB.out)⟩⟩
    · replace c5 := Bool.eq_false_iff.mpr c5
      subst c5
      have H1 : (ancepslaw01_TextSpaced.j0 k a0 a1 true) = some r := by rw [if_neg (show ¬ (false = true) by decide)] at H; exact H
      clear H
      have H := H1
      clear H1
      have H' := Aside0.mk H
      clear H
      go_wp2_with (first | ((with_reducible refine gate_callee (f := 6) rfl ?_); refine goesL_ (some 6) rfl rfl Tryd.func6 (by kernel_rfl) rfl #[] rfl (by (try simp only [List.map_toArray, List.map_cons, List.map_nil]); first | done | rfl | (simp only [List.length_drop, List.length_take]; rfl)) ?_; (with_reducible refine (ancepslaw01_awake.calls k  false _ A4.out).mono ?_); rintro e w15 ⟨rfl, hb⟩; refine ⟨_, rfl, ?_⟩; have n0_ := Aside0.mk (below_step (by repeat (first | (with_reducible first | exact HB.out | apply below_alloc | apply pw_below_drewN | apply below_drew1) | exact HB.out)) hb); clear HB; have HB := n0_; clear n0_; (try clear hb); (try clear hb2); (try clear hk); (try clear hi)))
      go_meet
      case rel => exact ⟨_, (true), (by first | rfl | (simp; done) | (simp [*]; done)), H', ⟨by first | omega | exact Nat.le_refl _⟩, ⟨by repeat (first | (with_reducible first | exact HB.out | apply below_alloc | apply pw_below_drewN | apply below_drew1) | exact HB.out)⟩⟩
  case rest =>
    clear HC3
    try clear c1
    try clear p2
    try clear c5
    try clear c6
    try clear c6b0
    try clear c6b1
    try clear c8
    try clear c8b0
    try clear c8b1
    try clear c11
    try clear c11b0
    try clear c11b1
    obtain ⟨kq, x27_2, rfl, HA, HJ2, HB⟩ := hcut
    cases kq with
    | zero => exact absurd HA.out (by simp [ancepslaw01_TextSpaced.j0])
    | succ kj2 =>
      have H := HA.out
      clear HA
      simp only [ancepslaw01_TextSpaced.j0] at H
      by_cases c16 : x27_2 = true
      · subst c16
        have H1 : ((ancepslaw01_awake.f kj2).bind fun t231 => (some t231)) = some r := by rw [if_pos rfl] at H; exact H
        clear H
        have H := H1
        clear H1
        replace H := Option.bind_eq_some_iff.mp H
        obtain ⟨t231, A170, H⟩ := H
        replace H : (some t231) = some r := H
        have A17 := Aside0.mk A170
        clear A170
        obtain rfl := Option.some.inj H
        go_wp2_with (first | ((with_reducible refine gate_callee (f := 6) rfl ?_); refine goesL_ (some 28) rfl rfl Tryd.func6 (by kernel_rfl) rfl #[] rfl (by (try simp only [List.map_toArray, List.map_cons, List.map_nil]); first | done | rfl | (simp only [List.length_drop, List.length_take]; rfl)) ?_; (with_reducible refine (ancepslaw01_awake.calls kj2  t231 _ A17.out).mono ?_); rintro e w18 ⟨rfl, hb⟩; refine ⟨_, rfl, ?_⟩; have n0_ := Aside0.mk (below_step (by repeat (first | (with_reducible first | exact HB.out | apply below_alloc | apply pw_below_drewN | apply below_drew1) | exact HB.out)) hb); clear HB; have HB := n0_; clear n0_; (try clear hb); (try clear hb2); (try clear hk); (try clear hi)))
        go_ret
        exact ⟨by first | rfl | (simp [errW_none, errW_some] <;> rfl) | (simp [*, errW_none, errW_some] <;> rfl), by repeat (first | (with_reducible first | exact HB.out | apply below_alloc | apply pw_below_drewN | apply below_drew1) | exact HB.out)⟩
      · replace c16 := Bool.eq_false_iff.mpr c16
        subst c16
        have H1 : (if a1.size ≤ 140737488355328 then ((slices_ContainsFunc_byte_byte_ancepsref01_Letter.f kj2 (bytesOf a1)).bind fun t235 => (if t235 = true then (some true) else (if 1 + a1.size ≤ 9223372036854775807 then ((strings_ReplaceAll.f a0 (⟨#[32]⟩ : ByteArray) ((⟨#[32]⟩ : ByteArray) ++ a1)).bind fun t236 => ((strings_ToUpper.f t236).bind fun t237 => (if a1.size + t237.size ≤ 9223372036854775807 then (if (a1 ++ t237).size + a1.size ≤ 9223372036854775807 then (if (((a1 ++ t237) ++ a1).size : Int) > 120 then (some true) else ((text_Same.f kj2 a0 ((a1 ++ t237) ++ a1)).bind fun t238 => (some t238))) else (none)) else (none)))) else (none)))) else (none)) = some r := by rw [if_neg (show ¬ (false = true) by decide)] at H; exact H
        clear H
        have H := H1
        clear H1
        by_cases c19 : a1.size ≤ 140737488355328
        · rw [if_pos c19] at H
          have c19b0 := eq_true c19
          have c19b1 : decide (a1.size ≤ 140737488355328) = true := decide_eq_true c19
          clear c19
          obtain ⟨y232, hy232⟩ : ∃ y_ : List Int, y_ = (bytesOf a1) := ⟨_, rfl⟩
          replace H : ((slices_ContainsFunc_byte_byte_ancepsref01_Letter.f kj2 y232).bind fun t235 => (if t235 = true then (some true) else (if 1 + a1.size ≤ 9223372036854775807 then ((strings_ReplaceAll.f a0 (⟨#[32]⟩ : ByteArray) ((⟨#[32]⟩ : ByteArray) ++ a1)).bind fun t236 => ((strings_ToUpper.f t236).bind fun t237 => (if a1.size + t237.size ≤ 9223372036854775807 then (if (a1 ++ t237).size + a1.size ≤ 9223372036854775807 then (if (((a1 ++ t237) ++ a1).size : Int) > 120 then (some true) else ((text_Same.f kj2 a0 ((a1 ++ t237) ++ a1)).bind fun t238 => (some t238))) else (none)) else (none)))) else (none)))) = some r := by first | (rw [hy232]; with_reducible exact H) | (have H2_ := (Option.bind_some _ _).symm.trans H; rw [hy232]; with_reducible exact H2_) | (have H2_ := (Option.bind_some _ _).symm.trans H; with_reducible exact H2_) | with_reducible exact H | (rw [hy232]; exact H) | exact H
          have Ny232 := Aside0.mk hy232
          clear hy232
          replace H := Option.bind_eq_some_iff.mp H
          obtain ⟨t235, A200, H⟩ := H
          replace H : (if t235 = true then (some true) else (if 1 + a1.size ≤ 9223372036854775807 then ((strings_ReplaceAll.f a0 (⟨#[32]⟩ : ByteArray) ((⟨#[32]⟩ : ByteArray) ++ a1)).bind fun t236 => ((strings_ToUpper.f t236).bind fun t237 => (if a1.size + t237.size ≤ 9223372036854775807 then (if (a1 ++ t237).size + a1.size ≤ 9223372036854775807 then (if (((a1 ++ t237) ++ a1).size : Int) > 120 then (some true) else ((text_Same.f kj2 a0 ((a1 ++ t237) ++ a1)).bind fun t238 => (some t238))) else (none)) else (none)))) else (none))) = some r := H
          have A20 := Aside0.mk A200
          clear A200
          by_cases c21 : t235 = true
          · subst c21
            have H1 : (some true) = some r := by rw [if_pos rfl] at H; exact H
            clear H
            have H := H1
            clear H1
            obtain rfl := Option.some.inj H
            go_wp2_with (first | ((with_reducible refine gate_dst (N := 30) rfl ?_); (try (refine gate_guard (by rfl) ?_; dsimp only)); refine Kd.B_conv _ 5 rfl (N := 30) rfl 9 36 _ rfl a1 rfl Tryd.underlying9 Tryd.underlying36 Tryd.underlying5 (ok := fun _ => True) trivial (Nat.le_trans (of_decide_eq_true (by first | (with_reducible assumption) | assumption) : a1.size ≤ 140737488355328) (by decide)) (Below.refl _ _) (Nat.le_refl _) ?_; intro v233 w22 ho23 hb hg_ hnew_; clear hg_ hnew_; (first | rw [← Ny232.out] at ho23 | (simp only [Int.reduceToNat] at ho23; rw [← Ny232.out] at ho23)); have n0_ := Aside0.mk (Kd.B_lower ho23 (below_size (by repeat (first | (with_reducible first | exact HB.out | apply below_alloc | apply pw_below_drewN | apply below_drew1) | exact HB.out)))); have n1_ := Aside0.mk (below_step (by repeat (first | (with_reducible first | exact HB.out | apply below_alloc | apply pw_below_drewN | apply below_drew1) | exact HB.out)) hb); clear HB; have HO234 := n0_; have HB := n1_; clear n0_ n1_; clear hb ho23; obtain ⟨Ao24, co24, eo24⟩ := Kd.B_slice HO234.out; subst eo24) | ((with_reducible refine gate_callee (f := 15) rfl ?_); refine goesL_ (some 31) rfl rfl Tryd.func15 (by kernel_rfl) rfl #[.slice Ao24 y232.length co24, .func (.func 16) #[] #[]] rfl (by (try simp only [List.map_toArray, List.map_cons, List.map_nil]); first | done | rfl | (simp only [List.length_drop, List.length_take]; rfl)) ?_; (with_reducible refine (slices_ContainsFunc_byte_byte_ancepsref01_Letter.calls kj2 _ _ y232  true _ ?side1 ?side2 A20.out).mono ?_); (case side1 => repeat (first | exact (Kd.B_reads' HO234.out).2.2 | (with_reducible refine Kd.C_alloc ?_ _) | (with_reducible refine Kd.C_drewN ?_ _) | (with_reducible refine Kd.C_drew ?_))); (case side2 => exact (Kd.B_reads' HO234.out).2.1); rintro e w' ⟨rfl, ⟨nd, rfl⟩⟩; refine ⟨_, rfl, ?_⟩))
            go_ret
            exact ⟨by first | rfl | (simp [errW_none, errW_some] <;> rfl) | (simp [*, errW_none, errW_some] <;> rfl), by repeat (first | (with_reducible first | exact HB.out | apply below_alloc | apply pw_below_drewN | apply below_drew1) | exact HB.out)⟩
          · replace c21 := Bool.eq_false_iff.mpr c21
            subst c21
            have H1 : (if 1 + a1.size ≤ 9223372036854775807 then ((strings_ReplaceAll.f a0 (⟨#[32]⟩ : ByteArray) ((⟨#[32]⟩ : ByteArray) ++ a1)).bind fun t236 => ((strings_ToUpper.f t236).bind fun t237 => (if a1.size + t237.size ≤ 9223372036854775807 then (if (a1 ++ t237).size + a1.size ≤ 9223372036854775807 then (if (((a1 ++ t237) ++ a1).size : Int) > 120 then (some true) else ((text_Same.f kj2 a0 ((a1 ++ t237) ++ a1)).bind fun t238 => (some t238))) else (none)) else (none)))) else (none)) = some r := by rw [if_neg (show ¬ (false = true) by decide)] at H; exact H
            clear H
            have H := H1
            clear H1
            by_cases c25 : 1 + a1.size ≤ 9223372036854775807
            · rw [if_pos c25] at H
              have c25b0 := eq_true c25
              have c25b1 : decide (1 + a1.size ≤ 9223372036854775807) = true := decide_eq_true c25
              try have c25b2 : (9223372036854775807 < 1 + a1.size) = False := eq_false (Nat.not_lt.2 c25)
              replace H := Option.bind_eq_some_iff.mp H
              obtain ⟨t236, A260, H⟩ := H
              replace H : ((strings_ToUpper.f t236).bind fun t237 => (if a1.size + t237.size ≤ 9223372036854775807 then (if (a1 ++ t237).size + a1.size ≤ 9223372036854775807 then (if (((a1 ++ t237) ++ a1).size : Int) > 120 then (some true) else ((text_Same.f kj2 a0 ((a1 ++ t237) ++ a1)).bind fun t238 => (some t238))) else (none)) else (none))) = some r := H
              have A26 := Aside0.mk A260
              clear A260
              replace H := Option.bind_eq_some_iff.mp H
              obtain ⟨t237, A270, H⟩ := H
              replace H : (if a1.size + t237.size ≤ 9223372036854775807 then (if (a1 ++ t237).size + a1.size ≤ 9223372036854775807 then (if (((a1 ++ t237) ++ a1).size : Int) > 120 then (some true) else ((text_Same.f kj2 a0 ((a1 ++ t237) ++ a1)).bind fun t238 => (some t238))) else (none)) else (none)) = some r := H
              have A27 := Aside0.mk A270
              clear A270
              by_cases c28 : a1.size + t237.size ≤ 9223372036854775807
              · rw [if_pos c28] at H
                have c28b0 := eq_true c28
                have c28b1 : decide (a1.size + t237.size ≤ 9223372036854775807) = true := decide_eq_true c28
                try have c28b2 : (9223372036854775807 < a1.size + t237.size) = False := eq_false (Nat.not_lt.2 c28)
                by_cases c29 : (a1 ++ t237).size + a1.size ≤ 9223372036854775807
                · rw [if_pos c29] at H
                  have c29b0 := eq_true c29
                  have c29b1 : decide ((a1 ++ t237).size + a1.size ≤ 9223372036854775807) = true := decide_eq_true c29
                  try have c29b2 : (9223372036854775807 < (a1 ++ t237).size + a1.size) = False := eq_false (Nat.not_lt.2 c29)
                  have c29b3 : a1.size + t237.size + a1.size ≤ 9223372036854775807 := by have h_ := c29; simp only [ByteArray.size_append] at h_; exact h_
                  have c29b4 : (9223372036854775807 < a1.size + t237.size + a1.size) = False := eq_false (Nat.not_lt.2 c29b3)
                  have c29b5 : decide (a1.size + t237.size + a1.size ≤ 9223372036854775807) = true := decide_eq_true c29b3
                  replace c29b3 := eq_true c29b3
                  by_cases c30 : (((a1 ++ t237) ++ a1).size : Int) > 120
                  · rw [if_pos c30] at H
                    have c30b0 : decide (120 < (((a1 ++ t237) ++ a1).size : Int)) = true := decide_eq_true c30
                    try have c30b9 : (120 < (a1.size : Int) + (t237.size : Int) + (a1.size : Int)) = True := eq_true (by have h_ := of_decide_eq_true c30b0; simp only [ByteArray.size_append, Int.natCast_add] at h_; exact h_)
                    have c30b1 : decide (120 < ((a1 ++ t237) ++ a1).size) = true := decide_eq_true (by omega)
                    clear c30
                    obtain rfl := Option.some.inj H
                    go_wp2_with (first | ((with_reducible refine gate_dst (N := 30) rfl ?_); (try (refine gate_guard (by rfl) ?_; dsimp only)); refine Kd.B_conv _ 5 rfl (N := 30) rfl 9 36 _ rfl a1 rfl Tryd.underlying9 Tryd.underlying36 Tryd.underlying5 (ok := fun _ => True) trivial (Nat.le_trans (of_decide_eq_true (by first | (with_reducible assumption) | assumption) : a1.size ≤ 140737488355328) (by decide)) (Below.refl _ _) (Nat.le_refl _) ?_; intro v233 w31 ho32 hb hg_ hnew_; clear hg_ hnew_; (first | rw [← Ny232.out] at ho32 | (simp only [Int.reduceToNat] at ho32; rw [← Ny232.out] at ho32)); have n0_ := Aside0.mk (Kd.B_lower ho32 (below_size (by repeat (first | (with_reducible first | exact HB.out | apply below_alloc | apply pw_below_drewN | apply below_drew1) | exact HB.out)))); have n1_ := Aside0.mk (below_step (by repeat (first | (with_reducible first | exact HB.out | apply below_alloc | apply pw_below_drewN | apply below_drew1) | exact HB.out)) hb); clear HB; have HO234 := n0_; have HB := n1_; clear n0_ n1_; clear hb ho32; obtain ⟨Ao33, co33, eo33⟩ := Kd.B_slice HO234.out; subst eo33) | ((with_reducible refine gate_callee (f := 15) rfl ?_); refine goesL_ (some 31) rfl rfl Tryd.func15 (by kernel_rfl) rfl #[.slice Ao33 y232.length co33, .func (.func 16) #[] #[]] rfl (by (try simp only [List.map_toArray, List.map_cons, List.map_nil]); first | done | rfl | (simp only [List.length_drop, List.length_take]; rfl)) ?_; (with_reducible refine (slices_ContainsFunc_byte_byte_ancepsref01_Letter.calls kj2 _ _ y232  false _ ?side1 ?side2 A20.out).mono ?_); (case side1 => repeat (first | exact (Kd.B_reads' HO234.out).2.2 | (with_reducible refine Kd.C_alloc ?_ _) | (with_reducible refine Kd.C_drewN ?_ _) | (with_reducible refine Kd.C_drew ?_))); (case side2 => exact (Kd.B_reads' HO234.out).2.1); rintro e w' ⟨rfl, ⟨nd, rfl⟩⟩; refine ⟨_, rfl, ?_⟩) | ((with_reducible refine gate_callee (f := 18) rfl ?_); refine goesL_ (some 36) rfl rfl Tryd.func18 (by kernel_rfl) rfl #[.string a0, .string (⟨#[32]⟩ : ByteArray), .string ((⟨#[32]⟩ : ByteArray) ++ a1)] rfl (by (try simp only [List.map_toArray, List.map_cons, List.map_nil]); first | done | rfl | (simp only [List.length_drop, List.length_take]; rfl)) ?_; (with_reducible refine (strings_ReplaceAll.calls a0 (⟨#[32]⟩ : ByteArray) ((⟨#[32]⟩ : ByteArray) ++ a1) t236 _ A26.out).mono ?_); rintro e w34 ⟨rfl, hb⟩; refine ⟨_, rfl, ?_⟩; have n0_ := Aside0.mk (Kd.B_below (by (with_reducible repeat (first | apply Kd.B_alloc | apply Kd.B_drewN | apply Kd.B_drew)); exact HO234.out) hb); have n1_ := Aside0.mk (below_step (by repeat (first | (with_reducible first | exact HB.out | apply below_alloc | apply pw_below_drewN | apply below_drew1) | exact HB.out)) hb); clear HO234; clear HB; have HO234 := n0_; have HB := n1_; clear n0_ n1_; (try clear hb); (try clear hb2); (try clear hk); (try clear hi)) | ((with_reducible refine gate_callee (f := 17) rfl ?_); refine goesL_ (some 37) rfl rfl Tryd.func17 (by kernel_rfl) rfl #[.string t236] rfl (by (try simp only [List.map_toArray, List.map_cons, List.map_nil]); first | done | rfl | (simp only [List.length_drop, List.length_take]; rfl)) ?_; (with_reducible refine (strings_ToUpper.calls t236 t237 _ A27.out).mono ?_); rintro e w35 ⟨rfl, hb⟩; refine ⟨_, rfl, ?_⟩; have n0_ := Aside0.mk (Kd.B_below (by (with_reducible repeat (first | apply Kd.B_alloc | apply Kd.B_drewN | apply Kd.B_drew)); exact HO234.out) hb); have n1_ := Aside0.mk (below_step (by repeat (first | (with_reducible first | exact HB.out | apply below_alloc | apply pw_below_drewN | apply below_drew1) | exact HB.out)) hb); clear HO234; clear HB; have HO234 := n0_; have HB := n1_; clear n0_ n1_; (try clear hb); (try clear hb2); (try clear hk); (try clear hi)))
                    go_ret
                    exact ⟨by first | rfl | (simp [errW_none, errW_some] <;> rfl) | (simp [*, errW_none, errW_some] <;> rfl), by repeat (first | (with_reducible first | exact HB.out | apply below_alloc | apply pw_below_drewN | apply below_drew1) | exact HB.out)⟩
                  · rw [if_neg c30] at H
                    have c30b0 : decide (120 < (((a1 ++ t237) ++ a1).size : Int)) = false := decide_eq_false c30
                    try have c30b9 : (120 < (a1.size : Int) + (t237.size : Int) + (a1.size : Int)) = False := eq_false (by have h_ := of_decide_eq_false c30b0; simp only [ByteArray.size_append, Int.natCast_add] at h_; exact h_)
                    have c30b1 : decide (120 < ((a1 ++ t237) ++ a1).size) = false := decide_eq_false (by omega)
                    clear c30
                    replace H := Option.bind_eq_some_iff.mp H
                    obtain ⟨t238, A360, H⟩ := H
                    replace H : (some t238) = some r := H
                    have A36 := Aside0.mk A360
                    clear A360
                    obtain rfl := Option.some.inj H
                    go_wp2_with (first | ((with_reducible refine gate_dst (N := 30) rfl ?_); (try (refine gate_guard (by rfl) ?_; dsimp only)); refine Kd.B_conv _ 5 rfl (N := 30) rfl 9 36 _ rfl a1 rfl Tryd.underlying9 Tryd.underlying36 Tryd.underlying5 (ok := fun _ => True) trivial (Nat.le_trans (of_decide_eq_true (by first | (with_reducible assumption) | assumption) : a1.size ≤ 140737488355328) (by decide)) (Below.refl _ _) (Nat.le_refl _) ?_; intro v233 w37 ho38 hb hg_ hnew_; clear hg_ hnew_; (first | rw [← Ny232.out] at ho38 | (simp only [Int.reduceToNat] at ho38; rw [← Ny232.out] at ho38)); have n0_ := Aside0.mk (Kd.B_lower ho38 (below_size (by repeat (first | (with_reducible first | exact HB.out | apply below_alloc | apply pw_below_drewN | apply below_drew1) | exact HB.out)))); have n1_ := Aside0.mk (below_step (by repeat (first | (with_reducible first | exact HB.out | apply below_alloc | apply pw_below_drewN | apply below_drew1) | exact HB.out)) hb); clear HB; have HO234 := n0_; have HB := n1_; clear n0_ n1_; clear hb ho38; obtain ⟨Ao39, co39, eo39⟩ := Kd.B_slice HO234.out; subst eo39) | ((with_reducible refine gate_callee (f := 15) rfl ?_); refine goesL_ (some 31) rfl rfl Tryd.func15 (by kernel_rfl) rfl #[.slice Ao39 y232.length co39, .func (.func 16) #[] #[]] rfl (by (try simp only [List.map_toArray, List.map_cons, List.map_nil]); first | done | rfl | (simp only [List.length_drop, List.length_take]; rfl)) ?_; (with_reducible refine (slices_ContainsFunc_byte_byte_ancepsref01_Letter.calls kj2 _ _ y232  false _ ?side1 ?side2 A20.out).mono ?_); (case side1 => repeat (first | exact (Kd.B_reads' HO234.out).2.2 | (with_reducible refine Kd.C_alloc ?_ _) | (with_reducible refine Kd.C_drewN ?_ _) | (with_reducible refine Kd.C_drew ?_))); (case side2 => exact (Kd.B_reads' HO234.out).2.1); rintro e w' ⟨rfl, ⟨nd, rfl⟩⟩; refine ⟨_, rfl, ?_⟩) | ((with_reducible refine gate_callee (f := 18) rfl ?_); refine goesL_ (some 36) rfl rfl Tryd.func18 (by kernel_rfl) rfl #[.string a0, .string (⟨#[32]⟩ : ByteArray), .string ((⟨#[32]⟩ : ByteArray) ++ a1)] rfl (by (try simp only [List.map_toArray, List.map_cons, List.map_nil]); first | done | rfl | (simp only [List.length_drop, List.length_take]; rfl)) ?_; (with_reducible refine (strings_ReplaceAll.calls a0 (⟨#[32]⟩ : ByteArray) ((⟨#[32]⟩ : ByteArray) ++ a1) t236 _ A26.out).mono ?_); rintro e w40 ⟨rfl, hb⟩; refine ⟨_, rfl, ?_⟩; have n0_ := Aside0.mk (Kd.B_below (by (with_reducible repeat (first | apply Kd.B_alloc | apply Kd.B_drewN | apply Kd.B_drew)); exact HO234.out) hb); have n1_ := Aside0.mk (below_step (by repeat (first | (with_reducible first | exact HB.out | apply below_alloc | apply pw_below_drewN | apply below_drew1) | exact HB.out)) hb); clear HO234; clear HB; have HO234 := n0_; have HB := n1_; clear n0_ n1_; (try clear hb); (try clear hb2); (try clear hk); (try clear hi)) | ((with_reducible refine gate_callee (f := 17) rfl ?_); refine goesL_ (some 37) rfl rfl Tryd.func17 (by kernel_rfl) rfl #[.string t236] rfl (by (try simp only [List.map_toArray, List.map_cons, List.map_nil]); first | done | rfl | (simp only [List.length_drop, List.length_take]; rfl)) ?_; (with_reducible refine (strings_ToUpper.calls t236 t237 _ A27.out).mono ?_); rintro e w41 ⟨rfl, hb⟩; refine ⟨_, rfl, ?_⟩; have n0_ := Aside0.mk (Kd.B_below (by (with_reducible repeat (first | apply Kd.B_alloc | apply Kd.B_drewN | apply Kd.B_drew)); exact HO234.out) hb); have n1_ := Aside0.mk (below_step (by repeat (first | (with_reducible first | exact HB.out | apply below_alloc | apply pw_below_drewN | apply below_drew1) | exact HB.out)) hb); clear HO234; clear HB; have HO234 := n0_; have HB := n1_; clear n0_ n1_; (try clear hb); (try clear hb2); (try clear hk); (try clear hi)) | (go_at_call 19; (with_reducible refine (text_Same.calls kj2 a0 ((a1 ++ t237) ++ a1) t238 _ A36.out).mono ?_); rintro e w42 ⟨rfl, hb⟩; have n0_ := Aside0.mk (Kd.B_below (by (with_reducible repeat (first | apply Kd.B_alloc | apply Kd.B_drewN | apply Kd.B_drew)); exact HO234.out) hb); have n1_ := Aside0.mk (below_step (by repeat (first | (with_reducible first | exact HB.out | apply below_alloc | apply pw_below_drewN | apply below_drew1) | exact HB.out)) hb); clear HO234; clear HB; have HO234 := n0_; have HB := n1_; clear n0_ n1_; (try clear hb); (try clear hb2); (try clear hk); (try clear hi)))
                    go_ret
                    exact ⟨by first | rfl | (simp [errW_none, errW_some] <;> rfl) | (simp [*, errW_none, errW_some] <;> rfl), by repeat (first | (with_reducible first | exact HB.out | apply below_alloc | apply pw_below_drewN | apply below_drew1) | exact HB.out)⟩
                · rw [if_neg c29] at H
                  exact absurd H (by simp)
              · rw [if_neg c28] at H
                exact absurd H (by simp)
            · rw [if_neg c25] at H
              exact absurd H (by simp)
        · rw [if_neg c19] at H
          exact absurd H (by simp)

/-- THE ONE PURE STATEMENT of ancepslaw01_TextSpaced: yours. -/
def ancepslaw01_TextSpaced.Pure : Prop := ∀ (a0 : ByteArray) (a1 : ByteArray), a0.size ≤ 140737488351232 → a1.size ≤ 140737488351232 → ∃ k, ancepslaw01_TextSpaced.f k a0 a1 = some true
theorem ancepslaw01_TextSpaced.walk (P : ancepslaw01_TextSpaced.Pure) (a0 : ByteArray) (a1 : ByteArray) (w : World) (w0 : a0.size ≤ 140737488351232) (w1 : a1.size ≤ 140737488351232) :
    Calls Tryd.prog 5 #[.string a0, .string a1] w fun e w' => e = .returned (.bool true) ∧ Below w.heap.size w w' := by
  obtain ⟨k, h⟩ := P a0 a1 w0 w1
  refine (ancepslaw01_TextSpaced.calls k a0 a1 true w h).mono ?_
  rintro e w' ⟨rfl, hd⟩
  exact ⟨rfl, hd⟩

end Go.Proofs.YteokimhjojppcaaDoor.X
