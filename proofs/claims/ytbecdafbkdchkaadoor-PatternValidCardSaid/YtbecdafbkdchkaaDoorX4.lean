-- printed by this session's xprint.py: out of the translation, by the kit's print with additions; Lean checks it
import Derived.Test.YtbecdafbkdchkaaDoorWShare
import Derived.Test.YtbecdafbkdchkaaDoorWRepsOne
import Derived.Test.YtbecdafbkdchkaaDoorX0
import Derived.Test.YtbecdafbkdchkaaDoorX1
namespace Go.Proofs.YtbecdafbkdchkaaDoor.X
open Go.RowKit Go.Proofs.YtbecdafbkdchkaaDoorW.PrintWords Go.Proofs.YtbecdafbkdchkaaDoorW.PrintLast Go.Proofs.YtbecdafbkdchkaaDoorW.PrintMore
attribute [local go_sem] max2_int min2_int max_two min_two max_three min_three max_four min_four isSome_setCell binOp_gtr_str binOp_leq_str   -- for this text's walks alone
set_option linter.unusedVariables false
set_option linter.unusedSimpArgs false

/-! ### strings_ReplaceAll: function 21 (at an old of one byte) -/
/-- every byte c turned into nw -/
def strings_ReplaceAll.rep (c : UInt8) (nw : List UInt8) : List UInt8 → List UInt8
  | [] => []
  | x :: r => if (x == c) = true then nw ++ strings_ReplaceAll.rep c nw r else x :: strings_ReplaceAll.rep c nw r
theorem strings_ReplaceAll.rep_none (c : UInt8) (nw : List UInt8) : ∀ l : List UInt8, l.count c = 0 → strings_ReplaceAll.rep c nw l = l
  | [], _ => rfl
  | x :: r, h => by
    rw [List.count_cons] at h
    rw [strings_ReplaceAll.rep]
    by_cases hx : (x == c) = true
    · rw [if_pos hx] at h; omega
    · rw [if_neg hx] at h
      rw [if_neg hx, strings_ReplaceAll.rep_none c nw r h]
theorem strings_ReplaceAll.rep_at (c : UInt8) (nw : List UInt8) : ∀ l : List UInt8, 0 < l.count c → ∃ j : Nat, Lib.indexByte l c = (j : Int) ∧ j < l.length ∧ strings_ReplaceAll.rep c nw l = l.take j ++ (nw ++ strings_ReplaceAll.rep c nw (l.drop (j + 1))) ∧ (l.drop (j + 1)).count c + 1 = l.count c
  | [], h => by simp at h
  | x :: r, h => by
    by_cases hx : (x == c) = true
    · refine ⟨0, by rw [Lib.indexByte, if_pos hx]; rfl, by simp, by rw [strings_ReplaceAll.rep, if_pos hx]; rfl, by rw [List.count_cons, if_pos hx]; rfl⟩
    · rw [List.count_cons, if_neg hx] at h
      obtain ⟨j, h1, h2, h3, h4⟩ := strings_ReplaceAll.rep_at c nw r h
      refine ⟨j + 1, ?_, by simpa using h2, ?_, ?_⟩
      · rw [Lib.indexByte, if_neg hx, h1]
        rw [if_neg (by simp)]; omega
      · rw [strings_ReplaceAll.rep, if_neg hx, h3]; rfl
      · rw [List.count_cons, if_neg hx, List.drop_succ_cons]; omega
theorem strings_ReplaceAll.rep_len (c : UInt8) (nw : List UInt8) (h : nw.length ≤ 4096) : ∀ l : List UInt8, (strings_ReplaceAll.rep c nw l).length ≤ 4097 * l.length
  | [] => by simp [strings_ReplaceAll.rep]
  | x :: r => by
    have ih := strings_ReplaceAll.rep_len c nw h r
    rw [strings_ReplaceAll.rep]
    split
    · simp only [List.length_append, List.length_cons]; omega
    · simp only [List.length_cons]; omega
def strings_ReplaceAll.f (a0 a1 a2 : ByteArray) : Option ByteArray := if a1.size = 1 ∧ a1 ≠ a2 ∧ a0.size ≤ 1048576 ∧ a2.size ≤ 4096 then some ⟨(strings_ReplaceAll.rep (a1.data.toList.getD 0 0) a2.data.toList a0.data.toList).toArray⟩ else none
theorem strings_ReplaceAll.cut (x : ByteArray) (a : Nat) : (x.extract a x.size).data.toList = x.data.toList.drop a := by
  rw [ByteArray.data_extract, Array.toList_extract, List.extract_eq_take_drop, List.take_of_length_le]
  rw [List.length_drop]; simp
theorem strings_ReplaceAll.mid (x : ByteArray) (a j : Nat) : (x.extract a (a + j)).data.toList = (x.data.toList.drop a).take j := by
  rw [ByteArray.data_extract, Array.toList_extract, List.extract_eq_take_drop, Nat.add_sub_cancel_left]
/-- a fresh builder, grown -/
theorem strings_ReplaceAll.grown (w : World) (n : Nat) (hn : n ≤ 281474976710656) :
    Calls Tryd.prog 37 #[.pointer (some ⟨w.heap.size, 0, none⟩), .int .i64 n] (w.alloc (.cells #[.pointer none, .slice none 0 0] 48)) fun e w' =>
      e = .returned (.tuple #[]) ∧ ∃ r, Bld.Bd w' w.heap.size r [] ∧ (∀ g, r = some g → w.heap.size ≤ g) ∧ Below w.heap.size w w' := by
  have hs : w.heap.size ≤ (w.alloc (.cells #[.pointer none, .slice none 0 0] 48)).heap.size := by simp
  have hk : (w.alloc (.cells #[.pointer none, .slice none 0 0] 48)).heap[w.heap.size]? = some (.cells #[.pointer none, .slice none 0 0] 48 (0, 0)) := heap_alloc_new w _
  refine (Tryd.Builder_Grow_fresh w.heap.size w.heap.size n _ (Nat.le_refl _) hk hs hn).mono ?_
  rintro e w' ⟨he, ⟨_, v, h1, h2, h3⟩, h4⟩
  refine ⟨he, v.ownBlock, ⟨_, v, .inr rfl, h1, ?_, rfl, h3⟩, ?_, ((Below.refl _ _).alloc (Nat.le_refl _) _).trans h4⟩
  · obtain ⟨q1, q2⟩ := h2
    refine ⟨q1, q2.imp_right ?_⟩
    rintro ⟨g, cap, cur, rfl, hg, hh, rest⟩
    exact ⟨g, cap, cur, rfl, Nat.zero_le _, hh, rest⟩
  · intro g hg
    obtain ⟨q1, q2⟩ := h2
    rcases q2 with ⟨rfl, _⟩ | ⟨g', cap, cur, rfl, hg', hh, rest⟩
    · simp [Value.ownBlock] at hg
    · simp only [Value.ownBlock] at hg
      injection hg with hg
      omega
set_option maxHeartbeats 4000000 in
set_option maxRecDepth 100000 in
theorem strings_ReplaceAll.repl (s nw : ByteArray) (c : UInt8) (w : World) (hs : s.size ≤ 1048576) (hn : nw.size ≤ 4096) (hne : (⟨#[c]⟩ : ByteArray) ≠ nw) :
    Calls Tryd.prog 30 #[.string s, .string ⟨#[c]⟩, .string nw, .int .i64 (-1)] w fun e w' => e = .returned (.string ⟨(strings_ReplaceAll.rep c nw.data.toList s.data.toList).toArray⟩) ∧ Below w.heap.size w w' := by
  have hsl : s.data.toList.length = s.size := by simp
  have hnl : nw.data.toList.length = nw.size := by simp
  have hcl : s.data.toList.count c ≤ s.data.toList.length := List.count_le_length
  have hrl := strings_ReplaceAll.rep_len c nw.data.toList (by omega) s.data.toList
  obtain ⟨m, hm⟩ : ∃ m, s.data.toList.count c = m := ⟨_, rfl⟩
  have hneq : ((⟨#[c]⟩ : ByteArray).toList == nw.toList) = false := by
    rw [beq_eq_false_iff_ne]
    intro e
    apply hne
    rw [Lib.toList_data, Lib.toList_data] at e
    have : (⟨(⟨#[c]⟩ : ByteArray).data.toList.toArray⟩ : ByteArray) = ⟨nw.data.toList.toArray⟩ := by rw [e]
    exact this
  have hneq2 : ([c] == nw.toList) = false := by rw [show [c] = (⟨#[c]⟩ : ByteArray).toList by rw [Lib.toList_data]]; exact hneq
  have hcnt : ∀ W : World, Calls Tryd.prog 29 #[.string s, .string ⟨#[c]⟩] W fun e w' => e = .returned (.int .i64 (m : Int)) ∧ w' = W := fun W => by
    have := Tryd.strings_Count_one s c W
    rw [show Lib.countByte s.data.toList c = m from hm] at this
    exact this
  rw [hm, hsl] at hcl
  by_cases h0 : m = 0
  · subst h0
    have hr : strings_ReplaceAll.rep c nw.data.toList s.data.toList = s.data.toList := strings_ReplaceAll.rep_none c _ _ hm
    rw [hr]
    clear hr hrl hm hsl hnl hcl
    have hz : (((0 : Nat) : Int) == 0) = true := rfl
    go_enter Tryd.func30, Tryd.ntmps30
    go_wp2_with (go_at_call 29; refine (hcnt _).mono ?_; rintro e w1 ⟨rfl, hw1⟩; obtain rfl : w = w1 := hw1.symm; clear hw1)
    go_ret
    exact ⟨rfl, Below.refl _ _⟩
  · have hz : ((m : Int) == 0) = false := by rw [beq_eq_false_iff_ne]; omega
    obtain ⟨d, hd⟩ : ∃ d : Int, (nw.size : Int) - 1 = d := ⟨_, rfl⟩
    have hdw : IntKind.i64.wrap ((nw.size : Int) - 1) = d := by rw [hd, IntKind.wrap_i64]; omega
    obtain ⟨p, hp⟩ : ∃ p : Int, (m : Int) * d = p := ⟨_, rfl⟩
    have hpr : -(m : Int) ≤ p ∧ p ≤ 4294967296 := by
      rw [← hp]
      constructor
      · have h1 : (m : Int) * (-1) ≤ (m : Int) * d := Int.mul_le_mul_of_nonneg_left (by omega) (by omega)
        omega
      · have h1 : (m : Int) * d ≤ (m : Int) * 4096 := Int.mul_le_mul_of_nonneg_left (by omega) (by omega)
        omega
    have hpw : IntKind.i64.wrap ((m : Int) * d) = p := by rw [hp, IntKind.wrap_i64]; omega
    obtain ⟨g, hg⟩ : ∃ g : Nat, (s.size : Int) + p = (g : Int) := ⟨((s.size : Int) + p).toNat, by omega⟩
    have hgw : IntKind.i64.wrap ((s.size : Int) + p) = (g : Int) := by rw [hg, IntKind.wrap_i64]; omega
    have hgn : g ≤ 281474976710656 := by omega
    have HM := Lib.hid hm; have HRL := Lib.hid hrl; have HSL := Lib.hid hsl; have HNL := Lib.hid hnl; have HCL := Lib.hid hcl; have HG := Lib.hid hgn; have HS := Lib.hid hs; have HN := Lib.hid hn
    clear hm hrl hsl hnl hcl hd hp hpr hg hgn
    go_enter Tryd.func30, Tryd.ntmps30
    go_wp2_with (first | (go_at_call 29; refine (hcnt _).mono ?_; rintro e w1 ⟨rfl, hw1⟩; obtain rfl : w = w1 := hw1.symm; clear hw1) | (go_at_call 37; refine (strings_ReplaceAll.grown w g HG.out).mono ?_; rintro e w1 ⟨rfl, r, hB, hr, hbel⟩; have HB := Lib.hid hB; have HR := Lib.hid hr; have HE := Lib.hid hbel; clear hB hr hbel))
    clear hdw hpw hgw hcnt hneq hneq2
    have hmb : m ≤ 1048576 := by
      have h1 := HCL.out
      have h2 := HS.out
      omega
    go_loopw [11, 53] (fun x i wr => ∃ (k p : Nat) (done : List UInt8) (r : Option Nat), k ≤ m ∧ p ≤ s.size ∧ x = .int .i64 p ∧ i = .int .i64 k ∧ Hid ((s.data.toList.drop p).count c + k = m ∧ strings_ReplaceAll.rep c nw.data.toList s.data.toList = done ++ strings_ReplaceAll.rep c nw.data.toList (s.data.toList.drop p)) ∧ Hid (Bld.Bd wr w.heap.size r done) ∧ Hid (∀ g, r = some g → w.heap.size ≤ g) ∧ Hid (Below w.heap.size w wr))
      (fun _ i _ => m - (intOf i).toNat)
    case atStart => exact ⟨0, 0, [], r, Nat.zero_le _, Nat.zero_le _, rfl, rfl, Lib.hid ⟨HM.out, rfl⟩, HB, HR, HE⟩
    case round =>
      obtain ⟨k, p', done, r', hk, hps, rfl, rfl, hI, hB, hR, hE⟩ := hrel
      obtain ⟨i1, i2⟩ := hI.out
      have hlt : w.heap.size < wr.heap.size := (Bld.Bd.lt hB.out).1
      obtain ⟨y, hy⟩ : ∃ y, s.extract p' s.size = y := ⟨_, rfl⟩
      have hyl : y.data.toList = s.data.toList.drop p' := by rw [← hy]; exact strings_ReplaceAll.cut s p'
      have hrlen := HRL.out
      rw [i2, List.length_append, HSL.out] at hrlen
      have hS := HS.out
      have hN := HN.out
      have hNL := HNL.out
      by_cases hkm : k < m
      · obtain ⟨j, hj1, hj2, hj3, hj4⟩ := strings_ReplaceAll.rep_at c nw.data.toList (s.data.toList.drop p') (by omega)
        rw [List.length_drop, HSL.out] at hj2
        have hidx : ∀ W : World, Calls Tryd.prog 36 #[.string y, .string ⟨#[c]⟩] W fun e w' => e = .returned (.int .i64 (j : Int)) ∧ w' = W := fun W => by
          have := Tryd.strings_Index_one y c W
          rw [hyl, hj1] at this
          exact this
        obtain ⟨q, hq⟩ : ∃ q : Nat, p' + j = q := ⟨_, rfl⟩
        obtain ⟨u, hu⟩ : ∃ u : Nat, q + 1 = u := ⟨_, rfl⟩
        have hw1 : (p' : Int) + (j : Int) = (q : Int) := by omega
        have hw2 : (q : Int) + 1 = (u : Int) := by omega
        obtain ⟨z, hz'⟩ : ∃ z, s.extract p' q = z := ⟨_, rfl⟩
        have hzl : z.data.toList = (s.data.toList.drop p').take j := by rw [← hz', ← hq]; exact strings_ReplaceAll.mid s p' j
        have hzs : z.size = j := by
          have : z.data.toList.length = z.size := by simp
          rw [← this, hzl, List.length_take, List.length_drop, HSL.out]; omega
        rw [hj3, List.length_append, List.length_append] at hrlen
        have hl1 : done.length + z.size ≤ 140737488355328 := by omega
        have hl2 : (done ++ z.data.toList).length + nw.size ≤ 140737488355328 := by
          rw [List.length_append]
          have : z.data.toList.length = z.size := by simp
          omega
        have hdd : s.data.toList.drop u = (s.data.toList.drop p').drop (j + 1) := by rw [List.drop_drop, ← hu, ← hq, Nat.add_assoc]
        have hI2 : (s.data.toList.drop u).count c + (k + 1) = m ∧ strings_ReplaceAll.rep c nw.data.toList s.data.toList = (done ++ z.data.toList ++ nw.data.toList) ++ strings_ReplaceAll.rep c nw.data.toList (s.data.toList.drop u) := by
          rw [hdd]
          refine ⟨by omega, ?_⟩
          rw [i2, hj3, hzl]
          simp only [List.append_assoc]
        have HI2 := Lib.hid hI2; have HL1 := Lib.hid hl1; have HL2 := Lib.hid hl2
        have hb1 : p' ≤ q := by omega
        have hb2 : q ≤ s.size := by omega
        have hb3 : u ≤ s.size := by omega
        clear hj1 hj3 hj4 hyl hzl hzs hl1 hl2 hdd hI2 i1 i2 hrlen hS hN hNL hq hu hj2
        go_wp2_with (first | (go_at_call 36; refine (hidx _).mono ?_; rintro e w1 ⟨rfl, hw1'⟩; obtain rfl : wr = w1 := hw1'.symm; clear hw1') | (go_at_call 38; refine (Bld.writeString _ _ _ _ z hB.out HL1.out).mono ?_))
        (first | rintro e w1 rfl hwr | rintro e w1 ⟨rfl, hwr⟩)
        obtain ⟨r2, hbd1, hr1, hf1⟩ := hwr
        obtain ⟨hg1, hbe1⟩ := Bld.carry (Nat.le_refl _) hR.out (Nat.le_of_lt hlt) hr1 hf1
        have hlt1 : w.heap.size < w1.heap.size := (Bld.Bd.lt hbd1).1
        have HB1 := Lib.hid hbd1; have HG1 := Lib.hid hg1; have HE1 := Lib.hid (hE.out.trans hbe1)
        clear hbd1 hr1 hf1 hbe1 hg1
        go_wp2_with (go_at_call 38; refine (Bld.writeString _ _ _ _ nw HB1.out HL2.out).mono ?_)
        (first | rintro e w2 rfl hwr | rintro e w2 ⟨rfl, hwr⟩)
        obtain ⟨r3, hbd2, hr2, hf2⟩ := hwr
        obtain ⟨hg2, hbe2⟩ := Bld.carry (Nat.le_refl _) HG1.out (Nat.le_of_lt hlt1) hr2 hf2
        have HB2 := Lib.hid hbd2; have HG2 := Lib.hid hg2; have HE2 := Lib.hid (HE1.out.trans hbe2)
        clear hbd2 hr2 hf2 hbe2 hg2
        go_wp2
        go_roundw
        case rel => exact ⟨k + 1, u, _, _, by omega, hb3, rfl, by go_num, HI2, HB2, HG2, HE2⟩
        case measure => simp [intOf]; omega
      · obtain rfl : k = m := by omega
        have h0' : (s.data.toList.drop p').count c = 0 := by omega
        rw [strings_ReplaceAll.rep_none c _ _ h0'] at i2 hrlen
        have hl1 : done.length + y.size ≤ 140737488355328 := by
          have : y.data.toList.length = y.size := by simp
          rw [hyl] at this
          omega
        have hres : strings_ReplaceAll.rep c nw.data.toList s.data.toList = done ++ y.data.toList := by rw [i2, hyl]
        have HL1 := Lib.hid hl1; have HRES := Lib.hid hres
        clear hl1 hres i1 i2 hrlen hyl h0' hS hN hNL
        go_wp2_with (go_at_call 38; refine (Bld.writeString _ _ _ _ y hB.out HL1.out).mono ?_)
        (first | rintro e w1 rfl hwr | rintro e w1 ⟨rfl, hwr⟩)
        obtain ⟨r2, hbd1, hr1, hf1⟩ := hwr
        obtain ⟨hg1, hbe1⟩ := Bld.carry (Nat.le_refl _) hR.out (Nat.le_of_lt hlt) hr1 hf1
        have hlt1 : w.heap.size < w1.heap.size := (Bld.Bd.lt hbd1).1
        have HB1 := Lib.hid hbd1; have HG1 := Lib.hid hg1; have HE1 := Lib.hid (hE.out.trans hbe1)
        clear hbd1 hr1 hf1 hbe1 hg1
        go_wp2_with (go_at_call 27; refine (Bld.string_ _ _ _ _ HB1.out).mono ?_)
        (first | rintro e w2 rfl hf2 | rintro e w2 ⟨rfl, hf2⟩)
        have hb2 := hf2.below (Nat.le_of_lt hlt1) (fun g hg => HG1.out g hg.symm)
        have HE2 := Lib.hid (HE1.out.trans hb2)
        clear hf2 hb2
        go_wp2
        go_ret
        exact ⟨by rw [HRES.out]; rfl, HE2.out⟩
theorem strings_ReplaceAll.calls (a0 a1 a2 : ByteArray) (r : ByteArray) (w : World) (h : strings_ReplaceAll.f a0 a1 a2 = some r) :
    Calls Tryd.prog 21 #[.string a0, .string a1, .string a2] w fun e w' => e = .returned (.string r) ∧ Below w.heap.size w w' := by
  unfold strings_ReplaceAll.f at h
  split at h
  · rename_i hg
    obtain rfl := Option.some.inj h
    clear h
    obtain ⟨c, rfl⟩ : ∃ c : UInt8, a1 = ⟨#[c]⟩ := by
      obtain ⟨⟨l⟩⟩ := a1
      match l, hg.1 with
      | [c], _ => exact ⟨c, rfl⟩
    go_enter Tryd.func21, Tryd.ntmps21
    go_wp2_with (go_at_call 30; refine (strings_ReplaceAll.repl a0 a2 c _ hg.2.2.1 hg.2.2.2 hg.2.1).mono ?_; rintro e w1 ⟨rfl, hB⟩)
    go_ret
    exact ⟨rfl, hB⟩
  · cases h

/-! ### pattern_Plain: function 5 -/
def pattern_Plain.f (k : Nat) (a0 : ByteArray) : Option (ByteArray × Int) := (pattern_Marked.f k a0).bind fun t177 => (if t177 = 0 then ((strings_ReplaceAll.f a0 (⟨#[46]⟩ : ByteArray) (⟨#[]⟩ : ByteArray)).bind fun t178 => (some (t178, 0))) else (some ((⟨#[]⟩ : ByteArray), t177)))
theorem pattern_Plain.mono : ∀ a0 k, LeO (pattern_Plain.f k a0) (pattern_Plain.f (k + 1) a0) := by
  intro a0 k
  unfold pattern_Plain.f
  repeat' first
      | (with_reducible exact pattern_Marked.mono _ _)
      | (with_reducible exact LeO.refl _)
      | (with_reducible exact LeO.none _)
      | (with_reducible refine LeO.ite ?_ ?_)
      | (with_reducible refine LeO.bind ?_ (fun _ => ?_))
      | exact pattern_Marked.mono _ _
      | exact LeO.none _
      | refine LeO.ite ?_ ?_
      | refine LeO.bind ?_ (fun _ => ?_)
set_option maxHeartbeats 8000000 in
set_option maxRecDepth 100000 in
theorem pattern_Plain.calls (k : Nat) (a0 : ByteArray) (r1 : ByteArray) (r2 : Int) (w : World) (h : pattern_Plain.f k a0 = some (r1, r2)) :
    Calls Tryd.prog 5 #[.string a0] w fun e w' => e = .returned (.tuple #[.string r1, .int .i64 r2]) ∧ Below w.heap.size w w' := by
  have HB := Aside0.mk (Below.refl w.heap.size w)
  have H : ((pattern_Marked.f k a0).bind fun t177 => (if t177 = 0 then ((strings_ReplaceAll.f a0 (⟨#[46]⟩ : ByteArray) (⟨#[]⟩ : ByteArray)).bind fun t178 => (some (t178, 0))) else (some ((⟨#[]⟩ : ByteArray), t177)))) = some (r1, r2) := h
  clear h
  replace H := Option.bind_eq_some_iff.mp H
  obtain ⟨t177, A20, H⟩ := H
  replace H : (if t177 = 0 then ((strings_ReplaceAll.f a0 (⟨#[46]⟩ : ByteArray) (⟨#[]⟩ : ByteArray)).bind fun t178 => (some (t178, 0))) else (some ((⟨#[]⟩ : ByteArray), t177))) = some (r1, r2) := H
  have A2 := Aside0.mk A20
  clear A20
  by_cases c3 : t177 = 0
  · rw [if_pos c3] at H
    have c3b0 : (t177 == 0) = true := beq_iff_eq.mpr c3
    have c3b1 : (t177 != 0) = false := bne_eq_false_iff_eq.mpr c3
    clear c3
    replace H := Option.bind_eq_some_iff.mp H
    obtain ⟨t178, A40, H⟩ := H
    replace H : (some (t178, 0)) = some (r1, r2) := H
    have A4 := Aside0.mk A40
    clear A40
    simp only [Option.some.injEq, Prod.mk.injEq] at H
    obtain ⟨rfl, rfl⟩ := H
    go_enter Tryd.func5, Tryd.ntmps5
    go_wp2_with (first | ((with_reducible refine gate_callee (f := 11) rfl ?_); refine goesL_ (some 6) rfl rfl Tryd.func11 (by kernel_rfl) rfl #[.string a0] rfl (by (try simp only [List.map_toArray, List.map_cons, List.map_nil]); first | done | rfl | (simp only [List.length_drop, List.length_take]; rfl)) ?_; (with_reducible refine (pattern_Marked.calls k a0 t177 _ A2.out).mono ?_); rintro e w' ⟨rfl, ⟨nd, rfl⟩⟩; refine ⟨_, rfl, ?_⟩) | ((with_reducible refine gate_callee (f := 21) rfl ?_); refine goesL_ (some 11) rfl rfl Tryd.func21 (by kernel_rfl) rfl #[.string a0, .string (⟨#[46]⟩ : ByteArray), .string (⟨#[]⟩ : ByteArray)] rfl (by (try simp only [List.map_toArray, List.map_cons, List.map_nil]); first | done | rfl | (simp only [List.length_drop, List.length_take]; rfl)) ?_; (with_reducible refine (strings_ReplaceAll.calls a0 (⟨#[46]⟩ : ByteArray) (⟨#[]⟩ : ByteArray) t178 _ A4.out).mono ?_); rintro e w5 ⟨rfl, hb⟩; refine ⟨_, rfl, ?_⟩; have n0_ := Aside0.mk (below_step (by repeat (first | (with_reducible first | exact HB.out | apply below_alloc | apply pw_below_drewN | apply below_drew1) | exact HB.out)) hb); clear HB; have HB := n0_; clear n0_; (try clear hb); (try clear hb2); (try clear hk); (try clear hi)))
    go_ret2
    exact ⟨by first | rfl | (simp [errW_none, errW_some] <;> rfl) | (simp [*, errW_none, errW_some] <;> rfl), by repeat (first | (with_reducible first | exact HB.out | apply below_alloc | apply pw_below_drewN | apply below_drew1) | exact HB.out)⟩
  · rw [if_neg c3] at H
    have c3b0 : (t177 == 0) = false := beq_eq_false_iff_ne.mpr c3
    have c3b1 : (t177 != 0) = true := bne_iff_ne.mpr c3
    simp only [Option.some.injEq, Prod.mk.injEq] at H
    obtain ⟨rfl, rfl⟩ := H
    go_enter Tryd.func5, Tryd.ntmps5
    go_wp2_with (first | ((with_reducible refine gate_callee (f := 11) rfl ?_); refine goesL_ (some 6) rfl rfl Tryd.func11 (by kernel_rfl) rfl #[.string a0] rfl (by (try simp only [List.map_toArray, List.map_cons, List.map_nil]); first | done | rfl | (simp only [List.length_drop, List.length_take]; rfl)) ?_; (with_reducible refine (pattern_Marked.calls k a0 t177 _ A2.out).mono ?_); rintro e w' ⟨rfl, ⟨nd, rfl⟩⟩; refine ⟨_, rfl, ?_⟩))
    go_ret2
    exact ⟨by first | rfl | (simp [errW_none, errW_some] <;> rfl) | (simp [*, errW_none, errW_some] <;> rfl), by repeat (first | (with_reducible first | exact HB.out | apply below_alloc | apply pw_below_drewN | apply below_drew1) | exact HB.out)⟩

/-! ### ancepsref04_Is: function 25 -/
def ancepsref04_Is.f (a0 : Int) : Option (Bool) := if a0 = 117 then (some true) else (if a0 = 45 then (some true) else (some (a0 == 120)))
set_option maxHeartbeats 8000000 in
set_option maxRecDepth 100000 in
theorem ancepsref04_Is.calls (a0 : Int) (r : Bool) (w : World) (h : ancepsref04_Is.f a0 = some r) :
    Calls Tryd.prog 25 #[.int .u8 a0] w fun e w' => e = .returned (.bool r) ∧ Drawn0 w w' := by
  have H : (if a0 = 117 then (some true) else (if a0 = 45 then (some true) else (some (a0 == 120)))) = some r := h
  clear h
  by_cases c2 : a0 = 117
  · rw [if_pos c2] at H
    have c2b0 : (a0 == 117) = true := beq_iff_eq.mpr c2
    have c2b1 : (a0 != 117) = false := bne_eq_false_iff_eq.mpr c2
    clear c2
    obtain rfl := Option.some.inj H
    go_enter Tryd.func25, Tryd.ntmps25
    go_wp2
    go_ret
    exact ⟨by first | rfl | (simp; done) | (simp [*]; done), by repeat (first | exact Drawn0.refl _ | apply Drawn0.step)⟩
  · rw [if_neg c2] at H
    have c2b0 : (a0 == 117) = false := beq_eq_false_iff_ne.mpr c2
    have c2b1 : (a0 != 117) = true := bne_iff_ne.mpr c2
    by_cases c3 : a0 = 45
    · rw [if_pos c3] at H
      have c3b0 : (a0 == 45) = true := beq_iff_eq.mpr c3
      have c3b1 : (a0 != 45) = false := bne_eq_false_iff_eq.mpr c3
      clear c3
      obtain rfl := Option.some.inj H
      go_enter Tryd.func25, Tryd.ntmps25
      go_wp2
      go_ret
      exact ⟨by first | rfl | (simp; done) | (simp [*]; done), by repeat (first | exact Drawn0.refl _ | apply Drawn0.step)⟩
    · rw [if_neg c3] at H
      have c3b0 : (a0 == 45) = false := beq_eq_false_iff_ne.mpr c3
      have c3b1 : (a0 != 45) = true := bne_iff_ne.mpr c3
      obtain rfl := Option.some.inj H
      go_enter Tryd.func25, Tryd.ntmps25
      go_wp2
      go_ret
      exact ⟨by first | rfl | (simp; done) | (simp [*]; done), by repeat (first | exact Drawn0.refl _ | apply Drawn0.step)⟩

/-! ### ancepsref04_Marked: function 12 -/
def ancepsref04_Marked.l0 : Nat → ByteArray → Int → Int → Option (Int)
  | 0, _, _, _ => none
  | k + 1, x0, x3, x4 => if x4 < (x0.size : Int) then (if 0 ≤ x4 then ((ancepsref04_Is.f (bt x0 x4)).bind fun t179 => (if t179 = true then (ancepsref04_Marked.l0 k x0 (wrap64 (x3 + 1)) (wrap64 (x4 + 1))) else (if (bt x0 x4) = 46 then (if x4 = 0 then (some 2) else (if 0 ≤ (wrap64 (x4 - 1)) then (if (wrap64 (x4 - 1)) < (x0.size : Int) then ((ancepsref04_Is.f (bt x0 (wrap64 (x4 - 1)))).bind fun t180 => (if t180 = true then (ancepsref04_Marked.l0 k x0 x3 (wrap64 (x4 + 1))) else (some 2))) else (none)) else (none))) else (some 2)))) else (none)) else (if x3 > 60 then (some 3) else (some 0))
def ancepsref04_Marked.f (k : Nat) (a0 : ByteArray) : Option (Int) := if (a0.size : Int) > 120 then (some 3) else (ancepsref04_Marked.l0 k a0 0 0)
theorem ancepsref04_Marked.mono_l : ∀ k, (∀ y0 y1 y2, LeO (ancepsref04_Marked.l0 k y0 y1 y2) (ancepsref04_Marked.l0 (k + 1) y0 y1 y2))
  | 0 => fun _ _ _ r h => by simp [ancepsref04_Marked.l0] at h
  | k + 1 => by
    have ih0 := ancepsref04_Marked.mono_l k
    · intro y0 y1 y2
      unfold ancepsref04_Marked.l0
      repeat' first
      | (with_reducible exact ih0 _ _ _)
      | (with_reducible exact LeO.refl _)
      | (with_reducible exact LeO.none _)
      | (with_reducible refine LeO.ite ?_ ?_)
      | (with_reducible refine LeO.bind ?_ (fun _ => ?_))
      | exact ih0 _ _ _
      | exact LeO.none _
      | refine LeO.ite ?_ ?_
      | refine LeO.bind ?_ (fun _ => ?_)
theorem ancepsref04_Marked.mono : ∀ a0 k, LeO (ancepsref04_Marked.f k a0) (ancepsref04_Marked.f (k + 1) a0) := by
  intro a0 k
  have ih0 := ancepsref04_Marked.mono_l k
  unfold ancepsref04_Marked.f
  repeat' first
      | (with_reducible exact ih0 _ _ _)
      | (with_reducible exact LeO.refl _)
      | (with_reducible exact LeO.none _)
      | (with_reducible refine LeO.ite ?_ ?_)
      | (with_reducible refine LeO.bind ?_ (fun _ => ?_))
      | exact ih0 _ _ _
      | exact LeO.none _
      | refine LeO.ite ?_ ?_
      | refine LeO.bind ?_ (fun _ => ?_)
set_option maxHeartbeats 8000000 in
set_option maxRecDepth 100000 in
theorem ancepsref04_Marked.calls (k : Nat) (a0 : ByteArray) (r : Int) (w : World) (h : ancepsref04_Marked.f k a0 = some r) :
    Calls Tryd.prog 12 #[.string a0] w fun e w' => e = .returned (.int .i64 r) ∧ Drawn0 w w' := by
  have H : (if (a0.size : Int) > 120 then (some 3) else (ancepsref04_Marked.l0 k a0 0 0)) = some r := h
  clear h
  by_cases c2 : (a0.size : Int) > 120
  · rw [if_pos c2] at H
    have c2b0 : decide (120 < (a0.size : Int)) = true := decide_eq_true c2
    have c2b1 : decide (120 < a0.size) = true := decide_eq_true (by omega)
    clear c2
    obtain rfl := Option.some.inj H
    go_enter Tryd.func12, Tryd.ntmps12
    go_wp2
    go_ret
    exact ⟨by first | rfl | (simp; done) | (simp [*]; done), by repeat (first | exact Drawn0.refl _ | apply Drawn0.step)⟩
  · rw [if_neg c2] at H
    have c2b0 : decide (120 < (a0.size : Int)) = false := decide_eq_false c2
    have c2b1 : decide (120 < a0.size) = false := decide_eq_false (by omega)
    clear c2
    have H' := Aside0.mk H
    clear H
    go_enter Tryd.func12, Tryd.ntmps12
    go_wp2
    go_loopg [3, 4] k (fun kq v3 v4 w' => ∃ (x3_1 : Int) (x4_1 : Int), v3 = .int .i64 x3_1 ∧ v4 = .int .i64 x4_1 ∧ Aside0 (ancepsref04_Marked.l0 kq a0 x3_1 x4_1 = some r) ∧ Aside0 (kq ≤ k) ∧ Drawn0 w w')
    case atStart => exact ⟨(0), (0), (by first | rfl | (simp; done) | (simp [*]; done)), (by first | rfl | (simp; done) | (simp [*]; done)), H', ⟨Nat.le_refl _⟩, by repeat (first | exact Drawn0.refl _ | apply Drawn0.step)⟩
    case round =>
      clear H'
      try clear c1
      try clear c2
      try clear c2b0
      try clear c2b1
      try clear p2
      obtain ⟨x3_1, x4_1, rfl, rfl, HA, HK1, ⟨m1, rfl⟩⟩ := hrel
      cases gk with
      | zero => exact absurd HA.out (by simp [ancepsref04_Marked.l0])
      | succ k1 =>
        have H := HA.out
        clear HA
        simp only [ancepsref04_Marked.l0] at H
        by_cases c3 : x4_1 < (a0.size : Int)
        · rw [if_pos c3] at H
          have c3b0 : decide (x4_1 < (a0.size : Int)) = true := decide_eq_true c3
          clear c3
          by_cases c4 : 0 ≤ x4_1
          · rw [if_pos c4] at H
            have c4b0 : decide (0 ≤ x4_1) = true := decide_eq_true c4
            clear c4
            replace H := Option.bind_eq_some_iff.mp H
            obtain ⟨t179, A60, H⟩ := H
            replace H : (if t179 = true then (ancepsref04_Marked.l0 k1 a0 (wrap64 (x3_1 + 1)) (wrap64 (x4_1 + 1))) else (if (bt a0 x4_1) = 46 then (if x4_1 = 0 then (some 2) else (if 0 ≤ (wrap64 (x4_1 - 1)) then (if (wrap64 (x4_1 - 1)) < (a0.size : Int) then ((ancepsref04_Is.f (bt a0 (wrap64 (x4_1 - 1)))).bind fun t180 => (if t180 = true then (ancepsref04_Marked.l0 k1 a0 x3_1 (wrap64 (x4_1 + 1))) else (some 2))) else (none)) else (none))) else (some 2))) = some r := H
            have A6 := Aside0.mk A60
            clear A60
            by_cases c7 : t179 = true
            · subst c7
              have H1 : (ancepsref04_Marked.l0 k1 a0 (wrap64 (x3_1 + 1)) (wrap64 (x4_1 + 1))) = some r := by rw [if_pos rfl] at H; exact H
              clear H
              have H := H1
              clear H1
              have H' := Aside0.mk H
              clear H
              have p5 : 0 ≤ (x4_1 : Int) := of_decide_eq_true (by first | (with_reducible assumption) | assumption)
              have q5 : x4_1 < (a0.size : Int) := of_decide_eq_true (by first | (with_reducible assumption) | assumption)
              have hx5 := bt_at a0 x4_1
              replace p5 := eq_true p5
              replace q5 := eq_true q5
              go_wp2_with (first | ((with_reducible refine gate_callee (f := 25) rfl ?_); refine goesL_ (some 17) rfl rfl Tryd.func25 (by kernel_rfl) rfl #[.int .u8 (bt a0 x4_1)] rfl (by (try simp only [List.map_toArray, List.map_cons, List.map_nil]); first | done | rfl | (simp only [List.length_drop, List.length_take]; rfl)) ?_; (with_reducible refine (ancepsref04_Is.calls (bt a0 x4_1) true _ A6.out).mono ?_); rintro e w' ⟨rfl, ⟨nd, rfl⟩⟩; refine ⟨_, rfl, ?_⟩))
              go_roundg k1
              case measure => have := HK1.out; omega
              case rel => exact ⟨(wrap64 (x3_1 + 1)), (wrap64 (x4_1 + 1)), (by first | rfl | (simp; done) | (simp [*]; done)), (by first | rfl | (simp; done) | (simp [*]; done)), H', ⟨by have := HK1.out; omega⟩, by repeat (first | exact Drawn0.refl _ | apply Drawn0.step)⟩
            · replace c7 := Bool.eq_false_iff.mpr c7
              subst c7
              have H1 : (if (bt a0 x4_1) = 46 then (if x4_1 = 0 then (some 2) else (if 0 ≤ (wrap64 (x4_1 - 1)) then (if (wrap64 (x4_1 - 1)) < (a0.size : Int) then ((ancepsref04_Is.f (bt a0 (wrap64 (x4_1 - 1)))).bind fun t180 => (if t180 = true then (ancepsref04_Marked.l0 k1 a0 x3_1 (wrap64 (x4_1 + 1))) else (some 2))) else (none)) else (none))) else (some 2)) = some r := by rw [if_neg (show ¬ (false = true) by decide)] at H; exact H
              clear H
              have H := H1
              clear H1
              by_cases c9 : (bt a0 x4_1) = 46
              · rw [if_pos c9] at H
                have c9b0 : ((bt a0 x4_1) == 46) = true := beq_iff_eq.mpr c9
                have c9b1 : ((bt a0 x4_1) != 46) = false := bne_eq_false_iff_eq.mpr c9
                clear c9
                by_cases c10 : x4_1 = 0
                · rw [if_pos c10] at H
                  have c10b0 : (x4_1 == 0) = true := beq_iff_eq.mpr c10
                  have c10b1 : (x4_1 != 0) = false := bne_eq_false_iff_eq.mpr c10
                  clear c10
                  obtain rfl := Option.some.inj H
                  have p5 : 0 ≤ (x4_1 : Int) := of_decide_eq_true (by first | (with_reducible assumption) | assumption)
                  have q5 : x4_1 < (a0.size : Int) := of_decide_eq_true (by first | (with_reducible assumption) | assumption)
                  have hx5 := bt_at a0 x4_1
                  replace p5 := eq_true p5
                  replace q5 := eq_true q5
                  go_wp2_with (first | ((with_reducible refine gate_callee (f := 25) rfl ?_); refine goesL_ (some 17) rfl rfl Tryd.func25 (by kernel_rfl) rfl #[.int .u8 (bt a0 x4_1)] rfl (by (try simp only [List.map_toArray, List.map_cons, List.map_nil]); first | done | rfl | (simp only [List.length_drop, List.length_take]; rfl)) ?_; (with_reducible refine (ancepsref04_Is.calls (bt a0 x4_1) false _ A6.out).mono ?_); rintro e w' ⟨rfl, ⟨nd, rfl⟩⟩; refine ⟨_, rfl, ?_⟩; have p8 : 0 ≤ (x4_1 : Int) := of_decide_eq_true (by first | (with_reducible assumption) | assumption); have q8 : x4_1 < (a0.size : Int) := of_decide_eq_true (by first | (with_reducible assumption) | assumption); have hx8 := bt_at a0 x4_1; replace p8 := eq_true p8; replace q8 := eq_true q8))
                  go_ret
                  exact ⟨by first | rfl | (simp; done) | (simp [*]; done), by repeat (first | exact Drawn0.refl _ | apply Drawn0.step)⟩
                · rw [if_neg c10] at H
                  have c10b0 : (x4_1 == 0) = false := beq_eq_false_iff_ne.mpr c10
                  have c10b1 : (x4_1 != 0) = true := bne_iff_ne.mpr c10
                  obtain ⟨ji11, hji11⟩ : ∃ j_ : Int, (wrap64 (x4_1 - 1)) = j_ := ⟨_, rfl⟩
                  replace H : (if 0 ≤ (ji11) then (if (ji11) < (a0.size : Int) then ((ancepsref04_Is.f (bt a0 (ji11))).bind fun t180 => (if t180 = true then (ancepsref04_Marked.l0 k1 a0 x3_1 (wrap64 (x4_1 + 1))) else (some 2))) else (none)) else (none)) = some r := by first | (rw [hji11] at H; exact H) | (simp only [hji11] at H ⊢; exact H)
                  (try rw [hji11] at A6)
                  have hji11w : (IntKind.i64.wrap (x4_1 - 1)) = ji11 := (i64_w _).trans hji11
                  by_cases c12 : 0 ≤ (ji11)
                  · rw [if_pos c12] at H
                    have c12b0 : decide (0 ≤ (ji11)) = true := decide_eq_true c12
                    clear c12
                    by_cases c13 : (ji11) < (a0.size : Int)
                    · rw [if_pos c13] at H
                      have c13b0 : decide ((ji11) < (a0.size : Int)) = true := decide_eq_true c13
                      clear c13
                      replace H := Option.bind_eq_some_iff.mp H
                      obtain ⟨t180, A150, H⟩ := H
                      replace H : (if t180 = true then (ancepsref04_Marked.l0 k1 a0 x3_1 (wrap64 (x4_1 + 1))) else (some 2)) = some r := H
                      have A15 := Aside0.mk A150
                      clear A150
                      by_cases c16 : t180 = true
                      · subst c16
                        have H1 : (ancepsref04_Marked.l0 k1 a0 x3_1 (wrap64 (x4_1 + 1))) = some r := by rw [if_pos rfl] at H; exact H
                        clear H
                        have H := H1
                        clear H1
                        have H' := Aside0.mk H
                        clear H
                        have p5 : 0 ≤ (x4_1 : Int) := of_decide_eq_true (by first | (with_reducible assumption) | assumption)
                        have q5 : x4_1 < (a0.size : Int) := of_decide_eq_true (by first | (with_reducible assumption) | assumption)
                        have hx5 := bt_at a0 x4_1
                        replace p5 := eq_true p5
                        replace q5 := eq_true q5
                        go_wp2_with (first | ((with_reducible refine gate_callee (f := 25) rfl ?_); refine goesL_ (some 17) rfl rfl Tryd.func25 (by kernel_rfl) rfl #[.int .u8 (bt a0 x4_1)] rfl (by (try simp only [List.map_toArray, List.map_cons, List.map_nil]); first | done | rfl | (simp only [List.length_drop, List.length_take]; rfl)) ?_; (with_reducible refine (ancepsref04_Is.calls (bt a0 x4_1) false _ A6.out).mono ?_); rintro e w' ⟨rfl, ⟨nd, rfl⟩⟩; refine ⟨_, rfl, ?_⟩; have p8 : 0 ≤ (x4_1 : Int) := of_decide_eq_true (by first | (with_reducible assumption) | assumption); have q8 : x4_1 < (a0.size : Int) := of_decide_eq_true (by first | (with_reducible assumption) | assumption); have hx8 := bt_at a0 x4_1; replace p8 := eq_true p8; replace q8 := eq_true q8; have p14 : 0 ≤ ((ji11) : Int) := of_decide_eq_true (by first | (with_reducible assumption) | assumption); have q14 : (ji11) < (a0.size : Int) := of_decide_eq_true (by first | (with_reducible assumption) | assumption); have hx14 := bt_at a0 (ji11); replace p14 := eq_true p14; replace q14 := eq_true q14) | (go_at_call 25; (with_reducible refine (ancepsref04_Is.calls (bt a0 (ji11)) true _ A15.out).mono ?_); rintro e w' ⟨rfl, ⟨nd, rfl⟩⟩))
                        go_roundg k1
                        case measure => have := HK1.out; omega
                        case rel => exact ⟨(x3_1), (wrap64 (x4_1 + 1)), (by first | rfl | (simp; done) | (simp [*]; done)), (by first | rfl | (simp; done) | (simp [*]; done)), H', ⟨by have := HK1.out; omega⟩, by repeat (first | exact Drawn0.refl _ | apply Drawn0.step)⟩
                      · replace c16 := Bool.eq_false_iff.mpr c16
                        subst c16
                        have H1 : (some 2) = some r := by rw [if_neg (show ¬ (false = true) by decide)] at H; exact H
                        clear H
                        have H := H1
                        clear H1
                        obtain rfl := Option.some.inj H
                        have p5 : 0 ≤ (x4_1 : Int) := of_decide_eq_true (by first | (with_reducible assumption) | assumption)
                        have q5 : x4_1 < (a0.size : Int) := of_decide_eq_true (by first | (with_reducible assumption) | assumption)
                        have hx5 := bt_at a0 x4_1
                        replace p5 := eq_true p5
                        replace q5 := eq_true q5
                        go_wp2_with (first | ((with_reducible refine gate_callee (f := 25) rfl ?_); refine goesL_ (some 17) rfl rfl Tryd.func25 (by kernel_rfl) rfl #[.int .u8 (bt a0 x4_1)] rfl (by (try simp only [List.map_toArray, List.map_cons, List.map_nil]); first | done | rfl | (simp only [List.length_drop, List.length_take]; rfl)) ?_; (with_reducible refine (ancepsref04_Is.calls (bt a0 x4_1) false _ A6.out).mono ?_); rintro e w' ⟨rfl, ⟨nd, rfl⟩⟩; refine ⟨_, rfl, ?_⟩; have p8 : 0 ≤ (x4_1 : Int) := of_decide_eq_true (by first | (with_reducible assumption) | assumption); have q8 : x4_1 < (a0.size : Int) := of_decide_eq_true (by first | (with_reducible assumption) | assumption); have hx8 := bt_at a0 x4_1; replace p8 := eq_true p8; replace q8 := eq_true q8; have p14 : 0 ≤ ((ji11) : Int) := of_decide_eq_true (by first | (with_reducible assumption) | assumption); have q14 : (ji11) < (a0.size : Int) := of_decide_eq_true (by first | (with_reducible assumption) | assumption); have hx14 := bt_at a0 (ji11); replace p14 := eq_true p14; replace q14 := eq_true q14) | (go_at_call 25; (with_reducible refine (ancepsref04_Is.calls (bt a0 (ji11)) false _ A15.out).mono ?_); rintro e w' ⟨rfl, ⟨nd, rfl⟩⟩))
                        go_ret
                        exact ⟨by first | rfl | (simp; done) | (simp only [← hji11] <;> (first | rfl | simp)) | (simp [*]; done), by repeat (first | exact Drawn0.refl _ | apply Drawn0.step)⟩
                    · rw [if_neg c13] at H
                      exact absurd H (by simp)
                  · rw [if_neg c12] at H
                    exact absurd H (by simp)
              · rw [if_neg c9] at H
                have c9b0 : ((bt a0 x4_1) == 46) = false := beq_eq_false_iff_ne.mpr c9
                have c9b1 : ((bt a0 x4_1) != 46) = true := bne_iff_ne.mpr c9
                obtain rfl := Option.some.inj H
                have p5 : 0 ≤ (x4_1 : Int) := of_decide_eq_true (by first | (with_reducible assumption) | assumption)
                have q5 : x4_1 < (a0.size : Int) := of_decide_eq_true (by first | (with_reducible assumption) | assumption)
                have hx5 := bt_at a0 x4_1
                replace p5 := eq_true p5
                replace q5 := eq_true q5
                go_wp2_with (first | ((with_reducible refine gate_callee (f := 25) rfl ?_); refine goesL_ (some 17) rfl rfl Tryd.func25 (by kernel_rfl) rfl #[.int .u8 (bt a0 x4_1)] rfl (by (try simp only [List.map_toArray, List.map_cons, List.map_nil]); first | done | rfl | (simp only [List.length_drop, List.length_take]; rfl)) ?_; (with_reducible refine (ancepsref04_Is.calls (bt a0 x4_1) false _ A6.out).mono ?_); rintro e w' ⟨rfl, ⟨nd, rfl⟩⟩; refine ⟨_, rfl, ?_⟩; have p8 : 0 ≤ (x4_1 : Int) := of_decide_eq_true (by first | (with_reducible assumption) | assumption); have q8 : x4_1 < (a0.size : Int) := of_decide_eq_true (by first | (with_reducible assumption) | assumption); have hx8 := bt_at a0 x4_1; replace p8 := eq_true p8; replace q8 := eq_true q8))
                go_ret
                exact ⟨by first | rfl | (simp; done) | (simp [*]; done), by repeat (first | exact Drawn0.refl _ | apply Drawn0.step)⟩
          · rw [if_neg c4] at H
            exact absurd H (by simp)
        · rw [if_neg c3] at H
          have c3b0 : decide (x4_1 < (a0.size : Int)) = false := decide_eq_false c3
          clear c3
          by_cases c17 : x3_1 > 60
          · rw [if_pos c17] at H
            have c17b0 : decide (60 < x3_1) = true := decide_eq_true c17
            clear c17
            obtain rfl := Option.some.inj H
            go_wp2
            go_ret
            exact ⟨by first | rfl | (simp; done) | (simp [*]; done), by repeat (first | exact Drawn0.refl _ | apply Drawn0.step)⟩
          · rw [if_neg c17] at H
            have c17b0 : decide (60 < x3_1) = false := decide_eq_false c17
            clear c17
            obtain rfl := Option.some.inj H
            go_wp2
            go_ret
            exact ⟨by first | rfl | (simp; done) | (simp [*]; done), by repeat (first | exact Drawn0.refl _ | apply Drawn0.step)⟩

/-! ### ancepsref04_Plain: function 6 -/
def ancepsref04_Plain.l0 : Nat → ByteArray → ByteArray → Int → Option (ByteArray × Int)
  | 0, _, _, _ => none
  | k + 1, x0, x5, x6 => if x6 < (x0.size : Int) then (if 0 ≤ x6 then (if (bt x0 x6) = 46 then (ancepsref04_Plain.l0 k x0 x5 (wrap64 (x6 + 1))) else (if x6 ≤ (wrap64 (x6 + 1)) then (if (wrap64 (x6 + 1)) ≤ (x0.size : Int) then (if x5.size + (x0.extract (x6 : Int).toNat ((wrap64 (x6 + 1)) : Int).toNat).size ≤ 9223372036854775807 then (ancepsref04_Plain.l0 k x0 (x5 ++ (x0.extract (x6 : Int).toNat ((wrap64 (x6 + 1)) : Int).toNat)) (wrap64 (x6 + 1))) else (none)) else (none)) else (none))) else (none)) else (some (x5, 0))
def ancepsref04_Plain.f (k : Nat) (a0 : ByteArray) : Option (ByteArray × Int) := (ancepsref04_Marked.f k a0).bind fun t181 => (if t181 = 0 then (ancepsref04_Plain.l0 k a0 (⟨#[]⟩ : ByteArray) 0) else (some ((⟨#[]⟩ : ByteArray), t181)))
theorem ancepsref04_Plain.mono_l : ∀ k, (∀ y0 y1 y2, LeO (ancepsref04_Plain.l0 k y0 y1 y2) (ancepsref04_Plain.l0 (k + 1) y0 y1 y2))
  | 0 => fun _ _ _ r h => by simp [ancepsref04_Plain.l0] at h
  | k + 1 => by
    have ih0 := ancepsref04_Plain.mono_l k
    · intro y0 y1 y2
      unfold ancepsref04_Plain.l0
      repeat' first
      | (with_reducible exact ih0 _ _ _)
      | (with_reducible exact ancepsref04_Marked.mono _ _)
      | (with_reducible exact LeO.refl _)
      | (with_reducible exact LeO.none _)
      | (with_reducible refine LeO.ite ?_ ?_)
      | (with_reducible refine LeO.bind ?_ (fun _ => ?_))
      | exact ih0 _ _ _
      | exact ancepsref04_Marked.mono _ _
      | exact LeO.none _
      | refine LeO.ite ?_ ?_
      | refine LeO.bind ?_ (fun _ => ?_)
theorem ancepsref04_Plain.mono : ∀ a0 k, LeO (ancepsref04_Plain.f k a0) (ancepsref04_Plain.f (k + 1) a0) := by
  intro a0 k
  have ih0 := ancepsref04_Plain.mono_l k
  unfold ancepsref04_Plain.f
  repeat' first
      | (with_reducible exact ih0 _ _ _)
      | (with_reducible exact ancepsref04_Marked.mono _ _)
      | (with_reducible exact LeO.refl _)
      | (with_reducible exact LeO.none _)
      | (with_reducible refine LeO.ite ?_ ?_)
      | (with_reducible refine LeO.bind ?_ (fun _ => ?_))
      | exact ih0 _ _ _
      | exact ancepsref04_Marked.mono _ _
      | exact LeO.none _
      | refine LeO.ite ?_ ?_
      | refine LeO.bind ?_ (fun _ => ?_)
set_option maxHeartbeats 8000000 in
set_option maxRecDepth 100000 in
theorem ancepsref04_Plain.calls (k : Nat) (a0 : ByteArray) (r1 : ByteArray) (r2 : Int) (w : World) (h : ancepsref04_Plain.f k a0 = some (r1, r2)) :
    Calls Tryd.prog 6 #[.string a0] w fun e w' => e = .returned (.tuple #[.string r1, .int .i64 r2]) ∧ Drawn0 w w' := by
  have H : ((ancepsref04_Marked.f k a0).bind fun t181 => (if t181 = 0 then (ancepsref04_Plain.l0 k a0 (⟨#[]⟩ : ByteArray) 0) else (some ((⟨#[]⟩ : ByteArray), t181)))) = some (r1, r2) := h
  clear h
  replace H := Option.bind_eq_some_iff.mp H
  obtain ⟨t181, A20, H⟩ := H
  replace H : (if t181 = 0 then (ancepsref04_Plain.l0 k a0 (⟨#[]⟩ : ByteArray) 0) else (some ((⟨#[]⟩ : ByteArray), t181))) = some (r1, r2) := H
  have A2 := Aside0.mk A20
  clear A20
  by_cases c3 : t181 = 0
  · rw [if_pos c3] at H
    have c3b0 : (t181 == 0) = true := beq_iff_eq.mpr c3
    have c3b1 : (t181 != 0) = false := bne_eq_false_iff_eq.mpr c3
    clear c3
    have H' := Aside0.mk H
    clear H
    go_enter Tryd.func6, Tryd.ntmps6
    go_wp2_with (first | ((with_reducible refine gate_callee (f := 12) rfl ?_); refine goesL_ (some 8) rfl rfl Tryd.func12 (by kernel_rfl) rfl #[.string a0] rfl (by (try simp only [List.map_toArray, List.map_cons, List.map_nil]); first | done | rfl | (simp only [List.length_drop, List.length_take]; rfl)) ?_; (with_reducible refine (ancepsref04_Marked.calls k a0 t181 _ A2.out).mono ?_); rintro e w' ⟨rfl, ⟨nd, rfl⟩⟩; refine ⟨_, rfl, ?_⟩))
    go_loopg [5, 6] k (fun kq v5 v6 w' => ∃ (x5_1 : ByteArray) (x6_1 : Int), v5 = .string x5_1 ∧ v6 = .int .i64 x6_1 ∧ Aside0 (ancepsref04_Plain.l0 kq a0 x5_1 x6_1 = some (r1, r2)) ∧ Aside0 (kq ≤ k) ∧ Drawn0 w w')
    case atStart => exact ⟨((⟨#[]⟩ : ByteArray)), (0), (by first | rfl | (simp; done) | (simp [*]; done)), (by first | rfl | (simp; done) | (simp [*]; done)), H', ⟨Nat.le_refl _⟩, by repeat (first | exact Drawn0.refl _ | apply Drawn0.step)⟩
    case round =>
      clear H'
      try clear c1
      try clear p2
      try clear c3
      try clear c3b0
      try clear c3b1
      obtain ⟨x5_1, x6_1, rfl, rfl, HA, HK1, ⟨m1, rfl⟩⟩ := hrel
      cases gk with
      | zero => exact absurd HA.out (by simp [ancepsref04_Plain.l0])
      | succ k1 =>
        have H := HA.out
        clear HA
        simp only [ancepsref04_Plain.l0] at H
        by_cases c4 : x6_1 < (a0.size : Int)
        · rw [if_pos c4] at H
          have c4b0 : decide (x6_1 < (a0.size : Int)) = true := decide_eq_true c4
          clear c4
          by_cases c5 : 0 ≤ x6_1
          · rw [if_pos c5] at H
            have c5b0 : decide (0 ≤ x6_1) = true := decide_eq_true c5
            clear c5
            by_cases c7 : (bt a0 x6_1) = 46
            · rw [if_pos c7] at H
              have c7b0 : ((bt a0 x6_1) == 46) = true := beq_iff_eq.mpr c7
              have c7b1 : ((bt a0 x6_1) != 46) = false := bne_eq_false_iff_eq.mpr c7
              clear c7
              have H' := Aside0.mk H
              clear H
              have p6 : 0 ≤ (x6_1 : Int) := of_decide_eq_true (by first | (with_reducible assumption) | assumption)
              have q6 : x6_1 < (a0.size : Int) := of_decide_eq_true (by first | (with_reducible assumption) | assumption)
              have hx6 := bt_at a0 x6_1
              replace p6 := eq_true p6
              replace q6 := eq_true q6
              go_wp2
              go_roundg k1
              case measure => have := HK1.out; omega
              case rel => exact ⟨(x5_1), (wrap64 (x6_1 + 1)), (by first | rfl | (simp; done) | (simp [*]; done)), (by first | rfl | (simp; done) | (simp [*]; done)), H', ⟨by have := HK1.out; omega⟩, by repeat (first | exact Drawn0.refl _ | apply Drawn0.step)⟩
            · rw [if_neg c7] at H
              have c7b0 : ((bt a0 x6_1) == 46) = false := beq_eq_false_iff_ne.mpr c7
              have c7b1 : ((bt a0 x6_1) != 46) = true := bne_iff_ne.mpr c7
              have c8b0 := eq_true (of_decide_eq_true (by first | (with_reducible assumption) | assumption) : 0 ≤ x6_1)
              by_cases c9 : x6_1 ≤ (wrap64 (x6_1 + 1))
              · rw [if_pos c9] at H
                have c9b0 := eq_true c9
                have c9b1 : decide (x6_1 ≤ (wrap64 (x6_1 + 1))) = true := decide_eq_true c9
                by_cases c10 : (wrap64 (x6_1 + 1)) ≤ (a0.size : Int)
                · rw [if_pos c10] at H
                  have c10b0 := eq_true c10
                  have c10b1 : decide ((wrap64 (x6_1 + 1)) ≤ (a0.size : Int)) = true := decide_eq_true c10
                  by_cases c11 : x5_1.size + (a0.extract (x6_1 : Int).toNat ((wrap64 (x6_1 + 1)) : Int).toNat).size ≤ 9223372036854775807
                  · rw [if_pos c11] at H
                    have c11b0 := eq_true c11
                    have c11b1 : decide (x5_1.size + (a0.extract (x6_1 : Int).toNat ((wrap64 (x6_1 + 1)) : Int).toNat).size ≤ 9223372036854775807) = true := decide_eq_true c11
                    try have c11b2 : (9223372036854775807 < x5_1.size + (a0.extract (x6_1 : Int).toNat ((wrap64 (x6_1 + 1)) : Int).toNat).size) = False := eq_false (Nat.not_lt.2 c11)
                    try have c11b6 : (9223372036854775807 < x5_1.size + (((wrap64 (x6_1 + 1)) : Int).toNat - (x6_1 : Int).toNat)) = False := eq_false (by have h_ := c11; (try simp only [ByteArray.size_append] at h_); (try simp only [ByteArray.size_extract] at h_); first | omega | (simp only [decide_eq_true_eq] at *; omega))
                    have H' := Aside0.mk H
                    clear H
                    have p6 : 0 ≤ (x6_1 : Int) := of_decide_eq_true (by first | (with_reducible assumption) | assumption)
                    have q6 : x6_1 < (a0.size : Int) := of_decide_eq_true (by first | (with_reducible assumption) | assumption)
                    have hx6 := bt_at a0 x6_1
                    replace p6 := eq_true p6
                    replace q6 := eq_true q6
                    go_wp2
                    go_roundg k1
                    case measure => have := HK1.out; omega
                    case rel => exact ⟨(x5_1 ++ (a0.extract (x6_1 : Int).toNat ((wrap64 (x6_1 + 1)) : Int).toNat)), (wrap64 (x6_1 + 1)), (by first | rfl | (simp; done) | (simp [*]; done)), (by first | rfl | (simp; done) | (simp [*]; done)), H', ⟨by have := HK1.out; omega⟩, by repeat (first | exact Drawn0.refl _ | apply Drawn0.step)⟩
                  · rw [if_neg c11] at H
                    exact absurd H (by simp)
                · rw [if_neg c10] at H
                  exact absurd H (by simp)
              · rw [if_neg c9] at H
                exact absurd H (by simp)
          · rw [if_neg c5] at H
            exact absurd H (by simp)
        · rw [if_neg c4] at H
          have c4b0 : decide (x6_1 < (a0.size : Int)) = false := decide_eq_false c4
          clear c4
          simp only [Option.some.injEq, Prod.mk.injEq] at H
          obtain ⟨rfl, rfl⟩ := H
          go_wp2
          go_ret2
          exact ⟨by first | rfl | (simp; done) | (simp [*]; done), by repeat (first | exact Drawn0.refl _ | apply Drawn0.step)⟩
  · rw [if_neg c3] at H
    have c3b0 : (t181 == 0) = false := beq_eq_false_iff_ne.mpr c3
    have c3b1 : (t181 != 0) = true := bne_iff_ne.mpr c3
    simp only [Option.some.injEq, Prod.mk.injEq] at H
    obtain ⟨rfl, rfl⟩ := H
    go_enter Tryd.func6, Tryd.ntmps6
    go_wp2_with (first | ((with_reducible refine gate_callee (f := 12) rfl ?_); refine goesL_ (some 8) rfl rfl Tryd.func12 (by kernel_rfl) rfl #[.string a0] rfl (by (try simp only [List.map_toArray, List.map_cons, List.map_nil]); first | done | rfl | (simp only [List.length_drop, List.length_take]; rfl)) ?_; (with_reducible refine (ancepsref04_Marked.calls k a0 t181 _ A2.out).mono ?_); rintro e w' ⟨rfl, ⟨nd, rfl⟩⟩; refine ⟨_, rfl, ?_⟩))
    go_ret2
    exact ⟨by first | rfl | (simp; done) | (simp [*]; done), by repeat (first | exact Drawn0.refl _ | apply Drawn0.step)⟩

end Go.Proofs.YtbecdafbkdchkaaDoor.X
