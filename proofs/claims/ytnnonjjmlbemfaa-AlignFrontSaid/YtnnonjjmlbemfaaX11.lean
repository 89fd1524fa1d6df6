-- printed by this session's xprint.py: out of the translation, by the kit's print with additions; Lean checks it
import Derived.Test.YtnnonjjmlbemfaaWN
import Derived.Test.YtnnonjjmlbemfaaWShare
import Derived.Test.YtnnonjjmlbemfaaX0
import Derived.Test.YtnnonjjmlbemfaaX6
import Derived.Test.YtnnonjjmlbemfaaX8
import Derived.Test.YtnnonjjmlbemfaaX10
namespace Go.Proofs.Ytnnonjjmlbemfaa.X
open Go.RowKit Go.Proofs.YtnnonjjmlbemfaaW.PrintWords Go.Proofs.YtnnonjjmlbemfaaW.PrintLast Go.Proofs.YtnnonjjmlbemfaaW.PrintMore
attribute [local go_sem] max2_int min2_int max_two min_two max_three min_three max_four min_four isSome_setCell binOp_gtr_str binOp_leq_str   -- for this text's walks alone
set_option linter.unusedVariables false
set_option linter.unusedSimpArgs false

/-! ### ancepslaw45_AlignFront: function 4 -/
/-- what the iterator of a range over a string becomes -/
def ancepslaw45_AlignFront.turn (w : World) (X : Nat) (s : ByteArray) (pos : Nat) : World := { w with heap := w.heap.setIfInBounds X (.stringIter s pos) }
theorem ancepslaw45_AlignFront.next_at {P : Program} (w : World) (X : Nat) (s : ByteArray) (pos : Nat) (ty : TypeId) (hX : w.heap[X]? = some (.stringIter s pos)) (h : pos < s.size) (ha : (s[pos]'h).toNat < 128) :
    (Instr.next (.pointer (some ⟨X, 0, none⟩)) true ty).run P w = .ok (.tuple #[.bool true, .int .i64 pos, .int .i32 (s[pos]'h).toNat]) (ancepslaw45_AlignFront.turn w X s (pos + 1)) := by
  simp only [Instr.next, getObj, setObj, Sem.run_bind, Sem.run, hX, Result.andThen, h, if_true, decode_ascii s pos h ha]
  simp [goInt, Sem.run, hX, ancepslaw45_AlignFront.turn]
theorem ancepslaw45_AlignFront.next_end {P : Program} (w : World) (X : Nat) (s : ByteArray) (pos : Nat) (ty : TypeId) (hX : w.heap[X]? = some (.stringIter s pos)) (h : ¬ pos < s.size) :
    (Instr.next (.pointer (some ⟨X, 0, none⟩)) true ty).run P w = .ok (.tuple #[.bool false]) w := by
  simp [Instr.next, getObj, Sem.run, hX, h]
theorem ancepslaw45_AlignFront.turn_heap {w : World} {X : Nat} {s : ByteArray} {pos p2 : Nat} (hX : w.heap[X]? = some (.stringIter s pos)) : (ancepslaw45_AlignFront.turn w X s p2).heap[X]? = some (.stringIter s p2) := by
  have h := (Array.getElem?_eq_some_iff.1 hX).1
  unfold ancepslaw45_AlignFront.turn
  simp [Array.getElem?_setIfInBounds, h]
theorem ancepslaw45_AlignFront.turn_below {w0 w : World} {B X : Nat} {s : ByteArray} {p2 : Nat} (h : Below B w0 w) (hX : B ≤ X) : Below B w0 (ancepslaw45_AlignFront.turn w X s p2) := by
  refine ⟨h.os, h.tape, h.output, by have := h.size; unfold ancepslaw45_AlignFront.turn; simp; exact this, fun k hk => ?_⟩
  unfold ancepslaw45_AlignFront.turn
  rw [Array.getElem?_setIfInBounds, if_neg (by omega)]
  exact h.block k hk
def ancepslaw45_AlignFront.l0 : Nat → ByteArray → ByteArray → Int → Nat → Option Bool
  | 0, _, _, _, _ => none
  | k + 1, p, q, n, i => if i < p.size then ((align_Distance.f k ((p.extract 0 i ++ (⟨#[120]⟩ : ByteArray)) ++ p.extract (i + 1) p.size) q).bind fun b => (if b.2 = 0 then (if b.1 > n then some false else ancepslaw45_AlignFront.l0 k p q n (i + 1)) else some false)) else some true
def ancepslaw45_AlignFront.m (k : Nat) (a0 a1 a2 : ByteArray) : Option Bool :=
  (align_Distance.f k a1 a2).bind fun n => (align_Distance.f k (a0 ++ a1) (a0 ++ a2)).bind fun m => if n.2 = 0 then (if m.2 = 0 then (if m.1 > n.1 then some false else (if a1.data.toList.all (fun c => decide (c.toNat < 128)) = true then ancepslaw45_AlignFront.l0 k a1 a2 n.1 0 else none)) else some false) else some false
def ancepslaw45_AlignFront.f (k : Nat) (a0 : ByteArray) (a1 : ByteArray) (a2 : ByteArray) : Option Bool :=
  (ancepslaw45_awake.f k).bind fun t => if t = true then ((ancepslaw45_short.f a1 a2).bind fun s => if s = true then (if a0.size ≤ 70 then ((ancepsref45_Given.f k (a0 ++ a1) (a0 ++ a2)).bind fun g => if g = 0 then ((ancepsref45_Given.f k a1 a2).bind fun g2 => if g2 = 0 then ancepslaw45_AlignFront.m k a0 a1 a2 else some true) else some true) else some true) else some true) else none
theorem ancepslaw45_AlignFront.mono_l : ∀ k, ∀ y0 y1 y2 y3, LeO (ancepslaw45_AlignFront.l0 k y0 y1 y2 y3) (ancepslaw45_AlignFront.l0 (k + 1) y0 y1 y2 y3)
  | 0 => fun _ _ _ _ r h => by simp [ancepslaw45_AlignFront.l0] at h
  | k + 1 => by
    have ih0 := ancepslaw45_AlignFront.mono_l k
    intro y0 y1 y2 y3
    rw [ancepslaw45_AlignFront.l0, ancepslaw45_AlignFront.l0]
    refine LeO.ite (LeO.bind (align_Distance.mono _ _ _) fun _ => LeO.ite (LeO.ite (LeO.refl _) (ih0 _ _ _ _)) (LeO.refl _)) (LeO.refl _)
theorem ancepslaw45_AlignFront.mono : ∀ a0 a1 a2 k, LeO (ancepslaw45_AlignFront.f k a0 a1 a2) (ancepslaw45_AlignFront.f (k + 1) a0 a1 a2) := by
  intro a0 a1 a2 k
  unfold ancepslaw45_AlignFront.f ancepslaw45_AlignFront.m
  refine LeO.bind (ancepslaw45_awake.mono _) fun _ => LeO.ite (LeO.bind (LeO.refl _) fun _ => LeO.ite (LeO.ite (LeO.bind (ancepsref45_Given.mono _ _ _) fun _ => LeO.ite (LeO.bind (ancepsref45_Given.mono _ _ _) fun _ => LeO.ite (LeO.bind (align_Distance.mono _ _ _) fun _ => LeO.bind (align_Distance.mono _ _ _) fun _ => LeO.ite (LeO.ite (LeO.ite (LeO.refl _) (LeO.ite (ancepslaw45_AlignFront.mono_l _ _ _ _ _) (LeO.refl _))) (LeO.refl _)) (LeO.refl _)) (LeO.refl _)) (LeO.refl _)) (LeO.refl _)) (LeO.refl _)) (LeO.refl _)
set_option pp.deepTerms true in
set_option pp.maxSteps 1000000 in
set_option maxHeartbeats 4000000 in
set_option maxRecDepth 100000 in
theorem ancepslaw45_AlignFront.calls (k : Nat) (a0 : ByteArray) (a1 : ByteArray) (a2 : ByteArray) (r : Bool) (w : World) (h : ancepslaw45_AlignFront.f k a0 a1 a2 = some r) :
    Calls Try.prog 4 #[.string a0, .string a1, .string a2] w fun e w' => e = .returned (.bool r) ∧ Below w.heap.size w w' := by
  unfold ancepslaw45_AlignFront.f at h
  obtain ⟨t, ht, h1⟩ := Option.bind_eq_some_iff.1 h
  clear h
  cases t with
  | false => rw [if_neg (by decide)] at h1; cases h1
  | true =>
    rw [if_pos rfl] at h1
    obtain ⟨s, hs, h2⟩ := Option.bind_eq_some_iff.1 h1
    clear h1
    have HA := Lib.hid (fun W => ancepslaw45_awake.calls k true W ht)
    have HS := Lib.hid (fun W => ancepslaw45_short.calls a1 a2 s W hs)
    have hsz : s = true → a1.size ≤ 70 ∧ a2.size ≤ 70 := by
      rintro rfl
      unfold ancepslaw45_short.f at hs
      by_cases h1 : (a1.size : Int) ≤ 70
      · rw [if_pos h1] at hs
        have := of_decide_eq_true (Option.some.inj hs)
        omega
      · rw [if_neg h1] at hs; cases hs
    clear ht hs
    cases s with
    | false =>
      rw [if_neg (by decide)] at h2
      obtain rfl := Option.some.inj h2
      clear h2 hsz
      go_enter Try.func4, Try.ntmps4
      go_wp2_with (fail)
      refine (HA.out _).mono ?_
      rintro e w1 ⟨rfl, hb1⟩
      have B1 := Lib.hid hb1
      clear hb1
      go_wp2_with (fail)
      refine (HS.out _).mono ?_
      rintro e w2 ⟨rfl, hd2⟩
      have B2 := Lib.hid (B1.out.trans (hd2.below.mono B1.out.size))
      clear hd2
      go_wp2_with (fail)
      refine (HA.out _).mono ?_
      rintro e w9 ⟨rfl, hb9⟩
      have B9 := Lib.hid (B2.out.trans (hb9.mono B2.out.size))
      clear hb9
      go_wp2_with (fail)
      go_ret
      exact ⟨rfl, B9.out⟩
    | true =>
      rw [if_pos rfl] at h2
      obtain ⟨s1, s2⟩ := hsz rfl
      clear hsz
      by_cases h0 : a0.size ≤ 70
      · rw [if_pos h0] at h2
        obtain ⟨g, hg, h3⟩ := Option.bind_eq_some_iff.1 h2
        clear h2
        have hn0 : decide ((70 : Int) < (a0.size : Int)) = false := decide_eq_false (by omega)
        have hn1 : decide (70 < a0.size) = false := decide_eq_false (by omega)
        have z1 : a0.size + a1.size ≤ 9223372036854775807 := by omega
        have z2 : a0.size + a2.size ≤ 9223372036854775807 := by omega
        have HG := Lib.hid (fun W => ancepsref45_Given.calls k (a0 ++ a1) (a0 ++ a2) g W hg)
        clear hg
        by_cases hg0 : g = 0
        · subst hg0
          rw [if_pos rfl] at h3
          obtain ⟨g2, hg2, h4⟩ := Option.bind_eq_some_iff.1 h3
          clear h3
          have HG2 := Lib.hid (fun W => ancepsref45_Given.calls k a1 a2 g2 W hg2)
          clear hg2
          by_cases hg20 : g2 = 0
          · subst hg20
            rw [if_pos rfl] at h4
            have HM := Lib.hid h4
            clear h4
            go_enter Try.func4, Try.ntmps4
            go_wp2_with (fail)
            refine (HA.out _).mono ?_
            rintro e w1 ⟨rfl, hb1⟩
            have B1 := Lib.hid hb1
            clear hb1
            go_wp2_with (fail)
            refine (HS.out _).mono ?_
            rintro e w2 ⟨rfl, hd2⟩
            have B2 := Lib.hid (B1.out.trans (hd2.below.mono B1.out.size))
            clear hd2
            go_wp2_with (fail)
            refine (HG.out _).mono ?_
            rintro e w3 ⟨rfl, hd3⟩
            have B3 := Lib.hid (B2.out.trans (hd3.below.mono B2.out.size))
            clear hd3
            go_wp2_with (fail)
            refine (HG2.out _).mono ?_
            rintro e w4 ⟨rfl, hd4⟩
            have B4 := Lib.hid (B3.out.trans (hd4.below.mono B3.out.size))
            clear hd4
            go_wp2_with (fail)
            have hm0 := HM.out
            unfold ancepslaw45_AlignFront.m at hm0
            obtain ⟨⟨n, e1⟩, hn, h5⟩ := Option.bind_eq_some_iff.1 hm0
            obtain ⟨⟨m, e2⟩, hm, h6⟩ := Option.bind_eq_some_iff.1 h5
            have HN := Lib.hid (fun W => align_Distance.calls k a1 a2 n e1 W hn)
            have HM2 := Lib.hid (fun W => align_Distance.calls k (a0 ++ a1) (a0 ++ a2) m e2 W hm)
            have H6 := Lib.hid (show (if e1 = 0 then (if e2 = 0 then (if m > n then some false else (if a1.data.toList.all (fun c => decide (c.toNat < 128)) = true then ancepslaw45_AlignFront.l0 k a1 a2 n 0 else none)) else some false) else some false) = some r from h6)
            clear hm0 hn h5 hm h6 HM
            refine (HN.out _).mono ?_
            (first | rintro e w5 rfl hb5 | rintro e w5 ⟨rfl, hb5⟩)
            have B5 := Lib.hid (B4.out.trans (hb5.mono B4.out.size))
            clear hb5
            go_wp2_with (fail)
            refine (HM2.out _).mono ?_
            (first | rintro e w6 rfl hb6 | rintro e w6 ⟨rfl, hb6⟩)
            have B6 := Lib.hid (B5.out.trans (hb6.mono B5.out.size))
            clear hb6
            by_cases q1 : e1 = 0
            · subst q1
              by_cases q2 : e2 = 0
              · subst q2
                by_cases q3 : m > n
                · have hr := H6.out
                  rw [if_pos rfl, if_pos rfl, if_pos q3] at hr
                  obtain rfl := Option.some.inj hr
                  have b3 : decide (n < m) = true := decide_eq_true q3
                  clear hr q3
                  go_wp2
                  go_ret
                  exact ⟨rfl, B6.out⟩
                · have hr := H6.out
                  rw [if_pos rfl, if_pos rfl, if_neg q3] at hr
                  have b3 : decide (n < m) = false := decide_eq_false q3
                  clear q3
                  by_cases q4 : a1.data.toList.all (fun c => decide (c.toNat < 128)) = true
                  · rw [if_pos q4] at hr
                    have HL := Lib.hid hr
                    have hasc : ∀ i, (h : i < a1.size) → (a1[i]'h).toNat < 128 := by
                      intro i h
                      have := List.all_eq_true.1 q4 (a1[i]'h) (by exact Array.getElem_mem_toList ..)
                      exact of_decide_eq_true this
                    have HASC := Lib.hid hasc
                    clear hr q4 hasc
                    have hrg : ∀ W : World, (Instr.range 9 (.string a1)).run Try.prog W = .ok (.pointer (some ⟨W.heap.size, 0, none⟩)) (W.iter a1 0) := fun W => run_range_string W 9 a1 Try.underlying9
                    have x6 := World.iter_heap w6 a1 0
                    have X6 := Lib.hid x6
                    have B7 := Lib.hid (B6.out.trans (show Below w.heap.size w6 (w6.iter a1 0) from (Below.refl _ _).alloc B6.out.size _))
                    clear x6
                    go_wp2_with (fail)
                    go_loopg [] k (fun kq wr => ∃ (i : Nat), Hid (ancepslaw45_AlignFront.l0 kq a1 a2 n i = some r) ∧ Hid (kq ≤ k) ∧ Hid (wr.heap[w6.heap.size]? = some (.stringIter a1 i)) ∧ Hid (Below w.heap.size w wr))
                    case atStart => exact ⟨0, HL, Lib.hid (Nat.le_refl _), X6, B7⟩
                    case round =>
                      obtain ⟨i, HA1, HK, HX, HB⟩ := hrel
                      clear B7 X6
                      cases gk with
                      | zero => exact absurd HA1.out (by simp [ancepslaw45_AlignFront.l0])
                      | succ k1 =>
                        have H := HA1.out
                        clear HA1
                        rw [ancepslaw45_AlignFront.l0] at H
                        by_cases hlt : i < a1.size
                        · rw [if_pos hlt] at H
                          obtain ⟨⟨c, e3⟩, hc, H2⟩ := Option.bind_eq_some_iff.1 H
                          have hnx := fun ty => ancepslaw45_AlignFront.next_at (P := Try.prog) wr w6.heap.size a1 i ty HX.out hlt (HASC.out i hlt)
                          have bt := ancepslaw45_AlignFront.turn_below (X := w6.heap.size) (s := a1) (p2 := i + 1) HB.out B6.out.size
                          have xt := ancepslaw45_AlignFront.turn_heap (p2 := i + 1) HX.out
                          have HH2 := Lib.hid (show (if e3 = 0 then (if c > n then some false else ancepslaw45_AlignFront.l0 k1 a1 a2 n (i + 1)) else some false) = some r from H2)
                          have HC := Lib.hid (fun W => align_Distance.calls k1 _ a2 c e3 W hc)
                          have BT := Lib.hid bt; have XT := Lib.hid xt
                          clear H H2 hc bt xt
                          generalize ancepslaw45_AlignFront.turn wr w6.heap.size a1 (i + 1) = wt at hnx BT XT
                          go_wp2_with (fail)
                          have y0 : 0 ≤ (i : Int) := by omega
                          have y1 : (i : Int) ≤ a1.size := by omega
                          have y2 : (i : Int) + 1 ≤ a1.size := by omega
                          have y4 : ((i : Int) + 1).toNat = i + 1 := by omega
                          have y5 : 0 ≤ (i : Int) + 1 := by omega
                          have u1 : (9223372036854775807 < min i a1.size + 1) = False := eq_false (by omega)
                          have u2 : (9223372036854775807 < i + 1) = False := eq_false (by omega)
                          have u3 : (9223372036854775807 < min i a1.size + 1 + (a1.size - (i + 1))) = False := eq_false (by omega)
                          have u4 : (9223372036854775807 < i + 1 + (a1.size - (i + 1))) = False := eq_false (by omega)
                          have y3 : wrap64 ((i : Int) + 1) = (i : Int) + 1 := by unfold wrap64; omega
                          have bt2 : Below w.heap.size w wt.drew := below_drew1 BT.out
                          have BT2 := Lib.hid bt2
                          have XT2 := Lib.hid (show wt.drew.heap[w6.heap.size]? = some (.stringIter a1 (i + 1)) from XT.out)
                          clear bt2 BT XT
                          refine start_ (n := 16) (S := fun _ => True) (ds := []) #[false, false, false, false, false, false, false, false, false, false, false, false, false, false, false, false] (by kernel_rfl) rfl rfl trivial (fun hHeld => ?_)
                          generalize wt.drew = w7 at BT2 XT2 hHeld ⊢
                          refine pure_ (i := 0) (N := some 77) (v := ?_) (a' := ?_) #[true, false, false, false, false, false, false, false, false, false, false, false, false, false, false, false] rfl rfl (by kernel_rfl) (fun _ _ _ h => h) (Or.inl ⟨by rfl, ?_⟩) ?_ ?_
                          rotate_left
                          · intro w'
                            go_simp
                            with_reducible rfl
                          rotate_left
                          · simp only [Act.put, List.setIfInBounds_toArray, List.set_cons_zero, List.set_cons_succ, i64_w, i32_w]
                            rfl
                          refine pure_ (i := 1) (N := some 78) (v := ?_) (a' := ?_) #[true, true, false, false, false, false, false, false, false, false, false, false, false, false, false, false] rfl rfl (by kernel_rfl) (fun _ _ _ h => h) (Or.inl ⟨by rfl, ?_⟩) ?_ ?_
                          rotate_left
                          · intro w'
                            go_simp
                            with_reducible rfl
                          rotate_left
                          · simp only [Act.put, List.setIfInBounds_toArray, List.set_cons_zero, List.set_cons_succ, i64_w, i32_w]
                            rfl
                          refine pure_ (i := 2) (N := some 79) (v := ?_) (a' := ?_) #[true, true, true, false, false, false, false, false, false, false, false, false, false, false, false, false] rfl rfl (by kernel_rfl) (fun _ _ _ h => h) (Or.inl ⟨by rfl, ?_⟩) ?_ ?_
                          rotate_left
                          · intro w'
                            go_simp
                            with_reducible rfl
                          rotate_left
                          · simp only [Act.put, List.setIfInBounds_toArray, List.set_cons_zero, List.set_cons_succ, i64_w, i32_w]
                            rfl
                          refine pure_ (i := 3) (N := some 80) (v := ?_) (a' := ?_) #[true, true, true, true, false, false, false, false, false, false, false, false, false, false, false, false] rfl rfl (by kernel_rfl) (fun _ _ _ h => h) (Or.inl ⟨by rfl, ?_⟩) ?_ ?_
                          rotate_left
                          · intro w'
                            go_simp
                            with_reducible rfl
                          rotate_left
                          · simp only [Act.put, List.setIfInBounds_toArray, List.set_cons_zero, List.set_cons_succ, i64_w, i32_w]
                            rfl
                          refine pure_ (i := 4) (N := some 81) (v := ?_) (a' := ?_) #[true, true, true, true, true, false, false, false, false, false, false, false, false, false, false, false] rfl rfl (by kernel_rfl) (fun _ _ _ h => h) (Or.inl ⟨by rfl, ?_⟩) ?_ ?_
                          rotate_left
                          · intro w'
                            go_simp
                            with_reducible rfl
                          rotate_left
                          · simp only [Act.put, List.setIfInBounds_toArray, List.set_cons_zero, List.set_cons_succ, i64_w, i32_w]
                            rfl
                          refine pure_ (i := 5) (N := some 82) (v := ?_) (a' := ?_) #[true, true, true, true, true, true, false, false, false, false, false, false, false, false, false, false] rfl rfl (by kernel_rfl) (fun _ _ _ h => h) (Or.inl ⟨by rfl, ?_⟩) ?_ ?_
                          rotate_left
                          · intro w'
                            go_simp
                            with_reducible rfl
                          rotate_left
                          · simp only [Act.put, List.setIfInBounds_toArray, List.set_cons_zero, List.set_cons_succ, i64_w, i32_w]
                            rfl
                          refine pure_ (i := 6) (N := some 83) (v := ?_) (a' := ?_) #[true, true, true, true, true, true, true, false, false, false, false, false, false, false, false, false] rfl rfl (by kernel_rfl) (fun _ _ _ h => h) (Or.inl ⟨by rfl, ?_⟩) ?_ ?_
                          rotate_left
                          · intro w'
                            go_simp
                            with_reducible rfl
                          rotate_left
                          · simp only [Act.put, List.setIfInBounds_toArray, List.set_cons_zero, List.set_cons_succ, i64_w, i32_w]
                            rfl
                          refine pure_ (i := 7) (N := some 84) (v := ?_) (a' := ?_) #[true, true, true, true, true, true, true, true, false, false, false, false, false, false, false, false] rfl rfl (by kernel_rfl) (fun _ _ _ h => h) (Or.inl ⟨by rfl, ?_⟩) ?_ ?_
                          rotate_left
                          · intro w'
                            go_simp
                            with_reducible rfl
                          rotate_left
                          · simp only [Act.put, List.setIfInBounds_toArray, List.set_cons_zero, List.set_cons_succ, i64_w, i32_w]
                            rfl
                          refine pure_ (i := 8) (N := some 85) (v := ?_) (a' := ?_) #[true, true, true, true, true, true, true, true, true, false, false, false, false, false, false, false] rfl rfl (by kernel_rfl) (fun _ _ _ h => h) (Or.inl ⟨by rfl, ?_⟩) ?_ ?_
                          rotate_left
                          · intro w'
                            go_simp
                            with_reducible rfl
                          rotate_left
                          · simp only [Act.put, List.setIfInBounds_toArray, List.set_cons_zero, List.set_cons_succ, i64_w, i32_w]
                            rfl
                          refine pure_ (i := 9) (N := some 86) (v := ?_) (a' := ?_) #[true, true, true, true, true, true, true, true, true, true, false, false, false, false, false, false] rfl rfl (by kernel_rfl) (fun _ _ _ h => h) (Or.inl ⟨by rfl, ?_⟩) ?_ ?_
                          rotate_left
                          · intro w'
                            go_simp
                            with_reducible rfl
                          rotate_left
                          · simp only [Act.put, List.setIfInBounds_toArray, List.set_cons_zero, List.set_cons_succ, i64_w, i32_w]
                            rfl
                          refine one_ (i := 10) (N := some 87) #[true, true, true, true, true, true, true, true, true, true, true, false, false, false, false, false] rfl rfl (by kernel_rfl) (by decide) (fun K hK => ?_)
                          refine goes_ Try.func13 (by kernel_rfl) rfl #[.string ((a1.extract 0 i ++ (⟨#[120]⟩ : ByteArray)) ++ a1.extract (i + 1) a1.size), .string a2] (by rfl) rfl rfl (by (try simp only [List.map_toArray, List.map_cons, List.map_nil]); first | done | rfl) ?_
                          refine (HC.out _).mono ?_
                          rintro e w8 ⟨rfl, hb8⟩
                          refine ⟨_, rfl, ?_⟩
                          have B8 := Lib.hid (BT2.out.trans (hb8.mono BT2.out.size))
                          have X8 := Lib.hid ((hb8.block _ (Array.getElem?_eq_some_iff.1 XT2.out).1).trans XT2.out)
                          refine hK.out _ _ trivial (fun hHeld => ?_)
                          clear hK K hb8 u1 u2 u3 u4 y3
                          refine norm_ (a' := ?_) ?_ ?_
                          rotate_left
                          · show Act.put _ (some 87) _ = _
                            simp only [Act.put, List.setIfInBounds_toArray, List.set_cons_zero, List.set_cons_succ, i64_w, i32_w]
                            rfl
                          refine pure_ (i := 11) (N := some 76) (v := ?_) (a' := ?_) #[true, true, true, true, true, true, true, true, true, true, true, true, false, false, false, false] rfl rfl (by kernel_rfl) (fun _ _ _ h => h) (Or.inl ⟨by rfl, ?_⟩) ?_ ?_
                          rotate_left
                          · intro w'
                            go_simp
                            with_reducible rfl
                          rotate_left
                          · simp only [Act.put, List.setIfInBounds_toArray, List.set_cons_zero, List.set_cons_succ, i64_w, i32_w]
                            rfl
                          refine pure_ (i := 12) (N := some 88) (v := ?_) (a' := ?_) #[true, true, true, true, true, true, true, true, true, true, true, true, true, false, false, false] rfl rfl (by kernel_rfl) (fun _ _ _ h => h) (Or.inl ⟨by rfl, ?_⟩) ?_ ?_
                          rotate_left
                          · intro w'
                            go_simp
                            with_reducible rfl
                          rotate_left
                          · simp only [Act.put, List.setIfInBounds_toArray, List.set_cons_zero, List.set_cons_succ, i64_w, i32_w]
                            rfl
                          refine pure_ (i := 13) (N := some 89) (v := ?_) (a' := ?_) #[true, true, true, true, true, true, true, true, true, true, true, true, true, true, false, false] rfl rfl (by kernel_rfl) (fun _ _ _ h => h) (Or.inl ⟨by rfl, ?_⟩) ?_ ?_
                          rotate_left
                          · intro w'
                            go_simp
                            with_reducible rfl
                          rotate_left
                          · simp only [Act.put, List.setIfInBounds_toArray, List.set_cons_zero, List.set_cons_succ, i64_w, i32_w]
                            rfl
                          refine pure_ (i := 14) (N := some 12) (v := ?_) (a' := ?_) #[true, true, true, true, true, true, true, true, true, true, true, true, true, true, true, false] rfl rfl (by kernel_rfl) (fun _ _ _ h => h) (Or.inl ⟨by rfl, ?_⟩) ?_ ?_
                          rotate_left
                          · intro w'
                            go_simp
                            with_reducible rfl
                          rotate_left
                          · simp only [Act.put, List.setIfInBounds_toArray, List.set_cons_zero, List.set_cons_succ, i64_w, i32_w]
                            rfl
                          refine pure_ (i := 15) (N := some 13) (v := ?_) (a' := ?_) #[true, true, true, true, true, true, true, true, true, true, true, true, true, true, true, true] rfl rfl (by kernel_rfl) (fun _ _ _ h => h) (Or.inl ⟨by rfl, ?_⟩) ?_ ?_
                          rotate_left
                          · intro w'
                            go_simp
                            with_reducible rfl
                          rotate_left
                          · simp only [Act.put, List.setIfInBounds_toArray, List.set_cons_zero, List.set_cons_succ, i64_w, i32_w]
                            rfl
                          refine done_ (by kernel_rfl) ?_
                          by_cases q5 : e3 = 0
                          · subst q5
                            by_cases q6 : c > n
                            · have hr := HH2.out
                              rw [if_pos rfl, if_pos q6] at hr
                              obtain rfl := Option.some.inj hr
                              have b3 : decide (n < c) = true := decide_eq_true q6
                              clear hr q6
                              go_wp2
                              go_ret
                              exact ⟨rfl, B8.out⟩
                            · have hr := HH2.out
                              rw [if_pos rfl, if_neg q6] at hr
                              have b3 : decide (n < c) = false := decide_eq_false q6
                              have HR := Lib.hid hr
                              clear q6 hr
                              go_wp2
                              go_roundg k1
                              case measure => have := HK.out; omega
                              case rel => exact ⟨i + 1, HR, Lib.hid (by have := HK.out; omega), X8, B8⟩
                          · have hr := HH2.out
                            rw [if_neg q5] at hr
                            obtain rfl := Option.some.inj hr
                            have b2 : (e3 != 0) = true := by simpa using q5
                            have b2' : (e3 == 0) = false := by simpa using q5
                            clear hr
                            go_wp2
                            go_ret
                            exact ⟨rfl, B8.out⟩
                        · rw [if_neg hlt] at H
                          obtain rfl := Option.some.inj H
                          have hnx := fun ty => ancepslaw45_AlignFront.next_end (P := Try.prog) wr w6.heap.size a1 i ty HX.out hlt
                          clear H
                          go_wp2
                          go_ret
                          exact ⟨rfl, HB.out⟩
                  · rw [if_neg q4] at hr; cases hr
              · have hr := H6.out
                rw [if_pos rfl, if_neg q2] at hr
                obtain rfl := Option.some.inj hr
                have b2 : (e2 != 0) = true := by simpa using q2
                have b2' : (e2 == 0) = false := by simpa using q2
                clear hr
                go_wp2
                go_ret
                exact ⟨rfl, B6.out⟩
            · have hr := H6.out
              rw [if_neg q1] at hr
              obtain rfl := Option.some.inj hr
              have b2 : (e1 != 0) = true := by simpa using q1
              have b2' : (e1 == 0) = false := by simpa using q1
              clear hr
              go_wp2
              go_ret
              exact ⟨rfl, B6.out⟩
          · rw [if_neg hg20] at h4
            obtain rfl := Option.some.inj h4
            clear h4
            have b0 : (g2 == 0) = false := by simpa using hg20
            have b1 : (g2 != 0) = true := by simpa using hg20
            go_enter Try.func4, Try.ntmps4
            go_wp2_with (fail)
            refine (HA.out _).mono ?_
            rintro e w1 ⟨rfl, hb1⟩
            have B1 := Lib.hid hb1
            clear hb1
            go_wp2_with (fail)
            refine (HS.out _).mono ?_
            rintro e w2 ⟨rfl, hd2⟩
            have B2 := Lib.hid (B1.out.trans (hd2.below.mono B1.out.size))
            clear hd2
            go_wp2_with (fail)
            refine (HG.out _).mono ?_
            rintro e w3 ⟨rfl, hd3⟩
            have B3 := Lib.hid (B2.out.trans (hd3.below.mono B2.out.size))
            clear hd3
            go_wp2_with (fail)
            refine (HG2.out _).mono ?_
            rintro e w4 ⟨rfl, hd4⟩
            have B4 := Lib.hid (B3.out.trans (hd4.below.mono B3.out.size))
            clear hd4
            go_wp2_with (fail)
            refine (HA.out _).mono ?_
            rintro e w9 ⟨rfl, hb9⟩
            have B9 := Lib.hid (B4.out.trans (hb9.mono B4.out.size))
            clear hb9
            go_wp2_with (fail)
            go_ret
            exact ⟨rfl, B9.out⟩
        · rw [if_neg hg0] at h3
          obtain rfl := Option.some.inj h3
          clear h3
          have b0 : (g == 0) = false := by simpa using hg0
          have b1 : (g != 0) = true := by simpa using hg0
          go_enter Try.func4, Try.ntmps4
          go_wp2_with (fail)
          refine (HA.out _).mono ?_
          rintro e w1 ⟨rfl, hb1⟩
          have B1 := Lib.hid hb1
          clear hb1
          go_wp2_with (fail)
          refine (HS.out _).mono ?_
          rintro e w2 ⟨rfl, hd2⟩
          have B2 := Lib.hid (B1.out.trans (hd2.below.mono B1.out.size))
          clear hd2
          go_wp2_with (fail)
          refine (HG.out _).mono ?_
          rintro e w3 ⟨rfl, hd3⟩
          have B3 := Lib.hid (B2.out.trans (hd3.below.mono B2.out.size))
          clear hd3
          go_wp2_with (fail)
          refine (HA.out _).mono ?_
          rintro e w9 ⟨rfl, hb9⟩
          have B9 := Lib.hid (B3.out.trans (hb9.mono B3.out.size))
          clear hb9
          go_wp2_with (fail)
          go_ret
          exact ⟨rfl, B9.out⟩
      · rw [if_neg h0] at h2
        obtain rfl := Option.some.inj h2
        clear h2
        have hn0 : decide ((70 : Int) < (a0.size : Int)) = true := decide_eq_true (by omega)
        have hn1 : decide (70 < a0.size) = true := decide_eq_true (by omega)
        go_enter Try.func4, Try.ntmps4
        go_wp2_with (fail)
        refine (HA.out _).mono ?_
        rintro e w1 ⟨rfl, hb1⟩
        have B1 := Lib.hid hb1
        clear hb1
        go_wp2_with (fail)
        refine (HS.out _).mono ?_
        rintro e w2 ⟨rfl, hd2⟩
        have B2 := Lib.hid (B1.out.trans (hd2.below.mono B1.out.size))
        clear hd2
        go_wp2_with (fail)
        refine (HA.out _).mono ?_
        rintro e w9 ⟨rfl, hb9⟩
        have B9 := Lib.hid (B2.out.trans (hb9.mono B2.out.size))
        clear hb9
        go_wp2_with (fail)
        go_ret
        exact ⟨rfl, B9.out⟩
/-- THE ONE PURE STATEMENT of ancepslaw45_AlignFront: yours. -/
def ancepslaw45_AlignFront.Pure : Prop := ∀ (a0 : ByteArray) (a1 : ByteArray) (a2 : ByteArray), a0.size ≤ 140737488351232 → a1.size ≤ 140737488351232 → a2.size ≤ 140737488351232 → ∃ k, ancepslaw45_AlignFront.f k a0 a1 a2 = some true
theorem ancepslaw45_AlignFront.walk (P : ancepslaw45_AlignFront.Pure) (a0 : ByteArray) (a1 : ByteArray) (a2 : ByteArray) (w : World) (w0 : a0.size ≤ 140737488351232) (w1 : a1.size ≤ 140737488351232) (w2 : a2.size ≤ 140737488351232) :
    Calls Try.prog 4 #[.string a0, .string a1, .string a2] w fun e w' => e = .returned (.bool true) ∧ Below w.heap.size w w' := by
  obtain ⟨k, h⟩ := P a0 a1 a2 w0 w1 w2
  refine (ancepslaw45_AlignFront.calls k a0 a1 a2 true w h).mono ?_
  rintro e w' ⟨rfl, hd⟩
  exact ⟨rfl, hd⟩

end Go.Proofs.Ytnnonjjmlbemfaa.X
