-- and more
-- shortened
-- thinned
-- halved indents
-- printed by this session's xprint.py: out of the translation, by the kit's print with additions; Lean checks it
import Derived.Test.YtmjigfoldeekmaaXE
import Derived.Test.YtmjigfoldeekmaaXD
import Derived.Test.YtmjigfoldeekmaaWN
import Derived.Test.YtmjigfoldeekmaaWShare
import Derived.Test.YtmjigfoldeekmaaWRepsOne
import Derived.Test.YtmjigfoldeekmaaWGuard
import Derived.Test.YtmjigfoldeekmaaX0
import Derived.Test.YtmjigfoldeekmaaX3
import Derived.Test.YtmjigfoldeekmaaX5
import Derived.Test.YtmjigfoldeekmaaX6
import Derived.Test.YtmjigfoldeekmaaXA
namespace Go.Proofs.Ytmjigfoldeekmaa.X
open Go.RowKit Go.Proofs.YtmjigfoldeekmaaW.PrintWords Go.Proofs.YtmjigfoldeekmaaW.PrintLast Go.Proofs.YtmjigfoldeekmaaW.PrintMore
attribute [local go_sem] max2_int min2_int max_two min_two max_three min_three max_four min_four isSome_setCell binOp_gtr_str binOp_leq_str binOp_geq_str   -- for this text's walks alone
set_option linter.unusedVariables false
set_option linter.unusedSimpArgs false

/-! ### apparatus_put: function 47 -/
def apparatus_put.i0 : Nat → List S67 → ByteArray → Int → Int → Option (List S67)
 | 0, _, _, _, _ => none
 | k + 1, l, s, n, i => if i < (l.length : Int) then (if 0 ≤ i then (if (rd_T67 l i).f0.toList = s.toList then some (l.set i.toNat ⟨(rd_T67 l i).f0, Go.bits .or .i64 (rd_T67 l i).f1 (shl .i64 1 n)⟩) else apparatus_put.i0 k l s n (wrap64 (i + 1))) else none) else (if l.length ≤ 1000000 then some (l ++ [⟨s, shl .i64 1 n⟩]) else none)
def apparatus_put.f (k : Nat) (t : ByteArray) (l : List S67) (s : ByteArray) (n : Int) : Option (List S67) := if 0 ≤ n ∧ n ≤ 62 then (if s.toList = t.toList then some l else apparatus_put.i0 k l s n 0) else none
theorem apparatus_put.mono_i : ∀ k y0 y1 y2 y3, LeO (apparatus_put.i0 k y0 y1 y2 y3) (apparatus_put.i0 (k + 1) y0 y1 y2 y3)
 | 0 => fun _ _ _ _ r h => by simp [apparatus_put.i0] at h
 | k + 1 => by
  have ih := apparatus_put.mono_i k
  intro y0 y1 y2 y3
  rw [apparatus_put.i0, apparatus_put.i0]
  exact LeO.ite (LeO.ite (LeO.ite (LeO.refl _) (ih _ _ _ _)) (LeO.refl _)) (LeO.refl _)
theorem apparatus_put.mono : ∀ a0 a1 a2 a3 k, LeO (apparatus_put.f k a0 a1 a2 a3) (apparatus_put.f (k + 1) a0 a1 a2 a3) := by
 intro a0 a1 a2 a3 k
 unfold apparatus_put.f
 exact LeO.ite (LeO.ite (LeO.refl _) (apparatus_put.mono_i _ _ _ _ _)) (LeO.refl _)
set_option maxHeartbeats 4000000 in
set_option maxRecDepth 100000 in
theorem apparatus_put.calls (k : Nat) (X : Nat) (t : ByteArray) (v : Value) (l : List S67) (s : ByteArray) (n : Int) (r : List S67) (ok : Nat → Prop) (w0 w : World) (hX : w.heap[X]? = some (.cells #[.string t, v] 65 (0, 0))) (hXB : w0.heap.size ≤ X) (hok : ¬ ok X) (hR : Kd.R k67 67 w w0.heap.size ok v l) (hB : Below w0.heap.size w0 w) (h : apparatus_put.f k t l s n = some r) :
  Calls Try.prog 47 #[.pointer (some ⟨X, 0, none⟩), .string s, .int .i64 n] w fun e w' => e = .returned (.tuple #[]) ∧ ∃ v', w'.heap[X]? = some (.cells #[.string t, v'] 65 (0, 0)) ∧ Kd.R k67 67 w' w0.heap.size (fun q => ok q ∨ w.heap.size ≤ q) v' r ∧ Kept w w' (fun q => q = X ∨ ok q) ∧ Below w0.heap.size w0 w' := by
 have hu65 := Try.underlying65
 have hu67 := Try.underlying67
 obtain ⟨A0, cv, rfl⟩ := Kd.R_slice hR
 unfold apparatus_put.f at h
 by_cases c0 : 0 ≤ n ∧ n ≤ 62
 ·rw [if_pos c0] at h
  have HX := Lib.hid hX; have HXB := Lib.hid hXB; have HOK := Lib.hid hok; have HR := Lib.hid hR; have HB := Lib.hid hB; have HH := Lib.hid h; have HN := Lib.hid c0
  clear hX hXB hok hR hB h c0
  have hc0 := (blk_cell HX.out 0).trans (show _ = some (Value.string t) from rfl)
  have hh := HH.out
  clear HH
  by_cases c1 : s.toList = t.toList
  ·rw [if_pos c1] at hh
   obtain rfl := Option.some.inj hh
   have b1 : (s.toList == t.toList) = true := beq_iff_eq.2 c1
   clear hh c1
   go_enter Try.func47, Try.ntmps47
   go_wp2_with (fail)
   exact bodyPost_ret (v := .tuple #[]) (by simp [results, Try.results47, go_sem]) rfl ⟨rfl, _, HX.out, Kd.R_mono HR.out (fun _ h => Or.inl h), Kept.refl _ _, HB.out⟩
  ·rw [if_neg c1] at hh
   have b1 : (s.toList == t.toList) = false := beq_eq_false_iff_ne.2 c1
   have HL := Lib.hid hh
   clear hh c1
   have hc1 := (blk_cell HX.out 1).trans (show _ = some (Value.slice A0 l.length cv) from rfl)
   go_enter Try.func47, Try.ntmps47
   go_wp2_with (fail)
   go_loopg [18] k (fun kq v18 wr => ∃ (i : Int), v18 = .int .i64 i ∧ Hid (apparatus_put.i0 kq l s n i = some r) ∧ Hid (kq ≤ k) ∧ Hid (wr = w))
   case atStart => exact ⟨0, rfl, HL, Lib.hid (Nat.le_refl _), Lib.hid rfl⟩
   case round =>
    clear HL
    obtain ⟨i, rfl, HA, HK, HW⟩ := hrel
    obtain rfl := HW.out
    cases gk with
    | zero => exact absurd HA.out (by simp [apparatus_put.i0])
    | succ k1 =>
     have H := HA.out
     clear HA
     rw [apparatus_put.i0] at H
     by_cases c3 : i < (l.length : Int)
     ·rw [if_pos c3] at H
      have b3 : decide (i < (l.length : Int)) = true := decide_eq_true c3
      by_cases c4 : 0 ≤ i
      ·rw [if_pos c4] at H
       have HT := Lib.hid H; have C3 := Lib.hid c3; have C4 := Lib.hid c4
       obtain ⟨g, cg, eg, hg1, hg2, cl, hg3⟩ := Kd.R_form HR.out (by omega)
       injection eg with e1 e2 e3
       subst e1; subst e3; clear e2
       obtain ⟨ce, hcl, hM, hcc, hfr⟩ := Kd.R_elem HR.out z67 i c4 c3
       obtain rfl := k67_openM hM
       have hsz : k67.sz = 2 := rfl
       have hx0 := hcc 0 _ rfl
       have hx1 := hcc 1 _ rfl
       have hf1 := hfr 1
       rw [hsz] at hx0 hx1 hf1
       rw [Nat.add_zero] at hx0
       have GB := Lib.hid hg1
       have HPm : ∀ m : Int, Kd.R k67 67 (wr.setCell ⟨g, i.toNat * 2 + 1, none⟩ (.int .i64 m)) w0.heap.size ok (.slice (some ⟨g, 0, none⟩) l.length cv) (l.set i.toNat ⟨(rd_T67 l i).f0, m⟩) := by
        intro m
        have HP := Kd.R_seg HR.out i c4 c3 (seg := [.int .i64 m]) (j := 1) hcl hcc (Nat.le_refl 2) (x' := (⟨(rd_T67 l i).f0, m⟩ : S67)) (k67_mkM wr w0.heap.size (fun _ => False) (⟨(rd_T67 l i).f0, m⟩ : S67)) (fun _ hk => hk.elim)
        rw [hsz] at HP
        exact HP.1
       have HP := Lib.hid HPm
       clear HPm
       have NG := Lib.hid (show ok g from HR.out.1 g rfl)
       clear hM hcc hfr hcl hg1 hg2 hg3 cl
       have q1 := eq_true c3
       have q2 := eq_true c4
       clear H c3 c4
       change _ = some (Value.string (rd_T67 l i).f0) at hx0
       change _ = some (Value.int .i64 (rd_T67 l i).f1) at hx1
       generalize hs : (rd_T67 l i).f0 = u at hx0 hx1 HT HP
       generalize hy : (rd_T67 l i).f1 = y at hx0 hx1 HT
       clear hs hy
       by_cases c5 : u.toList = s.toList
       ·have hT := HT.out
        rw [if_pos c5] at hT
        obtain rfl := Option.some.inj hT
        have b5 : (u.toList == s.toList) = true := beq_iff_eq.2 c5
        clear hT HT c5
        obtain ⟨sh, hsh⟩ : ∃ sh : Int, shl .i64 1 n = sh := ⟨_, rfl⟩
        have n0 := HN.out.1
        have n1 := HN.out.2
        have hshz := shl_small hsh (by show n ≤ 64; omega)
        have HSH := Lib.hid (show shl .i64 1 n = wrap64 (2 ^ n.toNat) by have h := hshz; rw [Int.one_mul, i64_w] at h; rw [hsh, ← h])
        clear hsh hshz
        go_wp2_with (fail)
        refine start_ (n := 14) (S := fun w' => w'.cell? ⟨X, 1, none⟩ = some (.slice (some ⟨g, 0, none⟩) l.length cv) ∧ w'.cell? ⟨g, i.toNat * 2 + 1, none⟩ = some (.int .i64 y)) (ds := [13]) #[false, false, false, false, false, false, false, false, false, false, false, false, false, false] (by kernel_rfl) rfl rfl ⟨hc1, hx1⟩ (fun hHeld => ?_)
        refine ph_ 0 (some 31) ?_
        refine ph_ 1 (some 32) ?_
        refine ph_ 2 (some 33) ?_
        refine th_ 3 (some 34) hHeld ?_
        refine ph_ 4 (some 35) ?_
        refine ph_ 5 (some 36) ?_
        refine ph_ 6 (some 37) ?_
        refine th_ 7 (some 38) hHeld ?_
        refine ph_ 8 (some 39) ?_
        refine ph_ 9 (some 40) ?_
        refine ph_ 10 (some 41) ?_
        refine ph_ 11 (some 42) ?_
        refine ph_ 12 (some 43) ?_
        refine last_ (i := 13) (N := none) #[true, true, true, true, true, true, true, true, true, true, true, true, true, true] rfl rfl (by kernel_rfl) (by decide) (fun K hK => ?_)
        refine skip_ (w1 := ?_) (by rfl) rfl ?_ ?_
        rotate_left
        ·go_simp
         rfl
        refine hK.out _ _ ?_
        clear hK K
        refine done_ (by kernel_rfl) ?_
        have NX : g ≠ X := fun e => HOK.out (e ▸ NG.out)
        have X5 := Lib.hid (blk_far (blk_drew HX.out) (p := ⟨g, i.toNat * 2 + 1, none⟩) NX.symm (.int .i64 (Go.bits .or .i64 y (wrap64 (2 ^ n.toNat)))))
        have B5 := Lib.hid (below_set (below_drew1 HB.out) GB.out (j := i.toNat * 2 + 1) (v := .int .i64 (Go.bits .or .i64 y (wrap64 (2 ^ n.toNat)))))
        have K5 := Lib.hid ((Kept.refl wr (fun q => q = X ∨ ok q)).drew.setCell (p := ⟨g, i.toNat * 2 + 1, none⟩) (Or.inl (Or.inr NG.out)) (.int .i64 (Go.bits .or .i64 y (wrap64 (2 ^ n.toNat)))))
        have R5 := Lib.hid (show Kd.R k67 67 ((wr.drew).setCell ⟨g, i.toNat * 2 + 1, none⟩ (.int .i64 (Go.bits .or .i64 y (wrap64 (2 ^ n.toNat))))) w0.heap.size ok _ _ from HP.out (Go.bits .or .i64 y (wrap64 (2 ^ n.toNat))))
        clear HP
        go_wp2_with (fail)
        exact bodyPost_ret (v := .tuple #[]) (by simp [results, Try.results47, go_sem]) rfl ⟨rfl, _, X5.out, by rw [HSH.out]; exact Kd.R_mono R5.out (fun _ h => Or.inl h), K5.out, B5.out⟩
       ·have hT := HT.out
        rw [if_neg c5] at hT
        have HT2 := Lib.hid hT
        have b5 : (u.toList == s.toList) = false := beq_eq_false_iff_ne.2 c5
        clear hT HT c5
        go_wp2_with (fail)
        go_roundg k1
        case measure => have := HK.out; omega
        case rel => exact ⟨wrap64 (i + 1), rfl, HT2, Lib.hid (by have := HK.out; omega), Lib.hid rfl⟩
      ·rw [if_neg c4] at H; cases H
     ·rw [if_neg c3] at H
      by_cases c4 : l.length ≤ 1000000
      ·rw [if_pos c4] at H
       obtain rfl := Option.some.inj H
       have b3 : decide (i < (l.length : Int)) = false := decide_eq_false c3
       have HLL := Lib.hid c4
       clear H c3 c4
       obtain ⟨sh, hsh⟩ : ∃ sh : Int, shl .i64 1 n = sh := ⟨_, rfl⟩
       have n0 := HN.out.1
       have n1 := HN.out.2
       have hshz := shl_small hsh (by show n ≤ 64; omega)
       have HSH := Lib.hid (show shl .i64 1 n = wrap64 (2 ^ n.toNat) by have h := hshz; rw [Int.one_mul, i64_w] at h; rw [hsh, ← h])
       clear hsh hshz
       go_wp2_with (fail)
       refine start_ (n := 14) (S := fun w' => w'.cell? ⟨X, 1, none⟩ = some (.slice A0 l.length cv)) (ds := [13]) #[false, false, false, false, false, false, false, false, false, false, false, false, false, false] (by kernel_rfl) rfl rfl hc1 (fun hHeld => ?_)
       have X8 := Lib.hid (blk_drew HX.out); have R8 := Lib.hid (Kd.R_drew HR.out); have B8 := Lib.hid (below_drew1 HB.out); have K8 := Lib.hid ((Kept.refl wr (fun q => q = X ∨ ok q)).drew)
       have Z8 := Lib.hid (show wr.heap.size = wr.drew.heap.size from rfl)
       clear HX HR HB hc0
       generalize wr.drew = w8 at X8 R8 B8 K8 Z8 hHeld ⊢
       refine ph_ 0 (some 45) ?_
       refine ph_ 1 (some 46) ?_
       refine ph_ 2 (some 47) ?_
       refine ph_ 3 (some 48) ?_
       refine th_ 4 (some 49) hHeld ?_
       refine ph_ 5 (some 50) ?_
       refine ph_ 6 (some 51) ?_
       refine ph_ 7 (some 52) ?_
       refine ph_ 8 (some 53) ?_
       refine one_ (i := 9) (N := (some 54)) #[true, true, true, true, true, true, true, true, true, true, false, false, false, false] rfl rfl (by kernel_rfl) (by decide) (fun K hK => ?_)
       refine value_ (w1 := ?_) (v := ?_) (by rfl) rfl ?_ ?_
       rotate_left 2
       ·go_simp
        constructor
        ·rfl
        ·rfl
       refine hK.out _ _ ((World.cell?_alloc_lt _ _ _ (World.block_lt_of_cell? _ _ hHeld)).trans hHeld) (fun hHeld => ?_)
       clear hK K
       refine norm_ (a' := ?_) ?_ ?_
       rotate_left
       ·show Act.put _ (some 54) _ = _
        simp only [Act.put, List.setIfInBounds_toArray, List.set_cons_zero, List.set_cons_succ, i64_w, i32_w]
        rfl
       refine one_ (i := 10) (N := (some 55)) #[true, true, true, true, true, true, true, true, true, true, true, false, false, false] rfl rfl (by kernel_rfl) (by decide) (fun K hK => ?_)
       refine Kd.R_append_step k67 (w0 := w0) w0.heap.size (by rfl) (.tmp 49) (.tmp 54) 63 67 (.agg #[.string ⟨#[]⟩, .int .i64 0]) 24 rfl Try.underlying63 info67 rfl (by decide) (by omega) (.slice A0 l.length cv) l (⟨s, (wrap64 (2 ^ n.toNat))⟩ : S67) [.string s, .int .i64 (wrap64 (2 ^ n.toNat))] (fun q => ok q ∨ w8.heap.size ≤ q) (fun _ => False) rfl rfl ?aP (fun _ hk => hk.elim) ?aF ?aO ?aB ?aS ?aL ?_
       (case aP => exact k67_mkM _ _ _ (⟨s, (wrap64 (2 ^ n.toNat))⟩ : S67))
       (case aF => exact fun q hq => Or.inr hq)
       (case aO => exact Kd.R_mono R8.out (fun _ hk => .inl hk))
       (case aB => exact B8.out)
       (case aS => exact B8.out.size)
       (case aL => have := HLL.out; omega)
       intro v1 w9 ho hb hg hat
       have hown : ∀ q, (Value.slice A0 l.length cv).ownBlock = some q → ok q := R8.out.1
       have nX : some X ≠ (Value.slice A0 l.length cv).ownBlock := fun e => HOK.out (hown X e.symm)
       have X9 := Lib.hid (blk_grown X8.out hg nX)
       have B9 := Lib.hid hb
       have K9 := Lib.hid (Kept.of_grown hg K8.out (fun q hq => Or.inl (Or.inr (hown q hq))))
       have R9 := Lib.hid ho
       have hX9 := (blk_cell X9.out 1).trans (show _ = some (Value.slice A0 l.length cv) from rfl)
       have hf9 := blk_frozen X9.out 1
       have NX := Lib.hid (show ∀ q, (ok q ∨ w8.heap.size ≤ q) → q ≠ X from fun q hq e => hq.elim (fun h => HOK.out (e ▸ h)) (fun h => by have := blk_lt X8.out; omega))
       clear hown nX hb hg hat ho X8 R8 B8 K8
       obtain ⟨A9, c9, rfl⟩ := Kd.R_slice R9.out
       rw [List.length_append, List.length_singleton] at R9 ⊢
       refine hK.out _ _ hX9 (fun hHeld => ?_)
       clear hK K
       refine norm_ (a' := ?_) ?_ ?_
       rotate_left
       ·show Act.put _ (some 55) _ = _
        simp only [Act.put, List.setIfInBounds_toArray, List.set_cons_zero, List.set_cons_succ, i64_w, i32_w]
        rfl
       refine ph_ 11 (some 56) ?_
       refine ph_ 12 (some 57) ?_
       refine last_ (i := 13) (N := none) #[true, true, true, true, true, true, true, true, true, true, true, true, true, true] rfl rfl (by kernel_rfl) (by decide) (fun K hK => ?_)
       refine skip_ (w1 := ?_) (by rfl) rfl ?_ ?_
       rotate_left
       ·go_simp
        rfl
       refine hK.out _ _ ?_
       clear hK K
       refine done_ (by kernel_rfl) ?_
       have X10 := Lib.hid (show (w9.setCell ⟨X, 1, none⟩ (.slice A9 (l.length + 1) c9)).heap[X]? = some (.cells #[.string t, .slice A9 (l.length + 1) c9] 65 (0, 0)) from blk_put (cs := #[.string t, .slice A0 l.length cv]) X9.out 1 (.slice A9 (l.length + 1) c9) rfl)
       have B10 := Lib.hid (below_set B9.out HXB.out (j := 1) (v := .slice A9 (l.length + 1) c9))
       have K10 := Lib.hid (K9.out.setCell (p := ⟨X, 1, none⟩) (Or.inl (Or.inl rfl)) (.slice A9 (l.length + 1) c9))
       have R10 := Lib.hid (Kd.R_far R9.out (p := ⟨X, 1, none⟩) NX.out (.slice A9 (l.length + 1) c9))
       clear X9 B9 K9 R9 hX9 hf9
       (try go_wp2_with (fail))
       go_end0
       exact ⟨rfl, _, X10.out, by rw [HSH.out]; exact Kd.R_mono R10.out (fun _ h => h.imp_right (fun h => by rw [Z8.out]; exact h)), K10.out, B10.out⟩
      ·rw [if_neg c4] at H; cases H
 ·rw [if_neg c0] at h; cases h

/-! ### apparatus_Collate: function 17 -/
def apparatus_Collate.rdL (xs : List (List ByteArray)) (i : Int) : List ByteArray := xs.getD i.toNat ([] : List ByteArray)
theorem apparatus_Collate.atL {w : World} {A : Option Addr} {n : Nat} {xs : List (List ByteArray)} (h : Kd.C (Kd.slice 9 Kd.string) w A n xs) (i : Int) (h0 : 0 ≤ i) (h1 : i < n) : ∃ ad A0 c0, A = some ad ∧ w.cell? (ad.add i.toNat) = some (.slice A0 (apparatus_Collate.rdL xs i).length c0) ∧ (apparatus_Collate.rdL xs i).length ≤ c0 ∧ Kd.string.C w A0 (apparatus_Collate.rdL xs i).length (apparatus_Collate.rdL xs i) := by
 obtain ⟨ad, c, e, _, hK, hc0⟩ := Kd.C_get h ([] : List ByteArray) i h0 h1
 have hc : ∀ j u, c[j]? = some u → w.cell? (ad.add (i.toNat * 1 + j)) = some u := hc0
 obtain ⟨A0, c0, rfl, l0, g0⟩ := hK
 exact ⟨ad, A0, c0, e, by have hq := hc 0 _ rfl; rwa [Nat.mul_one, Nat.add_zero] at hq, l0, g0⟩
theorem apparatus_Collate.other (At : Option Addr) (nt ct : Nat) (A1 : Option Addr) (c1 : Nat) (l1 : List (List ByteArray)) (b3 : Nat) (w : World) (hb : w.heap[b3]? = some (.cells #[.slice A1 l1.length c1] 37 (0, 0))) (hC : Kd.C (Kd.slice 9 Kd.string) w A1 l1.length l1) (h0 : 0 < l1.length) :
  Calls Try.prog 44 #[.slice At nt ct, .pointer (some ⟨b3, 0, none⟩)] w fun e w' => e = .returned (.bool ((nt : Int) != ((apparatus_Collate.rdL l1 0).length : Int))) ∧ Drawn0 w w' := by
 obtain ⟨ad, A0, c0, rfl, hx, _, _⟩ := apparatus_Collate.atL hC 0 (by decide) (by omega)
 have hx1 : w.cell? ad = some (.slice A0 (apparatus_Collate.rdL l1 0).length c0) := by
  have e : ad.add (0 : Int).toNat = ad := by cases ad; simp [Addr.add]
  rw [← e]; exact hx
 have hc3 : w.cell? ⟨b3, 0, none⟩ = some (.slice (some ad) l1.length c1) := (blk_cell hb 0).trans rfl
 have p0 := eq_true (show 0 < l1.length by omega)
 have p1 := eq_true (show (0 : Int) < (l1.length : Int) by omega)
 have p2 := eq_true (show l1 ≠ [] by rintro rfl; simp at h0)
 clear hx
 go_enter Try.func44, Try.ntmps44
 go_wp2_with (fail)
 go_ret
 exact ⟨rfl, Drawn0.refl _⟩
def apparatus_Collate.i0 : Nat → List (List ByteArray) → Int → Option Int
 | 0, _, _ => none
 | k + 1, l, i => if i < (l.length : Int) then (if 0 ≤ i then (if (((apparatus_Collate.rdL l i).length : Int) != ((apparatus_Collate.rdL l 0).length : Int)) = true then some i else apparatus_Collate.i0 k l (wrap64 (i + 1))) else none) else some (-1)
theorem apparatus_Collate.mono_i : ∀ k y0 y1, LeO (apparatus_Collate.i0 k y0 y1) (apparatus_Collate.i0 (k + 1) y0 y1)
 | 0 => fun _ _ r h => by simp [apparatus_Collate.i0] at h
 | k + 1 => by
  have ih := apparatus_Collate.mono_i k
  intro y0 y1
  rw [apparatus_Collate.i0, apparatus_Collate.i0]
  exact LeO.ite (LeO.ite (LeO.ite (LeO.refl _) (ih _ _)) (LeO.refl _)) (LeO.refl _)
set_option maxHeartbeats 4000000 in
theorem apparatus_Collate.index (k : Nat) (A1 : Option Addr) (c1 : Nat) (l1 : List (List ByteArray)) (b3 : Nat) (r : Int) (w : World) (hb : w.heap[b3]? = some (.cells #[.slice A1 l1.length c1] 37 (0, 0))) (hC : Kd.C (Kd.slice 9 Kd.string) w A1 l1.length l1) (hc : l1.length ≤ c1) (h0 : 0 < l1.length) (h : apparatus_Collate.i0 k l1 0 = some r) :
  Calls Try.prog 66 #[.slice A1 l1.length c1, .func (.func 44) #[] #[.pointer (some ⟨b3, 0, none⟩)]] w fun e w' => e = .returned (.int .i64 r) ∧ Drawn0 w w' := by
 have HR := Lib.hid hC; have HH := Lib.hid h; have HC := Lib.hid hc; have HB := Lib.hid hb; have H0 := Lib.hid h0
 clear hC h hc hb h0
 have HD := Lib.hid (show Drawn0 w w from ⟨0, rfl⟩)
 go_enter Try.func66, Try.ntmps66
 go_wp2_with (fail)
 go_loopg [8] k (fun kq v8 wr => ∃ (i : Int), v8 = .int .i64 i ∧ Hid (apparatus_Collate.i0 kq l1 i = some r) ∧ Hid (kq ≤ k) ∧ Hid (Drawn0 w wr))
 case atStart => exact ⟨0, rfl, HH, Lib.hid (Nat.le_refl _), HD⟩
 case round =>
  clear HH HD
  obtain ⟨i, rfl, HA, HK, HD⟩ := hrel
  cases gk with
  | zero => exact absurd HA.out (by simp [apparatus_Collate.i0])
  | succ k1 =>
   have H := HA.out
   clear HA
   rw [apparatus_Collate.i0] at H
   by_cases c1' : i < (l1.length : Int)
   ·rw [if_pos c1'] at H
    by_cases c2 : 0 ≤ i
    ·rw [if_pos c2] at H
     have HE := Lib.hid H
     have b1 : decide (i < (l1.length : Int)) = true := decide_eq_true c1'
     obtain ⟨nd, hnd⟩ := HD.out
     have hC2 := Kd.C_below HR.out (show Below w.heap.size w wr by rw [hnd]; exact pw_below_drewN (Below.refl _ _) nd)
     have g3 : wr.heap[b3]? = some (.cells #[.slice A1 l1.length c1] 37 (0, 0)) := by rw [hnd]; exact HB.out
     obtain ⟨ad, Ai, ci, rfl, hx, _, _⟩ := apparatus_Collate.atL hC2 i c2 c1'
     have HO := Lib.hid (apparatus_Collate.other Ai (apparatus_Collate.rdL l1 i).length ci (some ad) c1 l1 b3 wr g3 hC2 H0.out)
     have q1 := eq_true c1'
     have q2 := eq_true c2
     have HN := Lib.hid hnd
     clear H hC2 g3 c1' c2 hnd
     go_wp2_with (fail)
     refine (HO.out).mono ?_
     (first | rintro e w2 rfl hd | rintro e w2 ⟨rfl, hd⟩)
     have D2 := Lib.hid (show Drawn0 w w2 by obtain ⟨n2, rfl⟩ := hd; exact ⟨nd + n2, by rw [HN.out, World.drewN_drewN]⟩)
     clear hd HO hx
     by_cases c4 : (((apparatus_Collate.rdL l1 i).length : Int) != ((apparatus_Collate.rdL l1 0).length : Int)) = true
     ·have h5 := HE.out
      rw [if_pos c4] at h5
      obtain rfl := Option.some.inj h5
      clear h5 HE
      rw [c4]
      go_wp2_with (fail)
      go_ret
      exact ⟨rfl, D2.out⟩
     ·have h5 := HE.out
      rw [if_neg c4] at h5
      have H5 := Lib.hid h5
      rw [Bool.eq_false_iff.2 c4]
      clear h5 HE c4
      go_wp2_with (fail)
      go_roundg k1
      case measure => have := HK.out; omega
      case rel => exact ⟨wrap64 (i + 1), rfl, H5, Lib.hid (by have := HK.out; omega), D2⟩
    ·rw [if_neg c2] at H; cases H
   ·rw [if_neg c1'] at H
    obtain rfl := Option.some.inj H
    have b1 : decide (i < (l1.length : Int)) = false := decide_eq_false c1'
    clear H c1'
    go_wp2_with (fail)
    go_ret
    exact ⟨rfl, HD.out⟩
theorem apparatus_Collate.contains (k : Nat) (A1 : Option Addr) (c1 : Nat) (l1 : List (List ByteArray)) (b3 : Nat) (r : Int) (w : World) (hb : w.heap[b3]? = some (.cells #[.slice A1 l1.length c1] 37 (0, 0))) (hC : Kd.C (Kd.slice 9 Kd.string) w A1 l1.length l1) (hc : l1.length ≤ c1) (h0 : 0 < l1.length) (h : apparatus_Collate.i0 k l1 0 = some r) :
  Calls Try.prog 43 #[.slice A1 l1.length c1, .func (.func 44) #[] #[.pointer (some ⟨b3, 0, none⟩)]] w fun e w' => e = .returned (.bool (decide (0 ≤ r))) ∧ Drawn0 w w' := by
 have HI := Lib.hid (apparatus_Collate.index k A1 c1 l1 b3 r w hb hC hc h0 h)
 clear hb hC hc h0 h
 go_enter Try.func43, Try.ntmps43
 go_wp2_with (fail)
 refine HI.out.mono ?_
 (first | rintro e w2 rfl hd | rintro e w2 ⟨rfl, hd⟩)
 go_wp2_with (fail)
 go_ret
 exact ⟨rfl, hd⟩

def apparatus_Collate.v0 : Nat → List ByteArray → Int → Option Int
 | 0, _, _ => none
 | k + 1, l, i => if i < (l.length : Int) then (if 0 ≤ i then ((text_Valid.f k (rdOf ByteArray.empty l i)).bind fun e => if e = 0 then apparatus_Collate.v0 k l (wrap64 (i + 1)) else some e) else none) else some 0
def apparatus_Collate.p0 : Nat → List (List ByteArray) → ByteArray → Int → Int → List S67 → Option (List S67)
 | 0, _, _, _, _, _ => none
 | k + 1, l1, t, i, j, l => if j < (l1.length : Int) then (if 0 ≤ j then (if 0 ≤ i ∧ i < ((apparatus_Collate.rdL l1 j).length : Int) then ((apparatus_put.f k t l (rdOf ByteArray.empty (apparatus_Collate.rdL l1 j) i) j).bind fun l' => apparatus_Collate.p0 k l1 t i (wrap64 (j + 1)) l') else none) else none) else some l
def apparatus_Collate.r0 : Nat → List (List ByteArray) → Int → List S65 → Option (List S65)
 | 0, _, _, _ => none
 | k + 1, l1, i, acc => if i < ((apparatus_Collate.rdL l1 0).length : Int) then (if 0 ≤ i ∧ acc.length ≤ 1000000 then ((apparatus_Collate.p0 k l1 (rdOf ByteArray.empty (apparatus_Collate.rdL l1 0) i) i 0 []).bind fun l => apparatus_Collate.r0 k l1 (wrap64 (i + 1)) (acc ++ [⟨rdOf ByteArray.empty (apparatus_Collate.rdL l1 0) i, l⟩])) else none) else some acc
def apparatus_Collate.f (k : Nat) (l0 : List ByteArray) (l1 : List (List ByteArray)) : Option (List ByteArray × List S65 × Int) := (apparatus_names.f k l0).bind fun e => if e = 0 then (if (l1.length : Int) = (l0.length : Int) then (if 0 < (l1.length : Int) then ((apparatus_Collate.i0 k l1 0).bind fun r => if 0 ≤ r then some ([], [], 6) else (if ((apparatus_Collate.rdL l1 0).length : Int) > 200 then some ([], [], 3) else ((slices_Concat_string_string.f l1).bind fun all => (apparatus_Collate.v0 k all 0).bind fun e => if e = 0 then ((slices_Clone_string_string.f l0).bind fun wl => (apparatus_Collate.r0 k l1 0 []).bind fun rows => some (wl, rows, 0)) else some ([], [], e)))) else none) else some ([], [], 6)) else some ([], [], e)
theorem apparatus_Collate.mono_v : ∀ k y0 y1, LeO (apparatus_Collate.v0 k y0 y1) (apparatus_Collate.v0 (k + 1) y0 y1)
 | 0 => fun _ _ r h => by simp [apparatus_Collate.v0] at h
 | k + 1 => by
  have ih := apparatus_Collate.mono_v k
  intro y0 y1
  rw [apparatus_Collate.v0, apparatus_Collate.v0]
  exact LeO.ite (LeO.ite (LeO.bind (text_Valid.mono _ _) fun _ => LeO.ite (ih _ _) (LeO.refl _)) (LeO.refl _)) (LeO.refl _)
theorem apparatus_Collate.mono_p : ∀ k y0 y1 y2 y3 y4, LeO (apparatus_Collate.p0 k y0 y1 y2 y3 y4) (apparatus_Collate.p0 (k + 1) y0 y1 y2 y3 y4)
 | 0 => fun _ _ _ _ _ r h => by simp [apparatus_Collate.p0] at h
 | k + 1 => by
  have ih := apparatus_Collate.mono_p k
  intro y0 y1 y2 y3 y4
  rw [apparatus_Collate.p0, apparatus_Collate.p0]
  exact LeO.ite (LeO.ite (LeO.ite (LeO.bind (apparatus_put.mono _ _ _ _ _) fun _ => ih _ _ _ _ _) (LeO.refl _)) (LeO.refl _)) (LeO.refl _)
theorem apparatus_Collate.mono_r : ∀ k y0 y1 y2, LeO (apparatus_Collate.r0 k y0 y1 y2) (apparatus_Collate.r0 (k + 1) y0 y1 y2)
 | 0 => fun _ _ _ r h => by simp [apparatus_Collate.r0] at h
 | k + 1 => by
  have ih := apparatus_Collate.mono_r k
  intro y0 y1 y2
  rw [apparatus_Collate.r0, apparatus_Collate.r0]
  exact LeO.ite (LeO.ite (LeO.bind (apparatus_Collate.mono_p _ _ _ _ _ _) fun _ => ih _ _ _) (LeO.refl _)) (LeO.refl _)
theorem apparatus_Collate.mono : ∀ a0 a1 k, LeO (apparatus_Collate.f k a0 a1) (apparatus_Collate.f (k + 1) a0 a1) := by
 intro a0 a1 k
 unfold apparatus_Collate.f
 exact LeO.bind (apparatus_names.mono _ _) fun _ => LeO.ite (LeO.ite (LeO.ite (LeO.bind (apparatus_Collate.mono_i _ _ _) fun _ => LeO.ite (LeO.refl _) (LeO.ite (LeO.refl _) (LeO.bind (LeO.refl _) fun _ => LeO.bind (apparatus_Collate.mono_v _ _ _) fun _ => LeO.ite (LeO.bind (LeO.refl _) fun _ => LeO.bind (apparatus_Collate.mono_r _ _ _ _) fun _ => LeO.refl _) (LeO.refl _)))) (LeO.refl _)) (LeO.refl _)) (LeO.refl _)
set_option maxHeartbeats 4000000 in
set_option maxRecDepth 100000 in
theorem apparatus_Collate.calls (k : Nat) (A0 : Option Addr) (c0 : Nat) (l0 : List ByteArray) (A1 : Option Addr) (c1 : Nat) (l1 : List (List ByteArray)) (r1 : List ByteArray) (r2 : List (S65)) (r3 : Int) (w : World) (hr0 : Kd.C Kd.string w A0 l0.length l0) (hc0 : l0.length ≤ c0) (hr1 : Kd.C (Kd.slice 9 Kd.string) w A1 l1.length l1) (hc1 : l1.length ≤ c1) (h : apparatus_Collate.f k l0 l1 = some (r1, r2, r3)) :
  Calls Try.prog 17 #[.slice A0 l0.length c0, .slice A1 l1.length c1] w fun e w' => ∃ v0_ v1_ : Value, e = .returned (.tuple #[.agg #[v0_, v1_], .int .i64 r3]) ∧ Kd.R Kd.string 9 w' w.heap.size (fun _ => True) v0_ r1 ∧ Kd.S k65 65 w' w.heap.size (fun _ => True) v1_ r2 ∧ Below w.heap.size w w' := by
 have hu42 := Try.underlying42
 unfold apparatus_Collate.f at h
 obtain ⟨e0, he, h1⟩ := Option.bind_eq_some_iff.1 h
 clear h
 have HV := Lib.hid he; have HR0 := Lib.hid hr0; have HC0 := Lib.hid hc0; have HR1 := Lib.hid hr1; have HC1 := Lib.hid hc1; have H1 := Lib.hid h1
 clear he hr0 hc0 hr1 hc1 h1
 go_enter Try.func17, Try.ntmps17
 go_wp2_with (first
  | ((with_reducible refine gate_dst (N := 3) rfl ?_); (try (refine gate_guard (by rfl) ?_; dsimp only)); refine bX 3 #[.slice A1 l1.length c1] 37 ?_; intro b3 hb3 w1 hbox hbb; have Q1 := Lib.hid hbox; have B1 := Lib.hid hbb; have N3 := Lib.hid (show w.heap.size ≤ b3 from Nat.le_of_eq hb3.symm); clear hb3 hbox hbb)
  | ((with_reducible refine gate_dst (N := 4) rfl ?_); (try (refine gate_guard (by rfl) ?_; dsimp only)); refine bX 4 #[.slice none 0 0, .slice none 0 0] 42 ?_; intro b4 hb4 w2 hbox hbb; have P2 := Lib.hid hbox; have B2 := Lib.hid (B1.out.trans (hbb.mono B1.out.size)); have Q2 := Lib.hid (blk_below Q1.out hbb); have N4 := Lib.hid (show w.heap.size ≤ b4 from by have := B1.out.size; omega); have D4 := Lib.hid (show b3 < b4 from by have := blk_lt Q1.out; omega); clear hb4 hbox hbb))
 refine (apparatus_names.calls k A0 c0 l0 e0 _ (Kd.C_below HR0.out B2.out) HC0.out HV.out).mono ?_
 rintro e w3 ⟨rfl, hd⟩
 have hb := hd.below
 have B3 := Lib.hid (B2.out.trans (hb.mono B2.out.size))
 have Q3 := Lib.hid (blk_below Q2.out hb)
 have P3 := Lib.hid (blk_below P2.out hb)
 clear hb hd Q1 B1 Q2 P2 B2
 have h1 := H1.out
 clear H1
 by_cases c0' : e0 = 0
 ·subst c0'
  rw [if_pos rfl] at h1
  have hcx := (blk_cell Q3.out 0).trans (show _ = some (Value.slice A1 l1.length c1) from rfl)
  by_cases c2 : (l1.length : Int) = (l0.length : Int)
  ·rw [if_pos c2] at h1
   have b2 : ((l1.length : Int) != (l0.length : Int)) = false := bne_eq_false_iff_eq.2 c2
   have b2' : (l1.length != l0.length) = false := bne_eq_false_iff_eq.2 (by omega)
   by_cases c3 : 0 < (l1.length : Int)
   ·rw [if_pos c3] at h1
    obtain ⟨r, hi, h2⟩ := Option.bind_eq_some_iff.1 h1
    have HI := Lib.hid hi; have H2 := Lib.hid h2; have H0 := Lib.hid (show 0 < l1.length by omega)
    clear h1 h2 hi c2 c3
    go_wp2_with (fail)
    refine (apparatus_Collate.contains k A1 c1 l1 b3 r _ Q3.out (Kd.C_below HR1.out B3.out) HC1.out H0.out HI.out).mono ?_
    (first | rintro e w4 rfl hd | rintro e w4 ⟨rfl, hd⟩)
    have hb := hd.below
    have B4 := Lib.hid (B3.out.trans (hb.mono B3.out.size))
    have Q4 := Lib.hid (blk_below Q3.out hb)
    have P4 := Lib.hid (blk_below P3.out hb)
    clear hb hd hcx Q3 P3 B3
    have h2 := H2.out
    clear H2
    have hcx := (blk_cell Q4.out 0).trans (show _ = some (Value.slice A1 l1.length c1) from rfl)
    have hcy0 := (blk_cell P4.out 0).trans (show _ = some (Value.slice none 0 0) from rfl)
    have hcy1 := (blk_cell P4.out 1).trans (show _ = some (Value.slice none 0 0) from rfl)
    have hfy0 := blk_frozen P4.out 0
    have hfy1 := blk_frozen P4.out 1
    by_cases c4 : 0 ≤ r
    ·rw [if_pos c4] at h2
     obtain ⟨rfl, h3⟩ := Prod.mk.inj (Option.some.inj h2)
     obtain ⟨rfl, rfl⟩ := Prod.mk.inj h3
     rw [decide_eq_true c4]
     clear h2 h3 c4
     go_wp2_with (fail)
     refine bodyPost_ret (results_ct rfl _ _ b4 42 #[.slice none 0 0, .slice none 0 0] (0, 0) _ rfl (blk_put (cs := #[.slice none 0 0, .slice none 0 0]) (blk_put (cs := #[.slice none 0 0, .slice none 0 0]) P4.out 0 _ rfl) 1 _ rfl) Try.underlying42 rfl (by kernel_rfl)) rfl ?_
     exact ⟨_, _, rfl, Kd.R_nil _ _ _ _ _, Kd.S_nil _ _ _ _ _, below_set (below_set B4.out N4.out) N4.out⟩
    ·rw [if_neg c4] at h2
     rw [decide_eq_false c4]
     clear c4
     obtain ⟨ad, Af, cf, rfl, hx, hlf, hCf⟩ := apparatus_Collate.atL HR1.out 0 (by decide) (by have := H0.out; omega)
     have hx0 : w.cell? ad = some (.slice Af (apparatus_Collate.rdL l1 0).length cf) := by
      have e : ad.add (0 : Int).toNat = ad := by cases ad; simp [Addr.add]
      rw [← e]; exact hx
     have HX0 := Lib.hid hx0; have HLF := Lib.hid hlf; have HCF := Lib.hid hCf
     clear hx hx0 hlf hCf
     have hx4 := (B4.out.cell (World.block_lt_of_cell? w _ HX0.out)).trans HX0.out
     have p0 := eq_true (show 0 < l1.length from H0.out)
     have p1 := eq_true (show (0 : Int) < (l1.length : Int) by have := H0.out; omega)
     by_cases c5 : ((apparatus_Collate.rdL l1 0).length : Int) > 200
     ·rw [if_pos c5] at h2
      obtain ⟨rfl, h3⟩ := Prod.mk.inj (Option.some.inj h2)
      obtain ⟨rfl, rfl⟩ := Prod.mk.inj h3
      have b5 : decide (200 < ((apparatus_Collate.rdL l1 0).length : Int)) = true := decide_eq_true c5
      have b5' : decide (200 < (apparatus_Collate.rdL l1 0).length) = true := decide_eq_true (by omega)
      clear h2 h3 c5
      go_wp2_with (fail)
      refine bodyPost_ret (results_ct rfl _ _ b4 42 #[.slice none 0 0, .slice none 0 0] (0, 0) _ rfl (blk_put (cs := #[.slice none 0 0, .slice none 0 0]) (blk_put (cs := #[.slice none 0 0, .slice none 0 0]) P4.out 0 _ rfl) 1 _ rfl) Try.underlying42 rfl (by kernel_rfl)) rfl ?_
      exact ⟨_, _, rfl, Kd.R_nil _ _ _ _ _, Kd.S_nil _ _ _ _ _, below_set (below_set B4.out N4.out) N4.out⟩
     ·rw [if_neg c5] at h2
      have b5 : decide (200 < ((apparatus_Collate.rdL l1 0).length : Int)) = false := decide_eq_false c5
      have b5' : decide (200 < (apparatus_Collate.rdL l1 0).length) = false := decide_eq_false (by omega)
      obtain ⟨all, ha, h3⟩ := Option.bind_eq_some_iff.1 h2
      obtain ⟨ev, hev, h4⟩ := Option.bind_eq_some_iff.1 h3
      have HA0 := Lib.hid ha; have HE0 := Lib.hid hev; have H4 := Lib.hid h4
      clear h2 h3 h4 ha hev c5
      go_wp2_with (fail)
      refine (slices_Concat_string_string.calls (some ad) c1 l1 all _ (Kd.C_below HR1.out B4.out) HC1.out HA0.out).mono ?_
      rintro e w5 ⟨v5, rfl, hr5, hb⟩
      have B5 := Lib.hid (B4.out.trans (hb.mono B4.out.size))
      have Q5 := Lib.hid (blk_below Q4.out hb)
      have P5 := Lib.hid (blk_below P4.out hb)
      obtain ⟨A5, c5, rfl⟩ := Kd.R_slice hr5
      have R5 := Lib.hid (Kd.R_reads' hr5).2.2
      have C5 := Lib.hid (Kd.R_reads' hr5).2.1
      clear hb hr5 hcx hx4 Q4 P4 B4 hcy0 hcy1 hfy0 hfy1
      go_wp2_with (fail)
      go_loopg [42] k (fun kq v42 wr => ∃ (i : Int), v42 = .int .i64 i ∧ Hid (apparatus_Collate.v0 kq all i = some ev) ∧ Hid (kq ≤ k) ∧ Hid (Below w5.heap.size w5 wr))
      case atStart => exact ⟨0, rfl, HE0, Lib.hid (Nat.le_refl _), Lib.hid (Below.refl _ _)⟩
      case round =>
       clear HE0
       obtain ⟨i, rfl, HA, HK, HB⟩ := hrel
       have B6 := Lib.hid (B5.out.trans (HB.out.mono B5.out.size))
       have Q6 := Lib.hid (blk_below Q5.out HB.out)
       have P6 := Lib.hid (blk_below P5.out HB.out)
       cases gk with
       | zero => exact absurd HA.out (by simp [apparatus_Collate.v0])
       | succ k1 =>
        have H := HA.out
        clear HA
        rw [apparatus_Collate.v0] at H
        by_cases d1 : i < (all.length : Int)
        ·rw [if_pos d1] at H
         by_cases d2 : 0 ≤ i
         ·rw [if_pos d2] at H
          obtain ⟨e1, he1, H'⟩ := Option.bind_eq_some_iff.1 H
          have HT := Lib.hid he1; have HE := Lib.hid H'
          have b1 : decide (i < (all.length : Int)) = true := decide_eq_true d1
          obtain ⟨ai, rfl, hx⟩ := Kd.at_string (Kd.C_below R5.out HB.out) i d2 d1
          have q1 := eq_true d1
          have q2 := eq_true d2
          clear H H' he1 d1 d2
          go_wp2_with (fail)
          refine (text_Valid.calls k1 _ e1 _ HT.out).mono ?_
          rintro e w6 ⟨rfl, hb⟩
          have B7 := Lib.hid (B6.out.trans (hb.mono B6.out.size))
          have P7 := Lib.hid (blk_below P6.out hb)
          have HB7 := Lib.hid (HB.out.trans (hb.mono HB.out.size))
          clear hb hx B6 Q6 P6 HB
          by_cases d3 : e1 = 0
          ·have h5 := HE.out
           subst d3
           rw [if_pos rfl] at h5
           have H5 := Lib.hid h5
           clear h5 HE
           go_wp2_with (fail)
           go_roundg k1
           case measure => have := HK.out; omega
           case rel => exact ⟨wrap64 (i + 1), rfl, H5, Lib.hid (by have := HK.out; omega), HB7⟩
          ·have h5 := HE.out
           rw [if_neg d3] at h5
           obtain rfl := Option.some.inj h5
           have h6 := H4.out
           rw [if_neg d3] at h6
           obtain ⟨rfl, h7⟩ := Prod.mk.inj (Option.some.inj h6)
           obtain ⟨rfl, rfl⟩ := Prod.mk.inj h7
           have g1 : (e1 != 0) = true := by simpa using d3
           have g2 : (e1 == 0) = false := by simpa using d3
           have hcy0 := (blk_cell P7.out 0).trans (show _ = some (Value.slice none 0 0) from rfl)
           have hcy1 := (blk_cell P7.out 1).trans (show _ = some (Value.slice none 0 0) from rfl)
           have hfy0 := blk_frozen P7.out 0
           have hfy1 := blk_frozen P7.out 1
           clear h5 h6 h7 HE d3 H4
           go_wp2_with (fail)
           refine bodyPost_ret (results_ct rfl _ _ b4 42 #[.slice none 0 0, .slice none 0 0] (0, 0) _ rfl (blk_put (cs := #[.slice none 0 0, .slice none 0 0]) (blk_put (cs := #[.slice none 0 0, .slice none 0 0]) P7.out 0 _ rfl) 1 _ rfl) Try.underlying42 rfl (by kernel_rfl)) rfl ?_
           exact ⟨_, _, rfl, Kd.R_nil _ _ _ _ _, Kd.S_nil _ _ _ _ _, below_set (below_set B7.out N4.out) N4.out⟩
         ·rw [if_neg d2] at H; cases H
        ·rw [if_neg d1] at H
         obtain rfl := Option.some.inj H
         have b1 : decide (i < (all.length : Int)) = false := decide_eq_false d1
         have h4 := H4.out
         rw [if_pos rfl] at h4
         obtain ⟨wl, hw, h5⟩ := Option.bind_eq_some_iff.1 h4
         obtain ⟨rows, hrows, h6⟩ := Option.bind_eq_some_iff.1 h5
         obtain ⟨rfl, h7⟩ := Prod.mk.inj (Option.some.inj h6)
         obtain ⟨rfl, rfl⟩ := Prod.mk.inj h7
         have HW0 := Lib.hid hw; have HRW := Lib.hid hrows
         clear H d1 h4 h5 h6 h7 hw hrows H4 R5 C5
         go_wp2_with (fail)
         refine (slices_Clone_string_string.calls A0 c0 l0 wl _ (Kd.C_below HR0.out B6.out) HC0.out HW0.out).mono ?_
         rintro e w7 ⟨v7, rfl, hr7, hb⟩
         have B7 := Lib.hid (B6.out.trans (hb.mono B6.out.size))
         have Q7 := Lib.hid (blk_below Q6.out hb)
         have P7 := Lib.hid (blk_below P6.out hb)
         obtain ⟨A7, c7, rfl⟩ := Kd.R_slice hr7
         have R7 := Lib.hid (Kd.R_lower (Kd.R_mono (Kd.R_bound hr7) (ok' := fun q => b4 < q) (fun q hq => Nat.lt_of_lt_of_le (blk_lt P6.out) hq.2.1)) B6.out.size)
         clear hb hr7 B6 Q6 P6 HB B5 Q5 P5
         go_wp2_with (first | ((with_reducible refine gate_dst (N := 10) rfl ?_); (try (refine gate_guard (by rfl) ?_; dsimp only)); refine bX 10 #[.slice none 0 0, .slice none 0 0] 42 ?_; intro b10 hb10 w8 hbox hbb; have T8 := Lib.hid hbox; have N10 := Lib.hid (show b10 = w7.heap.size from hb10); have H8 := Lib.hid hbb; clear hb10 hbox hbb; have hct0 := (blk_cell T8.out 0).trans (show _ = some (Value.slice none 0 0) from rfl); have hct1 := (blk_cell T8.out 1).trans (show _ = some (Value.slice none 0 0) from rfl); have hft0 := blk_frozen T8.out 0; have hft1 := blk_frozen T8.out 1; have Z8 := Lib.hid (below_set (below_set H8.out (Nat.le_of_eq N10.out.symm) (j := 0) (v := .slice A7 wl.length c7)) (Nat.le_of_eq N10.out.symm) (j := 1) (v := .slice none 0 0)); have hcx := (blk_cell (blk_below Q7.out Z8.out) 0).trans (show _ = some (Value.slice (some ad) l1.length c1) from rfl); have hx8 := ((B7.out.trans (Z8.out.mono B7.out.size)).cell (World.block_lt_of_cell? w _ HX0.out)).trans HX0.out))
         have T9 := Lib.hid (show ((w8.setCell ⟨b10, 0, none⟩ (.slice A7 wl.length c7)).setCell ⟨b10, 1, none⟩ (.slice none 0 0)).heap[b10]? = some (.cells #[.slice A7 wl.length c7, .slice none 0 0] 42 (0, 0)) from blk_put (cs := #[.slice A7 wl.length c7, .slice none 0 0]) (blk_put (cs := #[.slice none 0 0, .slice none 0 0]) T8.out 0 (.slice A7 wl.length c7) rfl) 1 (.slice none 0 0) rfl)
         clear hct0 hct1 hft0 hft1 hcx hx8 T8 H8
         generalize ((w8.setCell ⟨b10, 0, none⟩ (.slice A7 wl.length c7)).setCell ⟨b10, 1, none⟩ (.slice none 0 0)) = w9 at T9 Z8 ⊢
         go_loopg [60] k (fun kq v60 wr => ∃ (i : Int) (acc : List S65) (vR : Value), v60 = .int .i64 i ∧ Hid (apparatus_Collate.r0 kq l1 i acc = some rows) ∧ Hid (kq ≤ k) ∧ Hid (Below w7.heap.size w7 wr) ∧ Hid (wr.heap[b10]? = some (.cells #[.slice A7 wl.length c7, vR] 42 (0, 0))) ∧ Hid (Kd.S k65 65 wr w7.heap.size (fun q => b10 < q) vR acc))
         case atStart => exact ⟨0, [], _, rfl, HRW, Lib.hid (Nat.le_refl _), Z8, T9, Lib.hid (Kd.S_nil _ _ _ _ _)⟩
         case round =>
          clear HRW Z8 T9 HK
          obtain ⟨i2, acc, vR, rfl, HA, HK, HB, HT, HS⟩ := hrel
          have BW := Lib.hid (B7.out.trans (HB.out.mono B7.out.size))
          obtain ⟨AR, cR, rfl⟩ := Kd.S_slice HS.out
          cases gk with
          | zero => exact absurd HA.out (by simp [apparatus_Collate.r0])
          | succ k2 =>
           have H := HA.out
           clear HA
           rw [apparatus_Collate.r0] at H
           by_cases d1 : i2 < ((apparatus_Collate.rdL l1 0).length : Int)
           ·rw [if_pos d1] at H
            by_cases d2 : 0 ≤ i2 ∧ acc.length ≤ 1000000
            ·rw [if_pos d2] at H
             obtain ⟨lv, hp, hr⟩ := Option.bind_eq_some_iff.1 H
             obtain ⟨af, rfl, hx⟩ := Kd.at_string (Kd.C_below HCF.out BW.out) i2 d2.1 d1
             obtain ⟨t, ht⟩ : ∃ t, rdOf ByteArray.empty (apparatus_Collate.rdL l1 0) i2 = t := ⟨_, rfl⟩
             rw [ht] at hx hp hr
             have HP := Lib.hid hp; have HR := Lib.hid hr; have HD2 := Lib.hid d2
             have b1 : decide (i2 < ((apparatus_Collate.rdL l1 0).length : Int)) = true := decide_eq_true d1
             have q1 := eq_true d1
             have q2 := eq_true d2.1
             clear H hp hr ht d1 d2
             obtain ⟨wo, rfl⟩ : ∃ x, x = wr := ⟨_, rfl⟩
             go_wp2_with (first | ((with_reducible refine gate_dst (N := 13) rfl ?_); (try (refine gate_guard (by rfl) ?_; dsimp only)); refine bX 13 #[.string ⟨#[]⟩, .slice none 0 0] 65 ?_; intro b13 hb13 w10 hbox hbb; have V10 := Lib.hid hbox; have N13 := Lib.hid (show b13 = wo.heap.size from hb13); have H10 := Lib.hid hbb; clear hb13 hbox hbb; have hcv0 := (blk_cell V10.out 0).trans (show _ = some (Value.string ⟨#[]⟩) from rfl); have hcv1 := (blk_cell V10.out 1).trans (show _ = some (Value.slice none 0 0) from rfl); have hfv0 := blk_frozen V10.out 0; have hfv1 := blk_frozen V10.out 1; have Z10 := Lib.hid (below_set (below_set H10.out (Nat.le_of_eq N13.out.symm) (j := 0) (v := .string t)) (Nat.le_of_eq N13.out.symm) (j := 1) (v := .slice none 0 0)); have hcx := (blk_cell (blk_below (blk_below Q7.out HB.out) Z10.out) 0).trans (show _ = some (Value.slice (some ad) l1.length c1) from rfl)))
             have V11 := Lib.hid (show ((w10.setCell ⟨b13, 0, none⟩ (.string t)).setCell ⟨b13, 1, none⟩ (.slice none 0 0)).heap[b13]? = some (.cells #[.string t, .slice none 0 0] 65 (0, 0)) from blk_put (cs := #[.string t, .slice none 0 0]) (blk_put (cs := #[.string ⟨#[]⟩, .slice none 0 0]) V10.out 0 (.string t) rfl) 1 (.slice none 0 0) rfl)
             clear hcv0 hcv1 hfv0 hfv1 hcx V10 H10 hx
             generalize ((w10.setCell ⟨b13, 0, none⟩ (.string t)).setCell ⟨b13, 1, none⟩ (.slice none 0 0)) = w11 at V11 Z10 ⊢
             go_loopg [69] k2 (fun kq v69 wr => ∃ (j : Int) (l : List S67) (v : Value), v69 = .int .i64 j ∧ Hid (apparatus_Collate.p0 kq l1 t i2 j l = some lv) ∧ Hid (kq ≤ k2) ∧ Hid (Below wo.heap.size wo wr) ∧ Hid (wr.heap[b13]? = some (.cells #[.string t, v] 65 (0, 0))) ∧ Hid (Kd.R k67 67 wr wo.heap.size (fun q => b13 < q) v l))
             case atStart => exact ⟨0, [], _, rfl, HP, Lib.hid (Nat.le_refl _), Z10, V11, Lib.hid (Kd.R_nil _ _ _ _ _)⟩
             case round =>
              clear HP Z10 V11
              obtain ⟨j, l, v, rfl, HA, HKi, HBi, HVi, HRi⟩ := hrel
              have BI := Lib.hid (BW.out.trans (HBi.out.mono BW.out.size))
              cases gk with
              | zero => exact absurd HA.out (by simp [apparatus_Collate.p0])
              | succ k3 =>
               have H := HA.out
               clear HA
               rw [apparatus_Collate.p0] at H
               by_cases d3 : j < (l1.length : Int)
               ·rw [if_pos d3] at H
                by_cases d4 : 0 ≤ j
                ·rw [if_pos d4] at H
                 by_cases d5 : 0 ≤ i2 ∧ i2 < ((apparatus_Collate.rdL l1 j).length : Int)
                 ·rw [if_pos d5] at H
                  obtain ⟨l', hp, hr⟩ := Option.bind_eq_some_iff.1 H
                  obtain ⟨ad', Aj, cj, eadj, hxj, _, hCj⟩ := apparatus_Collate.atL HR1.out j d4 d3
                  injection eadj with eadj
                  subst eadj
                  have hxi := (BI.out.cell (World.block_lt_of_cell? w _ hxj)).trans hxj
                  obtain ⟨aj, rfl, hy⟩ := Kd.at_string (Kd.C_below hCj BI.out) i2 d5.1 d5.2
                  have HPp := Lib.hid hp; have HRr := Lib.hid hr
                  have b1 : decide (j < (l1.length : Int)) = true := decide_eq_true d3
                  have q1 := eq_true d3
                  have q2 := eq_true d4
                  have q3 := eq_true d5.1
                  have q4 := eq_true d5.2
                  clear H hp hr d3 d4 d5 hxj hCj
                  go_wp2_with (fail)
                  refine (apparatus_put.calls k3 b13 t v l _ j l' (fun q => b13 < q) wo wr HVi.out (Nat.le_of_eq N13.out.symm) (Nat.lt_irrefl _) HRi.out HBi.out HPp.out).mono ?_
                  rintro e w12 ⟨rfl, v', hx12, hr12, hk12, hb12⟩
                  have X12 := Lib.hid hx12; have B12 := Lib.hid hb12
                  have R12 := Lib.hid (Kd.R_mono hr12 (ok' := fun q => b13 < q) (fun q hq => hq.elim (fun h => h) (fun h => Nat.lt_of_lt_of_le (blk_lt HVi.out) h)))
                  clear hx12 hr12 hk12 hb12 hxi hy
                  go_wp2_with (fail)
                  go_roundg k3
                  case measure => have := HKi.out; omega
                  case rel => exact ⟨wrap64 (j + 1), l', v', rfl, HRr, Lib.hid (by have := HKi.out; omega), B12, X12, R12⟩
                 ·rw [if_neg d5] at H; cases H
                ·rw [if_neg d4] at H; cases H
               ·rw [if_neg d3] at H
                obtain rfl := Option.some.inj H
                have b1 : decide (j < (l1.length : Int)) = false := decide_eq_false d3
                clear H d3
                obtain ⟨AV, cV, rfl⟩ := Kd.R_slice HRi.out
                have TI := Lib.hid (blk_below HT.out HBi.out)
                have hct1 := (blk_cell TI.out 1).trans (show _ = some (Value.slice AR acc.length cR) from rfl)
                have hcv0 := (blk_cell HVi.out 0).trans (show _ = some (Value.string t) from rfl)
                have hcv1 := (blk_cell HVi.out 1).trans (show _ = some (Value.slice AV l.length cV) from rfl)
                have SI := Lib.hid (Kd.S_below (Kd.S_mono (Kd.S_bound HS.out) (ok' := fun q => b10 < q ∧ ¬ b13 < q) (fun q hq => ⟨hq.1, by have := hq.2.2.1; have := N13.out; omega⟩)) HBi.out)
                have HB2 := Lib.hid (HB.out.trans (HBi.out.mono HB.out.size))
                have L13 := Lib.hid (show b10 < b13 by have := blk_lt HT.out; have := N13.out; omega)
                have OWN := Lib.hid (show ∀ q, (Value.slice AR acc.length cR).ownBlock = some q → b10 < q ∧ q < b13 from fun q hq => by have h := (Kd.S_R (Kd.S_bound HS.out)).1 q hq; exact ⟨h.1, by have := h.2.2.1; have := N13.out; omega⟩)
                go_wp2_with (first | ((with_reducible refine gate_builtin (b := .append) (xs := #[.tmp 82, .tmp 84]) rfl ?_); at_builtin; refine Kd.S_append k65 (w0 := w7) w7.heap.size rfl (.tmp 82) (.tmp 84) 40 65 (.agg #[.string ⟨#[]⟩, .slice none 0 0]) 40 rfl Try.underlying40 (by kernel_rfl) rfl (by decide) (by omega) (.slice AR acc.length cR) acc (⟨t, l⟩ : S65) [.string t, .slice AV l.length cV] (fun q => b10 < q) (fun q => b13 < q) rfl rfl ?aP ?aK ?aF ?aO ?aB ?aS ?aL ?_; (case aP => exact k65_mkM _ _ _ (⟨t, l⟩ : S65) (Kd.R_lower HRi.out HB.out.size)); (case aK => exact fun q hq => ⟨Nat.lt_trans L13.out hq, fun e => by have := (OWN.out q e.symm).2; omega⟩); (case aF => exact fun q hq => by have := blk_lt TI.out; omega); (case aO => exact SI.out); (case aB => exact HB2.out); (case aS => exact HB2.out.size); (case aL => have := HD2.out.2; omega); intro v1 w13 hS13 hB13 hg13 hv13; obtain ⟨A13, c13, rfl⟩ := Kd.S_slice hS13; rw [List.length_append, List.length_singleton] at hS13 hv13 ⊢; have T13 := Lib.hid (blk_grown TI.out hg13 (fun e => by have := (OWN.out b10 e.symm).1; omega)); have S13 := Lib.hid hS13; have B13 := Lib.hid hB13; clear hS13 hB13 hg13 hv13 hct1 hcv0 hcv1; have hct1 := (blk_cell T13.out 1).trans (show _ = some (Value.slice AR acc.length cR) from rfl); have hft1 := blk_frozen T13.out 1))
                have T14 := Lib.hid (show (w13.setCell ⟨b10, 1, none⟩ (.slice A13 (acc.length + 1) c13)).heap[b10]? = some (.cells #[.slice A7 wl.length c7, .slice A13 (acc.length + 1) c13] 42 (0, 0)) from blk_put (cs := #[.slice A7 wl.length c7, .slice AR acc.length cR]) T13.out 1 (.slice A13 (acc.length + 1) c13) rfl)
                have S14 := Lib.hid (Kd.S_far S13.out (p := ⟨b10, 1, none⟩) (fun q hq => Nat.ne_of_gt hq) (.slice A13 (acc.length + 1) c13))
                have B14 := Lib.hid (below_set B13.out (Nat.le_of_eq N10.out.symm) (j := 1) (v := .slice A13 (acc.length + 1) c13))
                go_roundg k2
                case measure => have := HK.out; omega
                case rel => exact ⟨wrap64 (i2 + 1), acc ++ [⟨t, l⟩], _, rfl, HR, Lib.hid (by have := HK.out; omega), B14, T14, S14⟩
            ·rw [if_neg d2] at H; cases H
           ·rw [if_neg d1] at H
            obtain rfl := Option.some.inj H
            have b1 : decide (i2 < ((apparatus_Collate.rdL l1 0).length : Int)) = false := decide_eq_false d1
            have PW := Lib.hid (blk_below P7.out HB.out)
            clear H d1
            have hct0 := (blk_cell HT.out 0).trans (show _ = some (Value.slice A7 wl.length c7) from rfl)
            have hct1 := (blk_cell HT.out 1).trans (show _ = some (Value.slice AR acc.length cR) from rfl)
            have hcy0 := (blk_cell PW.out 0).trans (show _ = some (Value.slice none 0 0) from rfl)
            have hcy1 := (blk_cell PW.out 1).trans (show _ = some (Value.slice none 0 0) from rfl)
            have hfy0 := blk_frozen PW.out 0
            have hfy1 := blk_frozen PW.out 1
            go_wp2_with (fail)
            refine bodyPost_ret (results_ct rfl _ _ b4 42 #[.slice A7 wl.length c7, .slice AR acc.length cR] (0, 0) _ rfl (blk_put (cs := #[.slice A7 wl.length c7, .slice none 0 0]) (blk_put (cs := #[.slice none 0 0, .slice none 0 0]) PW.out 0 _ rfl) 1 _ rfl) Try.underlying42 rfl (by kernel_rfl)) rfl ?_
            have n4 : b4 < w7.heap.size := blk_lt P7.out
            refine ⟨_, _, rfl, ?_, ?_, below_set (below_set BW.out N4.out) N4.out⟩
            ·exact Kd.R_mono (Kd.R_far (Kd.R_far (Kd.R_below R7.out HB.out) (p := ⟨b4, 0, none⟩) (fun q hq => Nat.ne_of_gt hq) _) (p := ⟨b4, 1, none⟩) (fun q hq => Nat.ne_of_gt hq) _) (fun _ _ => trivial)
            ·exact Kd.S_lower (Kd.S_mono (Kd.S_far (Kd.S_far HS.out (p := ⟨b4, 0, none⟩) (fun q hq => by have := N10.out; show q ≠ b4; omega) _) (p := ⟨b4, 1, none⟩) (fun q hq => by have := N10.out; show q ≠ b4; omega) _) (fun _ _ => trivial)) B7.out.size
   ·rw [if_neg c3] at h1; cases h1
  ·rw [if_neg c2] at h1
   obtain ⟨rfl, h2⟩ := Prod.mk.inj (Option.some.inj h1)
   obtain ⟨rfl, rfl⟩ := Prod.mk.inj h2
   have b2 : ((l1.length : Int) != (l0.length : Int)) = true := bne_iff_ne.2 c2
   have b2' : (l1.length != l0.length) = true := bne_iff_ne.2 (by omega)
   have hcy0 := (blk_cell P3.out 0).trans (show _ = some (Value.slice none 0 0) from rfl)
   have hcy1 := (blk_cell P3.out 1).trans (show _ = some (Value.slice none 0 0) from rfl)
   have hfy0 := blk_frozen P3.out 0
   have hfy1 := blk_frozen P3.out 1
   clear h1 h2 c2
   go_wp2_with (fail)
   refine bodyPost_ret (results_ct rfl _ _ b4 42 #[.slice none 0 0, .slice none 0 0] (0, 0) _ rfl (blk_put (cs := #[.slice none 0 0, .slice none 0 0]) (blk_put (cs := #[.slice none 0 0, .slice none 0 0]) P3.out 0 _ rfl) 1 _ rfl) Try.underlying42 rfl (by kernel_rfl)) rfl ?_
   exact ⟨_, _, rfl, Kd.R_nil _ _ _ _ _, Kd.S_nil _ _ _ _ _, below_set (below_set B3.out N4.out) N4.out⟩
 ·rw [if_neg c0'] at h1
  obtain ⟨rfl, h2⟩ := Prod.mk.inj (Option.some.inj h1)
  obtain ⟨rfl, rfl⟩ := Prod.mk.inj h2
  have b2 : (e0 != 0) = true := by simpa using c0'
  have b3 : (e0 == 0) = false := by simpa using c0'
  have hcy0 := (blk_cell P3.out 0).trans (show _ = some (Value.slice none 0 0) from rfl)
  have hcy1 := (blk_cell P3.out 1).trans (show _ = some (Value.slice none 0 0) from rfl)
  have hfy0 := blk_frozen P3.out 0
  have hfy1 := blk_frozen P3.out 1
  clear h1 h2 c0'
  go_wp2_with (fail)
  refine bodyPost_ret (results_ct rfl _ _ b4 42 #[.slice none 0 0, .slice none 0 0] (0, 0) _ rfl (blk_put (cs := #[.slice none 0 0, .slice none 0 0]) (blk_put (cs := #[.slice none 0 0, .slice none 0 0]) P3.out 0 _ rfl) 1 _ rfl) Try.underlying42 rfl (by kernel_rfl)) rfl ?_
  exact ⟨_, _, rfl, Kd.R_nil _ _ _ _ _, Kd.S_nil _ _ _ _ _, below_set (below_set B3.out N4.out) N4.out⟩

-- NOT PRINTED: function 74 (apparatus_row_1)

-- NOT PRINTED: function 80 (api_Variant_80)

-- NOT PRINTED: function 75 (api_Variant_75)

end Go.Proofs.Ytmjigfoldeekmaa.X
