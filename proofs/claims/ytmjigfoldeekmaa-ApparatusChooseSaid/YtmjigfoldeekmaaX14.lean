-- and more
-- shortened
-- thinned
-- halved indents
-- printed by this session's xprint.py: out of the translation, by the kit's print with additions; Lean checks it
import Derived.Test.YtmjigfoldeekmaaXE
import Derived.Test.YtmjigfoldeekmaaXD
import Derived.Test.YtmjigfoldeekmaaWN
import Derived.Test.YtmjigfoldeekmaaWShare
import Derived.Test.YtmjigfoldeekmaaWRepsOne
import Derived.Test.YtmjigfoldeekmaaWGuard
import Derived.Test.YtmjigfoldeekmaaX0
import Derived.Test.YtmjigfoldeekmaaX5
import Derived.Test.YtmjigfoldeekmaaX9
import Derived.Test.YtmjigfoldeekmaaXA
namespace Go.Proofs.Ytmjigfoldeekmaa.X
open Go.RowKit Go.Proofs.YtmjigfoldeekmaaW.PrintWords Go.Proofs.YtmjigfoldeekmaaW.PrintLast Go.Proofs.YtmjigfoldeekmaaW.PrintMore
attribute [local go_sem] max2_int min2_int max_two min_two max_three min_three max_four min_four isSome_setCell binOp_gtr_str binOp_leq_str binOp_geq_str   -- for this text's walks alone
set_option linter.unusedVariables false
set_option linter.unusedSimpArgs false

/-! ### ancepslaw57_own: function 28 -/
def ancepslaw57_own.f (l0 : List ByteArray) (l1 : List S65) : Option (List ByteArray × List S65) := if l0.length ≤ 1000000 ∧ l1.length ≤ 1000000 ∧ l1.all (fun x => decide (x.f1.length ≤ 1000000)) = true then some (l0, l1) else none
/-- What the cells of a row are. -/
theorem ancepslaw57_own.cells {α : Type} {d : Kd α} {w : World} {A : Option Addr} {n : Nat} {xs : List α} (h : d.C w A n xs) : ∃ ys : List (List Value), ys.length = xs.length ∧ (Kd.raw d.sz).C w A n ys ∧ ∀ (j : Nat) (x : α), xs[j]? = some x → ∃ y, ys[j]? = some y ∧ d.K w x y := by
 obtain ⟨hl, hn, hc⟩ := h
 by_cases h0 : 0 < n
 ·obtain ⟨ad, rfl, hcell⟩ := hc h0
  have hex : ∀ j : Nat, ∃ c : List Value, ∀ p, xs[j]? = some p → c.length = d.sz ∧ d.K w p c ∧ ∀ i u, c[i]? = some u → w.cell? (ad.add (j * d.sz + i)) = some u := by
   intro j
   cases hj : xs[j]? with
   | none => exact ⟨[], fun p hp => by cases hp⟩
   | some p =>
    obtain ⟨c, h1, h2, h3⟩ := hcell j p hj
    exact ⟨c, fun p' hp => by cases hp; exact ⟨h1, h2, h3⟩⟩
  obtain ⟨f, hf⟩ := Classical.axiomOfChoice hex
  have hg : ∀ (j : Nat) (y : List Value), ((List.range xs.length).map f)[j]? = some y → ∃ x, xs[j]? = some x ∧ y = f j := by
   intro j y hy
   rw [List.getElem?_map] at hy
   by_cases hj : j < xs.length
   ·rw [List.getElem?_range hj] at hy
    exact ⟨xs[j], List.getElem?_eq_getElem hj, (Option.some.inj hy).symm⟩
   ·rw [List.getElem?_eq_none (by rw [List.length_range]; omega)] at hy
    cases hy
  refine ⟨(List.range xs.length).map f, by rw [List.length_map, List.length_range], ⟨by rw [List.length_map, List.length_range]; exact hl, hn, fun _ => ⟨ad, rfl, fun j y hy => ?_⟩⟩, fun j x hx => ?_⟩
  ·obtain ⟨x, hx, rfl⟩ := hg j y hy
   obtain ⟨h1, h2, h3⟩ := hf j x hx
   exact ⟨f j, h1, ⟨rfl, h1, d.K_one h2⟩, h3⟩
  ·have hj : j < xs.length := by
    by_cases e : j < xs.length
    ·exact e
    ·rw [List.getElem?_eq_none (by omega)] at hx; cases hx
   refine ⟨f j, ?_, (hf j x hx).2.1⟩
   rw [List.getElem?_map, List.getElem?_range hj]; rfl
 ·have hx0 : xs = [] := List.eq_nil_of_length_eq_zero (by omega)
  subst hx0
  exact ⟨[], rfl, ⟨hl, hn, fun h => absurd h h0⟩, fun j x hx => by simp at hx⟩
set_option maxHeartbeats 4000000 in
set_option maxRecDepth 100000 in
theorem ancepslaw57_own.clone (A0 : Option Addr) (c0 n : Nat) (ys : List (List Value)) (hn : ys.length = n) (w : World) (hr0 : (Kd.raw 2).C w A0 n ys) (hm : n ≤ 1000000) :
  Calls Try.prog 57 #[.slice A0 n c0] w fun e w' => ∃ v0_ : Value, e = .returned v0_ ∧ (Kd.raw 2).R 65 w' w.heap.size (fun _ => True) v0_ ys ∧ Below w.heap.size w w' := by
 subst hn
 cases A0 with
 | none =>
  have hl_ := Kd.C_none hr0
  subst hl_
  have hn_ := fun (W : World) => Go.Lib.run_eql_slice_nil (P := Try.prog) W 40 65 none 0 c0 0 0 Try.underlying40
  clear hr0
  go_enter Try.func57, Try.ntmps57
  (try simp only [List.length_nil])
  go_wp2
  go_ret
  exact ⟨_, rfl, Kd.R_nil _ _ _ _ _, Below.refl _ _⟩
 | some a0_ =>
  have hn_ := fun (W : World) => Go.Lib.run_eql_slice_nil (P := Try.prog) W 40 65 (some a0_) ys.length c0 0 0 Try.underlying40
  have HR0 := Lib.hid hr0; have HM := Lib.hid hm
  have HB := Lib.hid (Below.refl w.heap.size w)
  clear hr0 hm
  go_enter Try.func57, Try.ntmps57
  go_wp2_with (first | ((with_reducible refine gate_dst (N := 5) rfl ?_); refine Kd.R_lit (Kd.raw 2) _ 65 ?hg (N := 5) ?hd (xs := ([] : List (List Value))) (inner := []) (ok := fun _ => True) (okp := fun _ => True) ?hr ?hp (fun _ hk => hk) trivial (Below.refl _ _) (Nat.le_refl _) (by simp) ?_; (case hd | hg => rfl); (case hr => first | (go_simp; done) | (go_simp; rfl)); (case hp => exact (Reps.none _ _)); intro v139 w3 ho4 hb hg_ hnew_; clear hg_ hnew_; have HO := Lib.hid (Kd.R_lower ho4 (below_size (by repeat (first | (with_reducible first | exact HB.out | apply below_alloc | apply pw_below_drewN | apply below_drew1) | exact HB.out)))); have HB2 := Lib.hid (below_step (by repeat (first | (with_reducible first | exact HB.out | apply below_alloc | apply pw_below_drewN | apply below_drew1) | exact HB.out)) hb); clear HB hb ho4) | ((with_reducible refine gate_builtin (b := .append) (xs := #[.tmp 5, .tmp 6]) rfl ?_); at_builtin; refine Kd.R_append_rows (Kd.raw 2) (w0 := w) w.heap.size rfl (.tmp 5) (.tmp 6) 40 65 (.agg #[(.string ⟨#[]⟩), (.slice none 0 0)]) 40 rfl Try.underlying40 info65 rfl (by decide) (by omega) v139 [] ys _ _ _ (fun _ => True) (fun _ => False) rfl rfl ?aO ?aR (fun _ _ h => h) (fun _ h => h.elim) ?aF ?aB ?aS ?aL ?_; (case aR => repeat (first | exact (Kd.C_below HR0.out HB2.out) | (with_reducible refine Kd.C_alloc ?_ _) | (with_reducible refine Kd.C_drewN ?_ _) | (with_reducible refine Kd.C_drew ?_))); (case aB => exact (by repeat (first | (with_reducible first | exact HB2.out | apply below_alloc | apply pw_below_drewN | apply below_drew1) | exact HB2.out))); (case aF => exact (fun _ _ => trivial)); (case aO => exact (by (with_reducible repeat (first | apply Kd.R_alloc | apply Kd.R_drewN | apply Kd.R_drew)); exact HO.out)); (case aS => exact (below_size (by repeat (first | (with_reducible first | exact HB2.out | apply below_alloc | apply pw_below_drewN | apply below_drew1) | exact HB2.out)))); (case aL => have := HM.out; simp only [List.length_nil]; omega); intro v142 w5 ho hb hg hat; have HO2 := Lib.hid ho; have HB3 := Lib.hid hb; clear ho hb hg hat HO HB2))
  go_ret
  exact ⟨_, rfl, by (with_reducible repeat (first | apply Kd.R_alloc | apply Kd.R_drewN | apply Kd.R_drew)); exact HO2.out, by repeat (first | (with_reducible first | exact HB3.out | apply below_alloc | apply pw_below_drewN | apply below_drew1) | exact HB3.out)⟩
/-- The rows' cells when the first i have variants of their own. -/
structure ancepslaw57_own.Mix (w0 W : World) (base g : Nat) (l : List S65) (i : Nat) (cs : List (List Value)) (vs : Nat → Value) : Prop where
 len : cs.length = l.length
 own : ∀ (j : Nat) (x : S65), l[j]? = some x → j < i → cs[j]? = some [.string x.f0, vs j] ∧ Kd.R k67 67 W base (fun k => some k = (vs j).ownBlock) (vs j) x.f1
 old : ∀ (j : Nat) (x : S65), l[j]? = some x → i ≤ j → ∃ y, cs[j]? = some y ∧ k65.K w0 x y
 lt : ∀ (j k : Nat), j < i → (vs j).ownBlock = some k → base ≤ k ∧ k < W.heap.size ∧ k ≠ g
 apart : ∀ (j j' k : Nat), j < j' → j' < i → (vs j).ownBlock = some k → (vs j').ownBlock ≠ some k
theorem ancepslaw57_own.Mix.below {w0 W W1 : World} {base g : Nat} {l : List S65} {i : Nat} {cs : List (List Value)} {vs : Nat → Value} (h : ancepslaw57_own.Mix w0 W base g l i cs vs) (hb : Below W.heap.size W W1) : ancepslaw57_own.Mix w0 W1 base g l i cs vs :=
 ⟨h.len, fun j x hj hi => ⟨(h.own j x hj hi).1, Kd.R_below (h.own j x hj hi).2 hb⟩, h.old, fun j k hj hk => ⟨(h.lt j k hj hk).1, Nat.lt_of_lt_of_le (h.lt j k hj hk).2.1 hb.size, (h.lt j k hj hk).2.2⟩, h.apart⟩
/-- One row more has variants of its own: they lie behind all that was. -/
theorem ancepslaw57_own.Mix.step {w0 W W1 : World} {base g : Nat} {l : List S65} {i : Nat} {cs : List (List Value)} {vs : Nat → Value} (h : ancepslaw57_own.Mix w0 W base g l i cs vs) {x : S65} (hx : l[i]? = some x) {v : Value} {N : Nat} (hN : ∀ j k, j < i → (vs j).ownBlock = some k → k < N) (hgN : g < N) (hbN : base ≤ N)
  (hv : Kd.R k67 67 W N (fun _ => True) v x.f1) (hW : ∀ k, k ≠ g → W1.heap[k]? = W.heap[k]?) (hsz : W1.heap.size = W.heap.size) : ancepslaw57_own.Mix w0 W1 base g l (i + 1) (cs.set i [.string x.f0, v]) (fun j => if j = i then v else vs j) := by
 have hvb : ∀ k, v.ownBlock = some k → N ≤ k ∧ k < W.heap.size := fun k hk => ⟨Kd.R_base hv k hk, Kd.R_lt hv k hk⟩
 have hil : i < cs.length := by
  rw [h.len]
  by_cases e : i < l.length
  ·exact e
  ·rw [List.getElem?_eq_none (by omega)] at hx; cases hx
 refine ⟨by rw [List.length_set]; exact h.len, fun j y hj hi => ?_, fun j y hj hi => ?_, fun j k hj hk => ?_, fun j j' k hj hj' hk => ?_⟩
 ·by_cases e : j = i
  ·subst e
   obtain rfl : x = y := by rw [hx] at hj; exact Option.some.inj hj
   simp only [if_true]
   refine ⟨by rw [List.getElem?_set_self hil], ?_⟩
   exact Kd.R_lower (Kd.R_move (Kd.R_tight rfl hv) (fun k hk => hW k (fun e => by subst e; have := (hvb _ hk.symm).1; omega))) hbN
  ·simp only [if_neg e]
   obtain ⟨a, b⟩ := h.own j y hj (by omega)
   refine ⟨by rw [List.getElem?_set_ne (fun e' => e e'.symm)]; exact a, Kd.R_move b (fun k hk => hW k (fun e' => by subst e'; exact (h.lt j _ (by omega) hk.symm).2.2 rfl))⟩
 ·obtain ⟨z, hz, hk⟩ := h.old j y hj (by omega)
  exact ⟨z, by rw [List.getElem?_set_ne (by omega)]; exact hz, hk⟩
 ·by_cases e : j = i
  ·simp only [if_pos e] at hk
   have := hvb k hk
   exact ⟨by omega, by omega, by omega⟩
  ·simp only [if_neg e] at hk
   have := h.lt j k (by omega) hk
   exact ⟨this.1, by omega, this.2.2⟩
 ·have e1 : j ≠ i := by omega
  simp only [if_neg e1] at hk
  by_cases e : j' = i
  ·simp only [if_pos e]
   intro h'
   have h1 := (hvb k h').1
   have h2 := hN j k (by omega) hk
   omega
  ·simp only [if_neg e]
   exact h.apart j j' k hj (by omega) hk
/-- All rows have variants of their own: it is a row of rows, no two of which share. -/
theorem ancepslaw57_own.Mix.done {w0 W : World} {base g : Nat} {l : List S65} {cs : List (List Value)} {vs : Nat → Value} {v : Value} (h : ancepslaw57_own.Mix w0 W base g l l.length cs vs) (hg : v.ownBlock = some g ∨ v.ownBlock = none) (hr : (Kd.raw 2).R 65 W base (fun _ => True) v cs) : Kd.S k65 65 W base (fun _ => True) v l := by
 obtain ⟨_, inner, ho, hl, hrep⟩ := hr
 have hl : inner.length = cs.length * 2 := hl
 have hrep : ∀ (j : Nat) (p : List Value), cs[j]? = some p → (inner.drop (j * 2)).take 2 = p ∧ _ := hrep
 have hown : ∀ j x, l[j]? = some x → (inner.drop (j * 2)).take 2 = [.string x.f0, vs j] := by
  intro j x hj
  have hjl : j < l.length := by
   by_cases e : j < l.length
   ·exact e
   ·rw [List.getElem?_eq_none (by omega)] at hj; cases hj
  exact (hrep j _ (h.own j x hj hjl).1).1
 obtain ⟨f, hf⟩ := Kd.reps_tag (d := k65) (w := W) (base := base) (ok := fun k => True ∧ some k ≠ v.ownBlock) (xs := l) (inner := inner) (fun j k => j < l.length ∧ (vs j).ownBlock = some k)
  (fun i j k hi hj => by
   rcases Nat.lt_trichotomy i j with e | e | e
   ·exact absurd hj.2 (h.apart i j k e hj.1 hi.2)
   ·exact e
   ·exact absurd hi.2 (h.apart j i k e hi.1 hj.2))
  (fun j k hj => ⟨trivial, fun e => by
   rcases hg with hg | hg
   ·rw [hg] at e
    exact (h.lt j k hj.1 hj.2).2.2 (Option.some.inj e)
   ·rw [hg] at e; cases e⟩)
  (by rw [hl, h.len]; rfl)
  (fun j x hj => by
   have hjl : j < l.length := by
    by_cases e : j < l.length
    ·exact e
    ·rw [List.getElem?_eq_none (by omega)] at hj; cases hj
   show k65.M W base _ x ((inner.drop (j * 2)).take 2)
   rw [hown j x hj]
   exact k65_mkM W base _ x (Kd.R_mono (h.own j x hj hjl).2 (fun k hk => ⟨hjl, hk.symm⟩)))
 refine ⟨f, fun _ _ => trivial, inner, ?_, hf⟩
 rw [List.length_zipIdx, ← h.len]
 exact ho
theorem ancepslaw57_own.getD_some {l : List S65} {i : Nat} (h : i < l.length) : l[i]? = some (l.getD i z65) := by
 rw [List.getD_eq_getElem?_getD, List.getElem?_eq_getElem h]; rfl
set_option maxHeartbeats 8000000 in
set_option maxRecDepth 100000 in
theorem ancepslaw57_own.calls (A0_0 : Option Addr) (c0_0 : Nat) (l0_0 : List ByteArray) (A0_1 : Option Addr) (c0_1 : Nat) (l0_1 : List (S65)) (r1 : List ByteArray) (r2 : List S65) (w : World) (hr0_0 : Kd.C Kd.string w A0_0 l0_0.length l0_0) (hc0_0 : l0_0.length ≤ c0_0) (hr0_1 : Kd.C k65 w A0_1 l0_1.length l0_1) (hc0_1 : l0_1.length ≤ c0_1) (h : ancepslaw57_own.f l0_0 l0_1 = some (r1, r2)) :
  Calls Try.prog 28 #[.agg #[.slice A0_0 l0_0.length c0_0, .slice A0_1 l0_1.length c0_1]] w fun e w' => ∃ v0_ v1_ : Value, e = .returned (.agg #[v0_, v1_]) ∧ Kd.R Kd.string 9 w' w.heap.size (fun _ => True) v0_ r1 ∧ Kd.S k65 65 w' w.heap.size (fun _ => True) v1_ r2 ∧ Below w.heap.size w w' := by
 have hu42 := Try.underlying42
 unfold ancepslaw57_own.f at h
 by_cases hcd : l0_0.length ≤ 1000000 ∧ l0_1.length ≤ 1000000 ∧ l0_1.all (fun x => decide (x.f1.length ≤ 1000000)) = true
 case neg => rw [if_neg hcd] at h; cases h
 rw [if_pos hcd] at h
 obtain ⟨rfl, rfl⟩ := Prod.mk.inj (Option.some.inj h)
 obtain ⟨hcd1, hcd2, hcd3⟩ := hcd
 have HV := Lib.hid (show ∀ x ∈ l0_1, x.f1.length ≤ 1000000 from fun x hx => of_decide_eq_true (List.all_eq_true.1 hcd3 x hx))
 obtain ⟨ys, hyl, hyc, hyk⟩ := ancepslaw57_own.cells hr0_1
 have hyc : (Kd.raw 2).C w A0_1 l0_1.length ys := hyc
 have HR0 := Lib.hid hr0_0; have HC0 := Lib.hid hc0_0; have HY := Lib.hid hyc; have HYL := Lib.hid hyl; have HYK := Lib.hid hyk; have M0 := Lib.hid hcd1; have M1 := Lib.hid hcd2
 have HW := Lib.hid (show slices_Clone_string_string.f l0_0 = some l0_0 by unfold slices_Clone_string_string.f; rw [Option.bind_some, if_pos (by rw [List.length_nil]; omega), List.nil_append])
 clear h hr0_0 hc0_0 hr0_1 hc0_1 hyl hyk hyc hcd1 hcd2 hcd3
 go_enter Try.func28, Try.ntmps28
 go_wp2_with (first | ((with_reducible refine gate_dst (N := 1) rfl ?_); (try (refine gate_guard (by rfl) ?_; dsimp only)); refine bX 1 #[.slice A0_0 l0_0.length c0_0, .slice A0_1 l0_1.length c0_1] 42 ?_; intro b1 hb1 w1 hbox hbb; have Q1 := Lib.hid hbox; have B1 := Lib.hid hbb; have N1 := Lib.hid (show w.heap.size ≤ b1 from Nat.le_of_eq hb1.symm); clear hb1 hbox hbb) | ((with_reducible refine gate_dst (N := 2) rfl ?_); (try (refine gate_guard (by rfl) ?_; dsimp only)); refine bX 2 #[.slice none 0 0, .slice none 0 0] 42 ?_; intro b2 hb2 w2 hbox hbb; have P2 := Lib.hid hbox; have B2 := Lib.hid (B1.out.trans (hbb.mono B1.out.size)); have Q2 := Lib.hid (blk_below Q1.out hbb); have N2 := Lib.hid (show w.heap.size ≤ b2 from by have := B1.out.size; omega); have D2 := Lib.hid (show b1 < b2 from by have := blk_lt Q1.out; omega); clear hb2 hbox hbb Q1 B1))
 refine start_ (n := 10) (S := fun w' => w'.cell? ⟨b1, 0, none⟩ = some (.slice A0_0 l0_0.length c0_0) ∧ w'.cell? ⟨b1, 1, none⟩ = some (.slice A0_1 l0_1.length c0_1)) (ds := [7, 9]) #[false, false, false, false, false, false, false, false, false, false] (by kernel_rfl) rfl rfl ⟨(blk_cell Q2.out 0).trans rfl, (blk_cell Q2.out 1).trans rfl⟩ (fun hHeld => ?_)
 have Q3 := Lib.hid (blk_drew Q2.out); have P3 := Lib.hid (blk_drew P2.out); have B3 := Lib.hid (below_drew1 B2.out)
 clear Q2 P2 B2
 generalize w2.drew = w3 at Q3 P3 B3 hHeld ⊢
 refine ph_ 0 (some 4) ?_
 refine th_ 1 (some 5) hHeld ?_
 refine ph_ 3 (some 7) ?_
 refine th_ 4 (some 8) hHeld ?_
 refine one_ (i := 2) (N := (some 6)) #[true, true, true, true, true, false, false, false, false, false] rfl rfl (by kernel_rfl) (by decide) (fun K hK => ?_)
 refine goes_ Try.func16 (by kernel_rfl) rfl #[.slice A0_0 l0_0.length c0_0] (by rfl) rfl rfl (by (try simp only [List.map_toArray, List.map_cons, List.map_nil]); first | done | rfl) ?_
 refine (slices_Clone_string_string.calls A0_0 c0_0 l0_0 l0_0 _ (Kd.C_below HR0.out B3.out) HC0.out HW.out).mono ?_
 rintro e w4 ⟨v6, rfl, hr6, hb⟩
 refine ⟨_, rfl, ?_⟩
 have Q4 := Lib.hid (blk_below Q3.out hb); have P4 := Lib.hid (blk_below P3.out hb); have B4 := Lib.hid (B3.out.trans (hb.mono B3.out.size))
 obtain ⟨A6, c6, rfl⟩ := Kd.R_slice hr6
 have R6 := Lib.hid (show Kd.R Kd.string 9 w4 w.heap.size (fun q => q ≠ b1 ∧ q ≠ b2) (.slice A6 l0_0.length c6) l0_0 from Kd.R_lower (Kd.R_mono (Kd.R_bound hr6) (fun q hq => by have h1 := hq.2.1; have h2 := blk_lt Q3.out; have h3 := blk_lt P3.out; omega)) B3.out.size)
 refine hK.out _ _ ⟨(blk_cell Q4.out 0).trans rfl, (blk_cell Q4.out 1).trans rfl⟩ (fun hHeld => ?_)
 clear hK K hb hr6 Q3 P3 B3
 refine norm_ (a' := ?_) ?_ ?_
 rotate_left
 ·show Act.put _ (some 6) _ = _
  simp only [Act.put, List.setIfInBounds_toArray, List.set_cons_zero, List.set_cons_succ, i64_w, i32_w]
  rfl
 refine ph_ 6 (some 10) ?_
 refine one_ (i := 5) (N := (some 9)) #[true, true, true, true, true, true, true, false, false, false] rfl rfl (by kernel_rfl) (by decide) (fun K hK => ?_)
 refine goes_ Try.func57 (by kernel_rfl) rfl #[.slice A0_1 l0_1.length c0_1] (by rfl) rfl rfl (by (try simp only [List.map_toArray, List.map_cons, List.map_nil]); first | done | rfl) ?_
 refine (ancepslaw57_own.clone A0_1 c0_1 l0_1.length ys HYL.out _ (Kd.C_below HY.out B4.out) M1.out).mono ?_
 rintro e w5 ⟨v9, rfl, hr9, hb⟩
 refine ⟨_, rfl, ?_⟩
 have Q5 := Lib.hid (blk_below Q4.out hb); have P5 := Lib.hid (blk_below P4.out hb); have B5 := Lib.hid (B4.out.trans (hb.mono B4.out.size)); have S6 := Lib.hid (Kd.R_below R6.out hb)
 obtain ⟨A9, c9, rfl⟩ := Kd.R_slice hr9
 rw [HYL.out] at hr9 ⊢
 have R9 := Lib.hid (show (Kd.raw 2).R 65 w5 w.heap.size (fun q => q ≠ b1 ∧ q ≠ b2 ∧ some q ≠ (Value.slice A6 l0_0.length c6).ownBlock) (.slice A9 l0_1.length c9) ys from Kd.R_lower (Kd.R_mono (Kd.R_bound hr9) (fun q hq => by
  have h1 := hq.2.1; have h2 := blk_lt Q4.out; have h3 := blk_lt P4.out
  refine ⟨by omega, by omega, fun e => ?_⟩
  have := Kd.R_lt R6.out q e.symm
  omega)) B4.out.size)
 refine hK.out _ _ ⟨(blk_cell Q5.out 0).trans rfl, (blk_cell Q5.out 1).trans rfl⟩ (fun hHeld => ?_)
 clear hK K hb hr9 Q4 P4 B4 R6
 have hf0 := blk_frozen Q5.out 0
 have hf1 := blk_frozen Q5.out 1
 obtain ⟨hc0, hc1⟩ := hHeld
 refine norm_ (a' := ?_) ?_ ?_
 rotate_left
 ·show Act.put _ (some 9) _ = _
  simp only [Act.put, List.setIfInBounds_toArray, List.set_cons_zero, List.set_cons_succ, i64_w, i32_w]
  rfl
 refine last_ (i := 7) (N := none) #[true, true, true, true, true, true, true, true, false, false] rfl rfl (by kernel_rfl) (by decide) (fun K hK => ?_)
 refine skip_ (w1 := ?_) (by rfl) rfl ?_ ?_
 rotate_left
 ·go_simp
  rfl
 refine hK.out _ _ ?_
 clear hK K
 have Q6 := Lib.hid (show (w5.setCell ⟨b1, 0, none⟩ (.slice A6 l0_0.length c6)).heap[b1]? = some (.cells #[.slice A6 l0_0.length c6, .slice A0_1 l0_1.length c0_1] 42 (0, 0)) from blk_put (cs := #[.slice A0_0 l0_0.length c0_0, .slice A0_1 l0_1.length c0_1]) Q5.out 0 (.slice A6 l0_0.length c6) rfl)
 refine ph_ 8 (some 11) ?_
 clear hf0 hf1 hc0 hc1
 have hf1 := blk_frozen Q6.out 1
 have hc1 := (blk_cell Q6.out 1).trans (show _ = some (Value.slice A0_1 l0_1.length c0_1) from rfl)
 refine last_ (i := 9) (N := none) #[true, true, true, true, true, true, true, true, true, true] rfl rfl (by kernel_rfl) (by decide) (fun K hK => ?_)
 refine skip_ (w1 := ?_) (by rfl) rfl ?_ ?_
 rotate_left
 ·go_simp
  rfl
 refine hK.out _ _ ?_
 clear hK K
 refine done_ (by kernel_rfl) ?_
 have Q7 := Lib.hid (show ((w5.setCell ⟨b1, 0, none⟩ (.slice A6 l0_0.length c6)).setCell ⟨b1, 1, none⟩ (.slice A9 l0_1.length c9)).heap[b1]? = some (.cells #[.slice A6 l0_0.length c6, .slice A9 l0_1.length c9] 42 (0, 0)) from blk_put (cs := #[.slice A6 l0_0.length c6, .slice A0_1 l0_1.length c0_1]) Q6.out 1 (.slice A9 l0_1.length c9) rfl)
 have P7 := Lib.hid (show ((w5.setCell ⟨b1, 0, none⟩ (.slice A6 l0_0.length c6)).setCell ⟨b1, 1, none⟩ (.slice A9 l0_1.length c9)).heap[b2]? = some (.cells #[.slice none 0 0, .slice none 0 0] 42 (0, 0)) from blk_far (p := ⟨b1, 1, none⟩) (blk_far (p := ⟨b1, 0, none⟩) P5.out (Nat.ne_of_gt D2.out) _) (Nat.ne_of_gt D2.out) _)
 have B7 := Lib.hid (below_set (below_set B5.out N1.out (j := 0) (v := .slice A6 l0_0.length c6)) N1.out (j := 1) (v := .slice A9 l0_1.length c9))
 have S7 := Lib.hid (Kd.R_far (Kd.R_far S6.out (p := ⟨b1, 0, none⟩) (fun q hq => hq.1) (.slice A6 l0_0.length c6)) (p := ⟨b1, 1, none⟩) (fun q hq => hq.1) (.slice A9 l0_1.length c9))
 have R7 := Lib.hid (Kd.R_far (Kd.R_far R9.out (p := ⟨b1, 0, none⟩) (fun q hq => hq.1) (.slice A6 l0_0.length c6)) (p := ⟨b1, 1, none⟩) (fun q hq => hq.1) (.slice A9 l0_1.length c9))
 clear hf1 hc1 Q6 Q5 P5 B5 S6 R9
 generalize ((w5.setCell ⟨b1, 0, none⟩ (.slice A6 l0_0.length c6)).setCell ⟨b1, 1, none⟩ (.slice A9 l0_1.length c9)) = w7 at Q7 P7 B7 S7 R7 ⊢
 have hc1 := (blk_cell Q7.out 1).trans (show _ = some (Value.slice A9 l0_1.length c9) from rfl)
 go_wp2_with (fail)
 clear hc1
 go_loopg [15] (l0_1.length + 1) (fun kq v15 wr => ∃ (i : Nat) (cs : List (List Value)) (vs : Nat → Value), v15 = .int .i64 i ∧ Hid (i + kq = l0_1.length + 1) ∧ Hid (i ≤ l0_1.length) ∧ Hid (Below w.heap.size w wr) ∧ Hid (wr.heap[b1]? = some (.cells #[.slice A6 l0_0.length c6, .slice A9 l0_1.length c9] 42 (0, 0))) ∧ Hid (wr.heap[b2]? = some (.cells #[.slice none 0 0, .slice none 0 0] 42 (0, 0))) ∧ Hid (Kd.R Kd.string 9 wr w.heap.size (fun q => q ≠ b1 ∧ q ≠ b2) (.slice A6 l0_0.length c6) l0_0) ∧ Hid ((Kd.raw 2).R 65 wr w.heap.size (fun q => q ≠ b1 ∧ q ≠ b2 ∧ some q ≠ (Value.slice A6 l0_0.length c6).ownBlock) (.slice A9 l0_1.length c9) cs) ∧ Hid (∀ g, (Value.slice A9 l0_1.length c9).ownBlock = some g → ancepslaw57_own.Mix w wr w.heap.size g l0_1 i cs vs))
 case atStart => exact ⟨0, ys, fun _ => .slice none 0 0, rfl, Lib.hid (Nat.zero_add _), Lib.hid (Nat.zero_le _), B7, Q7, P7, S7, R7, Lib.hid (fun g _ => ⟨HYL.out, fun j x _ hi => absurd hi (Nat.not_lt_zero _), fun j x hj _ => HYK.out j x hj, fun j k hj _ => absurd hj (Nat.not_lt_zero _), fun j j' k _ hj' _ => absurd hj' (Nat.not_lt_zero _)⟩)⟩
 case round =>
  clear Q7 P7 B7 S7 R7
  obtain ⟨i, cs, vs, rfl, HI, HJ, HB, HQ, HP, HS, HR, HX⟩ := hrel
  by_cases f1 : i < l0_1.length
  ·cases gk with
   | zero => exact absurd HI.out (by omega)
   | succ k1 =>
    have hx := ancepslaw57_own.getD_some f1
    generalize l0_1.getD i z65 = x at hx
    obtain ⟨g, cg, eg, hg1, hg2, cl, hg3⟩ := Kd.R_form HR.out (by have := (Kd.R_reads' HR.out).1; omega)
    injection eg with e1' e2' e3'
    subst e1'; subst e3'; clear e2'
    have MX := HX.out g rfl
    obtain ⟨y, hy, hk⟩ := MX.old i x hx (Nat.le_refl i)
    obtain ⟨Av, cv, rfl, hlv, hCv⟩ := k65_open hk
    obtain ⟨ce, hcl, hM, hcc, hfr⟩ := Kd.R_elem HR.out [] (i : Int) (by omega) (by omega)
    have hce : ce = [.string x.f0, .slice Av x.f1.length cv] := by
     have h1 := hM.1
     rw [Int.toNat_natCast, List.getD_eq_getElem?_getD, hy] at h1
     exact h1
    subst hce
    have hcc : ∀ (j : Nat) (u : Value), [Value.string x.f0, Value.slice Av x.f1.length cv][j]? = some u → wr.cell? ⟨g, i * 2 + j, none⟩ = some u := by rw [Int.toNat_natCast] at hcc; exact hcc
    have hfr : ∀ j, wr.frozen? ⟨g, i * 2 + j, none⟩ = false := by rw [Int.toNat_natCast] at hfr; exact hfr
    have XX := Lib.hid hx; have MM := Lib.hid MX; have LV := Lib.hid hlv; have CV := Lib.hid hCv; have CC := Lib.hid hcc; have FR := Lib.hid hfr; have G1 := Lib.hid hg1; have G3 := Lib.hid hg3; have LX := Lib.hid (HV.out x (List.mem_of_getElem? hx))
    have b1' : decide ((i : Int) < (l0_1.length : Int)) = true := decide_eq_true (by omega)
    have m1 : (0 ≤ (i : Int)) = True := eq_true (by omega)
    have m2 : ((i : Int) < (l0_1.length : Int)) = True := eq_true (by omega)
    have F1 := Lib.hid f1
    clear hx MX hy hk hlv hCv hcl hM hcc hfr hg1 hg2 hg3 HX f1
    go_wp2_with (fail)
    refine start_ (n := 13) (S := fun w' => w'.cell? ⟨b1, 1, none⟩ = some (.slice (some ⟨g, 0, none⟩) l0_1.length c9) ∧ w'.cell? ⟨g, i * 2 + 1, none⟩ = some (.slice Av x.f1.length cv)) (ds := [12]) #[false, false, false, false, false, false, false, false, false, false, false, false, false] (by kernel_rfl) rfl rfl ⟨(blk_cell HQ.out 1).trans rfl, CC.out 1 _ rfl⟩ (fun hHeld => ?_)
    refine ph_ 0 (some 18) ?_
    refine th_ 1 (some 19) hHeld ?_
    refine ph_ 2 (some 20) ?_
    refine ph_ 3 (some 21) ?_
    refine th_ 4 (some 22) hHeld ?_
    refine ph_ 5 (some 23) ?_
    refine ph_ 6 (some 24) ?_
    refine ph_ 7 (some 25) ?_
    refine th_ 8 (some 26) hHeld ?_
    have HQ1 := Lib.hid (blk_drew HQ.out); have HP1 := Lib.hid (blk_drew HP.out); have HB1 := Lib.hid (below_drew1 HB.out)
    refine one_ (i := 9) (N := (some 27)) #[true, true, true, true, true, true, true, true, true, true, false, false, false] rfl rfl (by kernel_rfl) (by decide) (fun K hK => ?_)
    refine goes_ Try.func56 (by kernel_rfl) rfl #[.slice Av x.f1.length cv] (by rfl) rfl rfl (by (try simp only [List.map_toArray, List.map_cons, List.map_nil]); first | done | rfl) ?_
    refine (api_Variant_56.calls Av cv x.f1 x.f1 _ (Kd.C_below CV.out HB1.out) LV.out (by unfold api_Variant_56.f; rw [Option.bind_some, if_pos (by have := LX.out; rw [List.length_nil]; omega), List.nil_append])).mono ?_
    rintro e w9 ⟨v27, rfl, hr27, hb⟩
    refine ⟨_, rfl, ?_⟩
    obtain ⟨A27, c27, rfl⟩ := Kd.R_slice hr27
    have BL := Lib.hid (show Below wr.heap.size wr w9 from (below_drew1 (Below.refl _ _)).trans hb)
    have HQ2 := Lib.hid (blk_below HQ1.out hb); have HP2 := Lib.hid (blk_below HP1.out hb); have HB2 := Lib.hid (HB1.out.trans (hb.mono HB1.out.size))
    have HS2 := Lib.hid (Kd.R_below HS.out BL.out); have HR2 := Lib.hid (Kd.R_below HR.out BL.out); have MM2 := Lib.hid (MM.out.below BL.out); have R27 := Lib.hid (show Kd.R k67 67 w9 wr.heap.size (fun _ => True) (.slice A27 x.f1.length c27) x.f1 from hr27)
    have GL := Lib.hid (show g < wr.heap.size from blk_lt G3.out)
    have G9 := Lib.hid (blk_below G3.out BL.out)
    have CC9 := Lib.hid (show ∀ (j : Nat) (u : Value), [Value.string x.f0, Value.slice Av x.f1.length cv][j]? = some u → w9.cell? ⟨g, i * 2 + j, none⟩ = some u from fun j u hu => (BL.out.cell (World.block_lt_of_cell? wr _ (CC.out j u hu))).trans (CC.out j u hu))
    refine hK.out _ _ ⟨(blk_cell HQ2.out 1).trans rfl, CC9.out 1 _ rfl⟩ (fun hHeld => ?_)
    clear hK K hb hr27 HQ1 HP1 HB1
    have hf9 : w9.frozen? ⟨g, i * 2 + 1, none⟩ = false := blk_frozen G9.out _
    have hc9 : w9.cell? ⟨g, i * 2 + 1, none⟩ = some (.slice Av x.f1.length cv) := CC9.out 1 _ rfl
    refine norm_ (a' := ?_) ?_ ?_
    rotate_left
    ·show Act.put _ (some 27) _ = _
     simp only [Act.put, List.setIfInBounds_toArray, List.set_cons_zero, List.set_cons_succ, i64_w, i32_w]
     rfl
    refine ph_ 10 (some 28) ?_
    refine ph_ 11 (some 29) ?_
    refine last_ (i := 12) (N := none) #[true, true, true, true, true, true, true, true, true, true, true, true, true] rfl rfl (by kernel_rfl) (by decide) (fun K hK => ?_)
    refine skip_ (w1 := ?_) (by rfl) rfl ?_ ?_
    rotate_left
    ·go_simp
     rfl
    refine hK.out _ _ ?_
    clear hK K
    refine done_ (by kernel_rfl) ?_
    have NG : g ≠ b1 ∧ g ≠ b2 ∧ some g ≠ (Value.slice A6 l0_0.length c6).ownBlock := HR.out.1 g rfl
    have SG := Lib.hid (Kd.R_seg HR2.out (i : Int) (by omega) (by have := F1.out; omega) (c := [.string x.f0, .slice Av x.f1.length cv]) (seg := [.slice A27 x.f1.length c27]) (j := 1) (okp := fun _ => False) rfl (by rw [Int.toNat_natCast]; exact CC9.out) (Nat.le_refl 2) (x' := [.string x.f0, .slice A27 x.f1.length c27]) ⟨rfl, rfl, by intro u hu; simp at hu; rcases hu with rfl | rfl <;> rfl⟩ (fun _ hk => hk.elim))
    have SG1 := Lib.hid (show (Kd.raw 2).R 65 (w9.setCell ⟨g, i * 2 + 1, none⟩ (.slice A27 x.f1.length c27)) w.heap.size (fun q => q ≠ b1 ∧ q ≠ b2 ∧ some q ≠ (Value.slice A6 l0_0.length c6).ownBlock) (.slice (some ⟨g, 0, none⟩) l0_1.length c9) (cs.set i [.string x.f0, .slice A27 x.f1.length c27]) from by have h := SG.out.1; rw [Int.toNat_natCast] at h; exact h)
    have HQ3 := Lib.hid (blk_far (p := ⟨g, i * 2 + 1, none⟩) HQ2.out (fun e => NG.1 e.symm) (.slice A27 x.f1.length c27))
    have HP3 := Lib.hid (blk_far (p := ⟨g, i * 2 + 1, none⟩) HP2.out (fun e => NG.2.1 e.symm) (.slice A27 x.f1.length c27))
    have HB3 := Lib.hid (below_set HB2.out G1.out (j := i * 2 + 1) (v := .slice A27 x.f1.length c27))
    have HS3 := Lib.hid (Kd.R_mono (Kd.R_far (Kd.R_types HS2.out G9.out (by decide)) (p := ⟨g, i * 2 + 1, none⟩) (fun q hq => hq.2) (.slice A27 x.f1.length c27)) (fun q hq => hq.1))
    have MX3 := Lib.hid (MM2.out.step XX.out (N := wr.heap.size) (fun j k hj hk => (MM.out.lt j k hj hk).2.1) GL.out HB.out.size R27.out (W1 := w9.setCell ⟨g, i * 2 + 1, none⟩ (.slice A27 x.f1.length c27)) (fun k hk => Below.heap_setCell _ _ _ _ hk) (by simp [World.setCell]))
    clear SG HQ2 HP2 HB2 HS2 HR2 MM2 R27 hf9 hc9 hHeld CC9 G9
    go_wp2_with (fail)
    go_roundg k1
    case measure => omega
    case rel => exact ⟨i + 1, cs.set i [.string x.f0, .slice A27 x.f1.length c27], fun j => if j = i then .slice A27 x.f1.length c27 else vs j, by (congr 1; have := F1.out; have := M1.out; unfold wrap64; omega), Lib.hid (by have := HI.out; omega), Lib.hid F1.out, HB3, HQ3, HP3, HS3, SG1, Lib.hid (fun g' hg' => by obtain rfl : g = g' := Option.some.inj hg'; exact MX3.out)⟩
  ·obtain rfl : i = l0_1.length := by have := HJ.out; omega
   have b1' : decide ((l0_1.length : Int) < (l0_1.length : Int)) = false := decide_eq_false (by omega)
   have hq0 := (blk_cell HQ.out 0).trans (show _ = some (Value.slice A6 l0_0.length c6) from rfl)
   have hq1 := (blk_cell HQ.out 1).trans (show _ = some (Value.slice A9 l0_1.length c9) from rfl)
   have hp0 := (blk_cell HP.out 0).trans (show _ = some (Value.slice none 0 0) from rfl)
   have hp1 := (blk_cell HP.out 1).trans (show _ = some (Value.slice none 0 0) from rfl)
   have hfp0 := blk_frozen HP.out 0
   have hfp1 := blk_frozen HP.out 1
   have SF : Kd.S k65 65 wr w.heap.size (fun _ => True) (.slice A9 l0_1.length c9) l0_1 := by
    obtain ⟨inner, ho⟩ := Kd.R_own HR.out
    rcases ho.2 with ⟨hv, _⟩ | ⟨g, cap', cur, hv, _⟩
    ·have h0 : l0_1 = [] := by
      injection hv with _ h2 _
      exact List.eq_nil_of_length_eq_zero h2
     rw [hv, h0]
     exact Kd.S_nil _ _ _ _ _
    ·have hob : (Value.slice A9 l0_1.length c9).ownBlock = some g := by rw [hv]; rfl
     exact (HX.out g hob).done (.inl hob) (Kd.R_mono HR.out (fun _ _ => trivial))
   have SF2 := Lib.hid (Kd.S_mono (Kd.S_far (Kd.S_far (Kd.S_types SF HP.out (by decide)) (p := ⟨b2, 0, none⟩) (fun q hq => hq.2) (.slice A6 l0_0.length c6)) (p := ⟨b2, 1, none⟩) (fun q hq => hq.2) (.slice A9 l0_1.length c9)) (fun _ _ => trivial))
   have SR2 := Lib.hid (Kd.R_mono (Kd.R_far (Kd.R_far HS.out (p := ⟨b2, 0, none⟩) (fun q hq => hq.2) (.slice A6 l0_0.length c6)) (p := ⟨b2, 1, none⟩) (fun q hq => hq.2) (.slice A9 l0_1.length c9)) (fun _ _ => trivial))
   have SB2 := Lib.hid (below_set (below_set HB.out N2.out (j := 0) (v := .slice A6 l0_0.length c6)) N2.out (j := 1) (v := .slice A9 l0_1.length c9))
   clear f1 SF
   go_wp2_with (fail)
   refine bodyPost_ret (results_single rfl (.cell b2 42 #[.slice A6 l0_0.length c6, .slice A9 l0_1.length c9] (0, 0) _ rfl (blk_put (cs := #[.slice A6 l0_0.length c6, .slice none 0 0]) (blk_put (cs := #[.slice none 0 0, .slice none 0 0]) HP.out 0 _ rfl) 1 _ rfl) Try.underlying42 rfl (by kernel_rfl) .nil)) rfl ?_
   exact ⟨_, _, rfl, SR2.out, SF2.out, SB2.out⟩

/-! ### ancepsref57_find: function 59 -/
def ancepsref57_find.l0 : Nat → List ByteArray → ByteArray → Int → Option (Int)
 | 0, _, _, _ => none
 | k + 1, x0, x1, x5 => if x5 < (x0.length : Int) then (if 0 ≤ x5 then (if (rdOf ByteArray.empty x0 x5).toList = x1.toList then (some x5) else (ancepsref57_find.l0 k x0 x1 (wrap64 (x5 + 1)))) else (none)) else (some (-1))
def ancepsref57_find.f (k : Nat) (l0 : List ByteArray) (a1 : ByteArray) : Option (Int) := ancepsref57_find.l0 k l0 a1 0
theorem ancepsref57_find.mono_l : ∀ k, (∀ y0 y1 y2, LeO (ancepsref57_find.l0 k y0 y1 y2) (ancepsref57_find.l0 (k + 1) y0 y1 y2))
 | 0 => fun _ _ _ r h => by simp [ancepsref57_find.l0] at h
 | k + 1 => by
  have ih0 := ancepsref57_find.mono_l k
  ·intro y0 y1 y2
   unfold ancepsref57_find.l0
   repeat' first
   | (with_reducible exact ih0 _ _ _)
   | (with_reducible exact LeO.refl _)
   | (with_reducible exact LeO.none _)
   | (with_reducible refine LeO.ite ?_ ?_)
   | (with_reducible refine LeO.bind ?_ (fun _ => ?_))
   | exact ih0 _ _ _
   | exact LeO.none _
   | refine LeO.ite ?_ ?_
   | refine LeO.bind ?_ (fun _ => ?_)
theorem ancepsref57_find.mono : ∀ a0 a1 k, LeO (ancepsref57_find.f k a0 a1) (ancepsref57_find.f (k + 1) a0 a1) := by
 intro a0 a1 k
 have ih0 := ancepsref57_find.mono_l k
 unfold ancepsref57_find.f
 repeat' first
   | (with_reducible exact ih0 _ _ _)
   | (with_reducible exact LeO.refl _)
   | (with_reducible exact LeO.none _)
   | (with_reducible refine LeO.ite ?_ ?_)
   | (with_reducible refine LeO.bind ?_ (fun _ => ?_))
   | exact ih0 _ _ _
   | exact LeO.none _
   | refine LeO.ite ?_ ?_
   | refine LeO.bind ?_ (fun _ => ?_)
set_option maxHeartbeats 8000000 in
set_option maxRecDepth 100000 in
theorem ancepsref57_find.calls (k : Nat) (A0 : Option Addr) (c0 : Nat) (l0 : List ByteArray) (a1 : ByteArray) (r : Int) (w : World) (hr0 : Kd.C Kd.string w A0 l0.length l0) (hc0 : l0.length ≤ c0) (h : ancepsref57_find.f k l0 a1 = some r) :
  Calls Try.prog 59 #[.slice A0 l0.length c0, .string a1] w fun e w' => e = .returned (.int .i64 r) ∧ Drawn0 w w' := by
 have HR0 := Aside0.mk hr0
 have HC0 := Aside0.mk hc0
 clear hr0 hc0
 have H : (ancepsref57_find.l0 k l0 a1 0) = some r := h
 clear h
 have H' := Aside0.mk H
 clear H
 go_enter Try.func59, Try.ntmps59
 go_wp2
 go_loopg [5] k (fun kq v5 w' => ∃ (x5_1 : Int), v5 = .int .i64 x5_1 ∧ Aside0 (ancepsref57_find.l0 kq l0 a1 x5_1 = some r) ∧ Aside0 (kq ≤ k) ∧ Drawn0 w w')
 case atStart => exact ⟨(0), eV, H', ⟨Nat.le_refl _⟩, dR⟩
 case round =>
  clear H'
  (try clear p2)
  obtain ⟨x5_1, rfl, HA, HK1, ⟨m1, rfl⟩⟩ := hrel
  cases gk with
  | zero => exact absurd HA.out (by simp [ancepsref57_find.l0])
  | succ k1 =>
   have H := HA.out
   clear HA
   simp only [ancepsref57_find.l0] at H
   by_cases c3 : x5_1 < (l0.length : Int)
   ·rw [if_pos c3] at H
    have c3b0 : decide (x5_1 < (l0.length : Int)) = true := decide_eq_true c3
    clear c3
    by_cases c4 : 0 ≤ x5_1
    ·rw [if_pos c4] at H
     have c4b0 : decide (0 ≤ x5_1) = true := decide_eq_true c4
     clear c4
     by_cases c5 : (rdOf ByteArray.empty l0 x5_1).toList = a1.toList
     ·rw [if_pos c5] at H
      have c5b0 : ((rdOf ByteArray.empty l0 x5_1).toList == a1.toList) = true := beq_iff_eq.mpr c5
      have c5b1 : ((rdOf ByteArray.empty l0 x5_1).toList != a1.toList) = false := bne_eq_false_iff_eq.mpr c5
      clear c5
      obtain rfl := Option.some.inj H
      have p269 := oD (0 ≤ (x5_1 : Int))
      have q269 := oD (x5_1 < (l0.length : Int))
      obtain ⟨ad269, e269, hx269_0⟩ := Kd.at_string HR0.out x5_1 p269 q269
      cases e269
      replace p269 := eq_true p269
      replace q269 := eq_true q269
      go_wp2
      go_ret
      exact ⟨eV, dR⟩
     ·rw [if_neg c5] at H
      have c5b0 : ((rdOf ByteArray.empty l0 x5_1).toList == a1.toList) = false := beq_eq_false_iff_ne.mpr c5
      have c5b1 : ((rdOf ByteArray.empty l0 x5_1).toList != a1.toList) = true := bne_iff_ne.mpr c5
      have H' := Aside0.mk H
      clear H
      have p269 := oD (0 ≤ (x5_1 : Int))
      have q269 := oD (x5_1 < (l0.length : Int))
      obtain ⟨ad269, e269, hx269_0⟩ := Kd.at_string HR0.out x5_1 p269 q269
      cases e269
      replace p269 := eq_true p269
      replace q269 := eq_true q269
      go_wp2
      go_roundg k1
      case measure => have := HK1.out; omega
      case rel => exact ⟨(wrap64 (x5_1 + 1)), eV, H', ⟨by have := HK1.out; omega⟩, dR⟩
    ·rw [if_neg c4] at H
     exact absurd H (by simp)
   ·rw [if_neg c3] at H
    have c3b0 : decide (x5_1 < (l0.length : Int)) = false := decide_eq_false c3
    clear c3
    obtain rfl := Option.some.inj H
    go_wp2
    go_ret
    exact ⟨eV, dR⟩

/-! ### ancepsref05_small: function 82 -/
def ancepsref05_small.f (a0 : Int) : Option (Bool) := if a0 ≥ 97 then (some (decide (a0 ≤ 122))) else (some false)
set_option maxHeartbeats 8000000 in
set_option maxRecDepth 100000 in
theorem ancepsref05_small.calls (a0 : Int) (r : Bool) (w : World) (h : ancepsref05_small.f a0 = some r) :
  Calls Try.prog 82 #[.int .u8 a0] w fun e w' => e = .returned (.bool r) ∧ Drawn0 w w' := by
 have H : (if a0 ≥ 97 then (some (decide (a0 ≤ 122))) else (some false)) = some r := h
 clear h
 by_cases c2 : a0 ≥ 97
 ·rw [if_pos c2] at H
  have c2b0 : decide (97 ≤ a0) = true := decide_eq_true c2
  clear c2
  obtain rfl := Option.some.inj H
  go_enter Try.func82, Try.ntmps82
  go_wp2
  go_ret
  exact ⟨eV, dR⟩
 ·rw [if_neg c2] at H
  have c2b0 : decide (97 ≤ a0) = false := decide_eq_false c2
  clear c2
  obtain rfl := Option.some.inj H
  go_enter Try.func82, Try.ntmps82
  go_wp2
  go_ret
  exact ⟨eV, dR⟩

/-! ### ancepsref05_digit: function 83 -/
def ancepsref05_digit.f (a0 : Int) : Option (Bool) := if a0 ≥ 48 then (some (decide (a0 ≤ 57))) else (some false)
set_option maxHeartbeats 8000000 in
set_option maxRecDepth 100000 in
theorem ancepsref05_digit.calls (a0 : Int) (r : Bool) (w : World) (h : ancepsref05_digit.f a0 = some r) :
  Calls Try.prog 83 #[.int .u8 a0] w fun e w' => e = .returned (.bool r) ∧ Drawn0 w w' := by
 have H : (if a0 ≥ 48 then (some (decide (a0 ≤ 57))) else (some false)) = some r := h
 clear h
 by_cases c2 : a0 ≥ 48
 ·rw [if_pos c2] at H
  have c2b0 : decide (48 ≤ a0) = true := decide_eq_true c2
  clear c2
  obtain rfl := Option.some.inj H
  go_enter Try.func83, Try.ntmps83
  go_wp2
  go_ret
  exact ⟨eV, dR⟩
 ·rw [if_neg c2] at H
  have c2b0 : decide (48 ≤ a0) = false := decide_eq_false c2
  clear c2
  obtain rfl := Option.some.inj H
  go_enter Try.func83, Try.ntmps83
  go_wp2
  go_ret
  exact ⟨eV, dR⟩

end Go.Proofs.Ytmjigfoldeekmaa.X
