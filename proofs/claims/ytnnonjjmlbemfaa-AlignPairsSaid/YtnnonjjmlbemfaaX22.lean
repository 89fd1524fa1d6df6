-- printed by this session's xprint.py: out of the translation, by the kit's print with additions; Lean checks it
import Derived.Test.YtnnonjjmlbemfaaBld
import Derived.Test.YtnnonjjmlbemfaaWN
import Derived.Test.YtnnonjjmlbemfaaWShare
import Derived.Test.YtnnonjjmlbemfaaWRepsOne
import Derived.Test.YtnnonjjmlbemfaaX0
import Derived.Test.YtnnonjjmlbemfaaX3
import Derived.Test.YtnnonjjmlbemfaaX7
import Derived.Test.YtnnonjjmlbemfaaX10
import Derived.Test.YtnnonjjmlbemfaaX15
import Derived.Test.YtnnonjjmlbemfaaX19
namespace Go.Proofs.Ytnnonjjmlbemfaa.X
open Go.RowKit Go.Proofs.YtnnonjjmlbemfaaW.PrintWords Go.Proofs.YtnnonjjmlbemfaaW.PrintLast Go.Proofs.YtnnonjjmlbemfaaW.PrintMore
attribute [local go_sem] max2_int min2_int max_two min_two max_three min_three max_four min_four isSome_setCell binOp_gtr_str binOp_leq_str   -- for this text's walks alone
set_option linter.unusedVariables false
set_option linter.unusedSimpArgs false

-- NOT PRINTED: function 47 (align_Pairs_1)

/-! ### align_Pairs: function 22 -/
def align_Pairs.cs (l : List S45) : List Value := l.flatMap fun x => [.int .i64 x.f0, .int .i64 x.f1]
theorem align_Pairs.cs_app (l m : List S45) : align_Pairs.cs (l ++ m) = align_Pairs.cs l ++ align_Pairs.cs m := List.flatMap_append
/-- a variable in block b that holds a row of pairs, the row in block r (none: it has none yet) -/
def align_Pairs.Po (W : World) (base b : Nat) (r : Option Nat) (l : List S45) : Prop :=
  ∃ v, W.heap[b]? = some (.cells #[v] 38 (0, 0)) ∧ W.ownsRow base 45 2 v l.length (align_Pairs.cs l) ∧ v.ownBlock = r ∧ r ≠ some b
theorem align_Pairs.owns_kept {W W' : World} {base e n : Nat} {v : Value} {m : Nat} {xs : List Value} {r : Option Nat} {S : Nat → Prop} (ho : W.ownsRow base e m v n xs) (hv : v.ownBlock = r) (hf : Bld.Fr S W W') (hr : ∀ k, r = some k → ¬ S k) : W'.ownsRow base e m v n xs := by
  obtain ⟨h1, h2⟩ := ho
  refine ⟨h1, h2.imp_right ?_⟩
  rintro ⟨g, cap, cur, rfl, hg, hh, rest⟩
  exact ⟨g, cap, cur, rfl, hg, hf.heap hh (hr g (by rw [← hv]; rfl)), rest⟩
theorem align_Pairs.Po.fr {S : Nat → Prop} {W W' : World} {base b : Nat} {r : Option Nat} {l : List S45} (h : align_Pairs.Po W base b r l) (hf : Bld.Fr S W W') (hb : ¬ S b) (hr : ∀ k, r = some k → ¬ S k) : align_Pairs.Po W' base b r l := by
  obtain ⟨v, hk, ho, hv, hne⟩ := h
  exact ⟨v, hf.heap hk hb, align_Pairs.owns_kept ho hv hf hr, hv, hne⟩
theorem align_Pairs.Po.lt {W : World} {base b : Nat} {r : Option Nat} {l : List S45} (h : align_Pairs.Po W base b r l) : b < W.heap.size ∧ ∀ k, r = some k → k < W.heap.size := by
  obtain ⟨v, hk, ho, hv, hne⟩ := h
  refine ⟨(Array.getElem?_eq_some_iff.1 hk).1, fun k e => ?_⟩
  rw [← hv] at e
  rcases ho.2 with ⟨rfl, _⟩ | ⟨g, cap, cur, rfl, _, hh, _⟩
  · simp [Value.ownBlock] at e
  · simp only [Value.ownBlock, Option.some.injEq] at e
    subst e
    exact (Array.getElem?_eq_some_iff.1 hh).1
/-- what an append and the store behind it leave -/
theorem align_Pairs.put {W W2 w1 : World} {base b : Nat} {r : Option Nat} {l2 : List S45} {v v1 : Value} (hk : W.heap[b]? = some (.cells #[v] 38 (0, 0))) (hv : v.ownBlock = r) (hne : r ≠ some b)
    (hW : Bld.Fr (fun _ => False) W W2) (hg : W2.grownBy w1 v.ownBlock) (hat : v1.ownBlock = v.ownBlock ∨ ∃ k, v1.ownBlock = some k ∧ W2.heap.size ≤ k) (hown : w1.ownsRow base 45 2 v1 l2.length (align_Pairs.cs l2)) :
    ∃ r', align_Pairs.Po (w1.setCell ⟨b, 0, none⟩ v1) base b r' l2 ∧ (r' = r ∨ ∃ k, r' = some k ∧ W2.heap.size ≤ k) ∧ Bld.Fr (fun k => k = b ∨ some k = r) W (w1.setCell ⟨b, 0, none⟩ v1) := by
  have hlt : b < W.heap.size := (Array.getElem?_eq_some_iff.1 hk).1
  have hb2 : w1.heap[b]? = some (.cells #[v] 38 (0, 0)) := by
    rw [hg.block b (Nat.lt_of_lt_of_le hlt hW.size) (fun e => hne (by rw [← hv, e])), hW.block b hlt (fun h => h)]
    exact hk
  have hne' : v1.ownBlock ≠ some b := by
    rcases hat with h | ⟨k, h, hle⟩
    · rw [h, hv]; exact hne
    · rw [h]; have := hW.size; simp; omega
  refine ⟨v1.ownBlock, ⟨v1, by simp [World.setCell, Array.getElem?_modify, hb2], ?_, rfl, hne'⟩, by rw [← hv]; exact hat, ?_⟩
  · exact align_Pairs.owns_kept hown rfl (S := fun k => k = b) ((Bld.Fr.refl (fun k => k = b) _).setCell (p := ⟨b, 0, none⟩) (.inl rfl) _) (fun k e hkb => hne' (by rw [e, hkb]))
  · exact ((hW.mono (fun _ h => h.elim)).grown hg (fun k e => .inl (.inr (by rw [← hv, e])))).setCell (p := ⟨b, 0, none⟩) (.inl (.inl rfl)) _
set_option maxHeartbeats 4000000 in
set_option maxRecDepth 100000 in
theorem align_Pairs.skipl (W : World) (base bo : Nat) (r : Option Nat) (l : List S45) (i j i' j' : Int) (h : align_Pairs.Po W base bo r l) (hl : l.length ≤ 1000) (hbase : base ≤ W.heap.size) :
    Calls Try.prog 47 #[.agg #[.int .i64 i, .int .i64 j], .agg #[.int .i64 i', .int .i64 j'], .int .i64 3, .pointer (some ⟨bo, 0, none⟩)] W fun e w' =>
      e = .returned (.tuple #[]) ∧ ∃ r', align_Pairs.Po w' base bo r' (l ++ [⟨i, -1⟩]) ∧ (r' = r ∨ ∃ k, r' = some k ∧ W.heap.size ≤ k) ∧ Bld.Fr (fun k => k = bo ∨ some k = r) W w' := by
  obtain ⟨v, hk, ho, hv, hne⟩ := h
  have hs1 : (W.alloc (.cells #[.int .i64 i, .int .i64 j] 60)).heap.size = W.heap.size + 1 := by simp
  have hfr : Bld.Fr (fun _ => False) W ((W.alloc (.cells #[.int .i64 i, .int .i64 j] 60)).alloc (.cells #[.int .i64 i', .int .i64 j'] 60)) := ((Bld.Fr.refl _ W).alloc _).alloc _
  have k8 : ((W.alloc (.cells #[.int .i64 i, .int .i64 j] 60)).alloc (.cells #[.int .i64 i', .int .i64 j'] 60)).heap[W.heap.size]? = some (.cells #[.int .i64 i, .int .i64 j] 60 (0, 0)) := (Lib.alloc_old _ _ _ (by rw [hs1]; omega)).trans (heap_alloc_new W _)
  have k9 : ((W.alloc (.cells #[.int .i64 i, .int .i64 j] 60)).alloc (.cells #[.int .i64 i', .int .i64 j'] 60)).heap[W.heap.size + 1]? = some (.cells #[.int .i64 i', .int .i64 j'] 60 (0, 0)) := by
    have := heap_alloc_new (W.alloc (.cells #[.int .i64 i, .int .i64 j] 60)) (.cells #[.int .i64 i', .int .i64 j'] 60)
    rw [hs1] at this
    exact this
  have cb : ((W.alloc (.cells #[.int .i64 i, .int .i64 j] 60)).alloc (.cells #[.int .i64 i', .int .i64 j'] 60)).cell? ⟨bo, 0, none⟩ = some v := by rw [Lib.cell_of_heap (hfr.heap hk (fun h => h))]; rfl
  have c80 : ((W.alloc (.cells #[.int .i64 i, .int .i64 j] 60)).alloc (.cells #[.int .i64 i', .int .i64 j'] 60)).cell? ⟨W.heap.size, 0, none⟩ = some (.int .i64 i) := by rw [Lib.cell_of_heap k8]; rfl
  have c81 : ((W.alloc (.cells #[.int .i64 i, .int .i64 j] 60)).alloc (.cells #[.int .i64 i', .int .i64 j'] 60)).cell? ⟨W.heap.size, 1, none⟩ = some (.int .i64 j) := by rw [Lib.cell_of_heap k8]; rfl
  have c90 : ((W.alloc (.cells #[.int .i64 i, .int .i64 j] 60)).alloc (.cells #[.int .i64 i', .int .i64 j'] 60)).cell? ⟨W.heap.size + 1, 0, none⟩ = some (.int .i64 i') := by rw [Lib.cell_of_heap k9]; rfl
  have c91 : ((W.alloc (.cells #[.int .i64 i, .int .i64 j] 60)).alloc (.cells #[.int .i64 i', .int .i64 j'] 60)).cell? ⟨W.heap.size + 1, 1, none⟩ = some (.int .i64 j') := by rw [Lib.cell_of_heap k9]; rfl
  have ho2 := align_Pairs.owns_kept ho hv hfr (fun _ _ h => h)
  have HK := Lib.hid hk; have HO := Lib.hid ho2; have HV := Lib.hid hv; have HNE := Lib.hid hne; have HF := Lib.hid hfr; have HBS := Lib.hid hbase
  clear hk ho hv hne hfr k8 k9 ho2 hs1
  go_enter Try.func47, Try.ntmps47
  go_wp2_with (first | ((with_reducible refine gate_builtin (b := .append) (xs := #[.tmp 34, .tmp 38]) rfl ?_); at_builtin;
                        refine print_append_cells (w0 := ((W.alloc (.cells #[.int .i64 i, .int .i64 j] 60)).alloc (.cells #[.int .i64 i', .int .i64 j'] 60))) base rfl (.tmp 34) (.tmp 38) 38 45 (.agg #[(.int .i64 0), (.int .i64 0)]) 2 16 rfl Try.underlying38 info45 rfl (by decide) (by decide) v l.length (align_Pairs.cs l) [.int .i64 i, .int .i64 (-1)] rfl (by rw [show ((W.alloc (.cells #[.int .i64 i, .int .i64 j] 60)).alloc (.cells #[.int .i64 i', .int .i64 j'] 60)).heap.size = W.heap.size + 1 + 1 by simp]; rfl) rfl (by intro u hu; simp at hu; rcases hu with rfl | rfl <;> rfl) HO.out (Below.refl _ _) (Nat.le_trans HBS.out HF.out.size) (by omega) ?_;
                        intro v1 w1 hown hb hg hat;
                        have R := align_Pairs.put (l2 := l ++ [⟨i, -1⟩]) HK.out HV.out HNE.out HF.out hg hat (by rw [List.length_append, align_Pairs.cs_app]; exact hown);
                        obtain ⟨ao, n', cap, rfl⟩ : ∃ ao n' cap, v1 = .slice ao n' cap := by
                          rcases hown.2 with ⟨hq, _⟩ | ⟨g, cap, cur, hq, _⟩
                          · exact ⟨_, _, _, hq⟩
                          · exact ⟨_, _, _, hq⟩;
                        have hb2 : w1.heap[bo]? = some (.cells #[v] 38 (0, 0)) := by
                          rw [hg.block bo (Nat.lt_of_lt_of_le (Array.getElem?_eq_some_iff.1 HK.out).1 HF.out.size) (fun e => HNE.out (by rw [← HV.out, e]))]
                          exact HF.out.heap HK.out (fun h => h);
                        have e1 : w1.cell? ⟨bo, 0, none⟩ = some v := by rw [Lib.cell_of_heap hb2]; rfl;
                        have e2 : w1.frozen? ⟨bo, 0, none⟩ = false := Lib.frozen_of_heap hb2 0;
                        have RR := Lib.hid R;
                        clear R hown hb hg hat hb2))
  go_end0
  obtain ⟨r', h1, h2, h3⟩ := RR.out
  exact ⟨rfl, r', h1, h2.imp_right (fun ⟨k, e, h⟩ => ⟨k, e, Nat.le_trans HF.out.size h⟩), h3⟩
set_option maxHeartbeats 4000000 in
set_option maxRecDepth 100000 in
theorem align_Pairs.skipr (W : World) (base bo : Nat) (r : Option Nat) (l : List S45) (i j i' j' : Int) (h : align_Pairs.Po W base bo r l) (hl : l.length ≤ 1000) (hbase : base ≤ W.heap.size) :
    Calls Try.prog 47 #[.agg #[.int .i64 i, .int .i64 j], .agg #[.int .i64 i', .int .i64 j'], .int .i64 4, .pointer (some ⟨bo, 0, none⟩)] W fun e w' =>
      e = .returned (.tuple #[]) ∧ ∃ r', align_Pairs.Po w' base bo r' (l ++ [⟨-1, j⟩]) ∧ (r' = r ∨ ∃ k, r' = some k ∧ W.heap.size ≤ k) ∧ Bld.Fr (fun k => k = bo ∨ some k = r) W w' := by
  obtain ⟨v, hk, ho, hv, hne⟩ := h
  have hs1 : (W.alloc (.cells #[.int .i64 i, .int .i64 j] 60)).heap.size = W.heap.size + 1 := by simp
  have hfr : Bld.Fr (fun _ => False) W ((W.alloc (.cells #[.int .i64 i, .int .i64 j] 60)).alloc (.cells #[.int .i64 i', .int .i64 j'] 60)) := ((Bld.Fr.refl _ W).alloc _).alloc _
  have k8 : ((W.alloc (.cells #[.int .i64 i, .int .i64 j] 60)).alloc (.cells #[.int .i64 i', .int .i64 j'] 60)).heap[W.heap.size]? = some (.cells #[.int .i64 i, .int .i64 j] 60 (0, 0)) := (Lib.alloc_old _ _ _ (by rw [hs1]; omega)).trans (heap_alloc_new W _)
  have k9 : ((W.alloc (.cells #[.int .i64 i, .int .i64 j] 60)).alloc (.cells #[.int .i64 i', .int .i64 j'] 60)).heap[W.heap.size + 1]? = some (.cells #[.int .i64 i', .int .i64 j'] 60 (0, 0)) := by
    have := heap_alloc_new (W.alloc (.cells #[.int .i64 i, .int .i64 j] 60)) (.cells #[.int .i64 i', .int .i64 j'] 60)
    rw [hs1] at this
    exact this
  have cb : ((W.alloc (.cells #[.int .i64 i, .int .i64 j] 60)).alloc (.cells #[.int .i64 i', .int .i64 j'] 60)).cell? ⟨bo, 0, none⟩ = some v := by rw [Lib.cell_of_heap (hfr.heap hk (fun h => h))]; rfl
  have c80 : ((W.alloc (.cells #[.int .i64 i, .int .i64 j] 60)).alloc (.cells #[.int .i64 i', .int .i64 j'] 60)).cell? ⟨W.heap.size, 0, none⟩ = some (.int .i64 i) := by rw [Lib.cell_of_heap k8]; rfl
  have c81 : ((W.alloc (.cells #[.int .i64 i, .int .i64 j] 60)).alloc (.cells #[.int .i64 i', .int .i64 j'] 60)).cell? ⟨W.heap.size, 1, none⟩ = some (.int .i64 j) := by rw [Lib.cell_of_heap k8]; rfl
  have c90 : ((W.alloc (.cells #[.int .i64 i, .int .i64 j] 60)).alloc (.cells #[.int .i64 i', .int .i64 j'] 60)).cell? ⟨W.heap.size + 1, 0, none⟩ = some (.int .i64 i') := by rw [Lib.cell_of_heap k9]; rfl
  have c91 : ((W.alloc (.cells #[.int .i64 i, .int .i64 j] 60)).alloc (.cells #[.int .i64 i', .int .i64 j'] 60)).cell? ⟨W.heap.size + 1, 1, none⟩ = some (.int .i64 j') := by rw [Lib.cell_of_heap k9]; rfl
  have ho2 := align_Pairs.owns_kept ho hv hfr (fun _ _ h => h)
  have HK := Lib.hid hk; have HO := Lib.hid ho2; have HV := Lib.hid hv; have HNE := Lib.hid hne; have HF := Lib.hid hfr; have HBS := Lib.hid hbase
  clear hk ho hv hne hfr k8 k9 ho2 hs1
  go_enter Try.func47, Try.ntmps47
  go_wp2_with (first | ((with_reducible refine gate_builtin (b := .append) (xs := #[.tmp 42, .tmp 46]) rfl ?_); at_builtin;
                        refine print_append_cells (w0 := ((W.alloc (.cells #[.int .i64 i, .int .i64 j] 60)).alloc (.cells #[.int .i64 i', .int .i64 j'] 60))) base rfl (.tmp 42) (.tmp 46) 38 45 (.agg #[(.int .i64 0), (.int .i64 0)]) 2 16 rfl Try.underlying38 info45 rfl (by decide) (by decide) v l.length (align_Pairs.cs l) [.int .i64 (-1), .int .i64 j] rfl (by rw [show ((W.alloc (.cells #[.int .i64 i, .int .i64 j] 60)).alloc (.cells #[.int .i64 i', .int .i64 j'] 60)).heap.size = W.heap.size + 1 + 1 by simp]; rfl) rfl (by intro u hu; simp at hu; rcases hu with rfl | rfl <;> rfl) HO.out (Below.refl _ _) (Nat.le_trans HBS.out HF.out.size) (by omega) ?_;
                        intro v1 w1 hown hb hg hat;
                        have R := align_Pairs.put (l2 := l ++ [⟨-1, j⟩]) HK.out HV.out HNE.out HF.out hg hat (by rw [List.length_append, align_Pairs.cs_app]; exact hown);
                        obtain ⟨ao, n', cap, rfl⟩ : ∃ ao n' cap, v1 = .slice ao n' cap := by
                          rcases hown.2 with ⟨hq, _⟩ | ⟨g, cap, cur, hq, _⟩
                          · exact ⟨_, _, _, hq⟩
                          · exact ⟨_, _, _, hq⟩;
                        have hb2 : w1.heap[bo]? = some (.cells #[v] 38 (0, 0)) := by
                          rw [hg.block bo (Nat.lt_of_lt_of_le (Array.getElem?_eq_some_iff.1 HK.out).1 HF.out.size) (fun e => HNE.out (by rw [← HV.out, e]))]
                          exact HF.out.heap HK.out (fun h => h);
                        have e1 : w1.cell? ⟨bo, 0, none⟩ = some v := by rw [Lib.cell_of_heap hb2]; rfl;
                        have e2 : w1.frozen? ⟨bo, 0, none⟩ = false := Lib.frozen_of_heap hb2 0;
                        have RR := Lib.hid R;
                        clear R hown hb hg hat hb2))
  go_end0
  obtain ⟨r', h1, h2, h3⟩ := RR.out
  exact ⟨rfl, r', h1, h2.imp_right (fun ⟨k, e, h⟩ => ⟨k, e, Nat.le_trans HF.out.size h⟩), h3⟩
def align_Pairs.row (x j y : Nat) : List S45 := (List.range (y - j)).map fun v => ⟨(x : Int), ((j + v : Nat) : Int)⟩
def align_Pairs.rows (i x j y : Nat) : List S45 := (List.range (x - i)).flatMap fun u => align_Pairs.row (i + u) j y
theorem align_Pairs.row_next {x j y : Nat} (h : j ≤ y) : align_Pairs.row x j (y + 1) = align_Pairs.row x j y ++ [⟨(x : Int), (y : Int)⟩] := by
  unfold align_Pairs.row
  rw [show y + 1 - j = (y - j) + 1 by omega, List.range_succ, List.map_append, List.map_singleton, show j + (y - j) = y by omega]
theorem align_Pairs.rows_next {i x j y : Nat} (h : i ≤ x) : align_Pairs.rows i (x + 1) j y = align_Pairs.rows i x j y ++ align_Pairs.row x j y := by
  unfold align_Pairs.rows
  rw [show x + 1 - i = (x - i) + 1 by omega, List.range_succ, List.flatMap_append, List.flatMap_singleton, show i + (x - i) = x by omega]
theorem align_Pairs.row_len (x j y : Nat) : (align_Pairs.row x j y).length = y - j := by unfold align_Pairs.row; rw [List.length_map, List.length_range]
theorem align_Pairs.rows_len {i x j y : Nat} (h : x ≤ i + 2) (h2 : y ≤ j + 2) : (align_Pairs.rows i x j y).length ≤ 4 := by
  unfold align_Pairs.rows
  have hx : x - i = 0 ∨ x - i = 1 ∨ x - i = 2 := by omega
  rcases hx with e | e | e <;> rw [e] <;> simp [List.range_succ, align_Pairs.row_len] <;> omega
set_option maxHeartbeats 4000000 in
set_option maxRecDepth 100000 in
theorem align_Pairs.grid (W : World) (base bo : Nat) (r : Option Nat) (l : List S45) (i j i' j' : Nat) (kd : Int) (hb3 : (kd == 3) = false) (hb4 : (kd == 4) = false) (hi : i ≤ i') (hi2 : i' ≤ i + 2) (hj : j ≤ j') (hj2 : j' ≤ j + 2) (hi3 : i' ≤ 1000) (hj3 : j' ≤ 1000)
    (h : align_Pairs.Po W base bo r l) (hl : l.length ≤ 1000) (hbase : base ≤ W.heap.size) :
    Calls Try.prog 47 #[.agg #[.int .i64 i, .int .i64 j], .agg #[.int .i64 i', .int .i64 j'], .int .i64 kd, .pointer (some ⟨bo, 0, none⟩)] W fun e w' =>
      e = .returned (.tuple #[]) ∧ ∃ r', align_Pairs.Po w' base bo r' (l ++ align_Pairs.rows i i' j j') ∧ (r' = r ∨ ∃ k, r' = some k ∧ W.heap.size ≤ k) ∧ Bld.Fr (fun k => k = bo ∨ some k = r) W w' := by
  have HPO := Lib.hid h
  have hlt0 := h.lt
  have HLT := Lib.hid hlt0
  clear hlt0
  obtain ⟨v, hk, ho, hv, hne⟩ := h
  have hs1 : (W.alloc (.cells #[.int .i64 i, .int .i64 j] 60)).heap.size = W.heap.size + 1 := by simp
  have hfr : Bld.Fr (fun _ => False) W ((W.alloc (.cells #[.int .i64 i, .int .i64 j] 60)).alloc (.cells #[.int .i64 i', .int .i64 j'] 60)) := ((Bld.Fr.refl _ W).alloc _).alloc _
  have k8 : ((W.alloc (.cells #[.int .i64 i, .int .i64 j] 60)).alloc (.cells #[.int .i64 i', .int .i64 j'] 60)).heap[W.heap.size]? = some (.cells #[.int .i64 i, .int .i64 j] 60 (0, 0)) := (Lib.alloc_old _ _ _ (by rw [hs1]; omega)).trans (heap_alloc_new W _)
  have k9 : ((W.alloc (.cells #[.int .i64 i, .int .i64 j] 60)).alloc (.cells #[.int .i64 i', .int .i64 j'] 60)).heap[W.heap.size + 1]? = some (.cells #[.int .i64 i', .int .i64 j'] 60 (0, 0)) := by
    have := heap_alloc_new (W.alloc (.cells #[.int .i64 i, .int .i64 j] 60)) (.cells #[.int .i64 i', .int .i64 j'] 60)
    rw [hs1] at this
    exact this
  have cb : ((W.alloc (.cells #[.int .i64 i, .int .i64 j] 60)).alloc (.cells #[.int .i64 i', .int .i64 j'] 60)).cell? ⟨bo, 0, none⟩ = some v := by rw [Lib.cell_of_heap (hfr.heap hk (fun h => h))]; rfl
  have c80 : ((W.alloc (.cells #[.int .i64 i, .int .i64 j] 60)).alloc (.cells #[.int .i64 i', .int .i64 j'] 60)).cell? ⟨W.heap.size, 0, none⟩ = some (.int .i64 i) := by rw [Lib.cell_of_heap k8]; rfl
  have c81 : ((W.alloc (.cells #[.int .i64 i, .int .i64 j] 60)).alloc (.cells #[.int .i64 i', .int .i64 j'] 60)).cell? ⟨W.heap.size, 1, none⟩ = some (.int .i64 j) := by rw [Lib.cell_of_heap k8]; rfl
  have c90 : ((W.alloc (.cells #[.int .i64 i, .int .i64 j] 60)).alloc (.cells #[.int .i64 i', .int .i64 j'] 60)).cell? ⟨W.heap.size + 1, 0, none⟩ = some (.int .i64 i') := by rw [Lib.cell_of_heap k9]; rfl
  have c91 : ((W.alloc (.cells #[.int .i64 i, .int .i64 j] 60)).alloc (.cells #[.int .i64 i', .int .i64 j'] 60)).cell? ⟨W.heap.size + 1, 1, none⟩ = some (.int .i64 j') := by rw [Lib.cell_of_heap k9]; rfl
  have hss : ((W.alloc (.cells #[.int .i64 i, .int .i64 j] 60)).alloc (.cells #[.int .i64 i', .int .i64 j'] 60)).heap.size = W.heap.size + 2 := by simp
  have HF := Lib.hid hfr; have K8 := Lib.hid k8; have K9 := Lib.hid k9; have HBS := Lib.hid hbase; have HWZ := Lib.hid hss; have HI := Lib.hid hi; have HJ := Lib.hid hj
  clear hk ho hv hne hfr k8 k9 hs1 hss
  go_enter Try.func47, Try.ntmps47
  go_wp2_with (fail)
  go_loopw [7] (fun s wr => ∃ (x : Nat) (rr : Option Nat), i ≤ x ∧ x ≤ i' ∧ s = .int .i64 x ∧ Hid (align_Pairs.Po wr base bo rr (l ++ align_Pairs.rows i x j j')) ∧ Hid (rr = r ∨ ∃ k, rr = some k ∧ W.heap.size + 2 ≤ k) ∧ Hid (Bld.Fr (fun k => k = bo ∨ some k = r) W wr) ∧ Hid (wr.heap[W.heap.size]? = some (.cells #[.int .i64 i, .int .i64 j] 60 (0, 0))) ∧ Hid (wr.heap[W.heap.size + 1]? = some (.cells #[.int .i64 i', .int .i64 j'] 60 (0, 0))))
    (fun s _ => i' - (intOf s).toNat)
  case atStart => exact ⟨i, r, Nat.le_refl _, hi, rfl, Lib.hid (by unfold align_Pairs.rows; rw [Nat.sub_self, List.range_zero, List.flatMap_nil, List.append_nil]; exact HPO.out.fr HF.out (fun h => h) (fun _ _ h => h)), Lib.hid (.inl rfl), Lib.hid (HF.out.mono (fun _ h => h.elim)), K8, K9⟩
  case round =>
    obtain ⟨x, rr, hx1, hx2, rfl, HP, HR, HFR, H8, H9⟩ := hrel
    clear cb c80 c81 c90 c91
    have c80 : wr.cell? ⟨W.heap.size, 0, none⟩ = some (.int .i64 i) := by rw [Lib.cell_of_heap H8.out]; rfl
    have c81 : wr.cell? ⟨W.heap.size, 1, none⟩ = some (.int .i64 j) := by rw [Lib.cell_of_heap H8.out]; rfl
    have c90 : wr.cell? ⟨W.heap.size + 1, 0, none⟩ = some (.int .i64 i') := by rw [Lib.cell_of_heap H9.out]; rfl
    have c91 : wr.cell? ⟨W.heap.size + 1, 1, none⟩ = some (.int .i64 j') := by rw [Lib.cell_of_heap H9.out]; rfl
    by_cases hlt : x < i'
    · go_wp2_with (fail)
      go_loopw [8] (fun s w2 => ∃ (y : Nat) (rr2 : Option Nat), j ≤ y ∧ y ≤ j' ∧ s = .int .i64 y ∧ Hid (align_Pairs.Po w2 base bo rr2 ((l ++ align_Pairs.rows i x j j') ++ align_Pairs.row x j y)) ∧ Hid (rr2 = r ∨ ∃ k, rr2 = some k ∧ W.heap.size + 2 ≤ k) ∧ Hid (Bld.Fr (fun k => k = bo ∨ some k = r) W w2) ∧ Hid (w2.heap[W.heap.size]? = some (.cells #[.int .i64 i, .int .i64 j] 60 (0, 0))) ∧ Hid (w2.heap[W.heap.size + 1]? = some (.cells #[.int .i64 i', .int .i64 j'] 60 (0, 0))))
        (fun s _ => j' - (intOf s).toNat)
      case atStart => exact ⟨j, rr, Nat.le_refl _, HJ.out, rfl, Lib.hid (by unfold align_Pairs.row; rw [Nat.sub_self, List.range_zero, List.map_nil, List.append_nil]; exact HP.out), HR, HFR, H8, H9⟩
      case round =>
        clear HP HR HFR H8 H9 c80 c81 c90 c91
        obtain ⟨y, rr2, hy1, hy2, rfl, HP, HR, HFR, H8, H9⟩ := hrel
        have c80 : wr.cell? ⟨W.heap.size, 0, none⟩ = some (.int .i64 i) := by rw [Lib.cell_of_heap H8.out]; rfl
        have c81 : wr.cell? ⟨W.heap.size, 1, none⟩ = some (.int .i64 j) := by rw [Lib.cell_of_heap H8.out]; rfl
        have c90 : wr.cell? ⟨W.heap.size + 1, 0, none⟩ = some (.int .i64 i') := by rw [Lib.cell_of_heap H9.out]; rfl
        have c91 : wr.cell? ⟨W.heap.size + 1, 1, none⟩ = some (.int .i64 j') := by rw [Lib.cell_of_heap H9.out]; rfl
        have hsz : W.heap.size + 2 ≤ wr.heap.size := by have := (Array.getElem?_eq_some_iff.1 H9.out).1; omega
        have HSZ := Lib.hid hsz
        clear hsz
        by_cases hly : y < j'
        · obtain ⟨v2, hk, ho, hv, hne⟩ := HP.out
          have cb : wr.cell? ⟨bo, 0, none⟩ = some v2 := by rw [Lib.cell_of_heap hk]; rfl
          have hlen : ((l ++ align_Pairs.rows i x j j') ++ align_Pairs.row x j y).length + 1 ≤ 1100 := by
            rw [List.length_append, List.length_append, align_Pairs.row_len]
            have := align_Pairs.rows_len (i := i) (x := x) (j := j) (y := j') (by omega) (by omega)
            omega
          have HK2 := Lib.hid hk; have HO2 := Lib.hid ho; have HV2 := Lib.hid hv; have HNE2 := Lib.hid hne; have HLEN := Lib.hid hlen
          clear hk ho hv hne hlen
          go_wp2_with (first | ((with_reducible refine gate_builtin (b := .append) (xs := #[.tmp 26, .tmp 30]) rfl ?_); at_builtin;
                                refine print_append_cells (w0 := wr) base rfl (.tmp 26) (.tmp 30) 38 45 (.agg #[(.int .i64 0), (.int .i64 0)]) 2 16 rfl Try.underlying38 info45 rfl (by decide) (by decide) v2 _ _ [.int .i64 x, .int .i64 y] rfl rfl rfl (by intro u hu; simp at hu; rcases hu with rfl | rfl <;> rfl) HO2.out (Below.refl _ _) (Nat.le_trans HBS.out (Nat.le_trans (Nat.le_add_right _ 2) HSZ.out)) (by have := HLEN.out; omega) ?_;
                                intro v1 w1 hown hb hg hat;
                                have R := align_Pairs.put (l2 := ((l ++ align_Pairs.rows i x j j') ++ align_Pairs.row x j y) ++ [⟨(x : Int), (y : Int)⟩]) HK2.out HV2.out HNE2.out (Bld.Fr.refl _ wr) hg hat (by rw [List.length_append, align_Pairs.cs_app]; exact hown);
                                obtain ⟨ao, n', cap, rfl⟩ : ∃ ao n' cap, v1 = .slice ao n' cap := by
                                  rcases hown.2 with ⟨hq, _⟩ | ⟨g, cap, cur, hq, _⟩
                                  · exact ⟨_, _, _, hq⟩
                                  · exact ⟨_, _, _, hq⟩;
                                have hb2 : w1.heap[bo]? = some (.cells #[v2] 38 (0, 0)) := by
                                  rw [hg.block bo (Array.getElem?_eq_some_iff.1 HK2.out).1 (fun e => HNE2.out (by rw [← HV2.out, e]))]
                                  exact HK2.out;
                                have e1 : w1.cell? ⟨bo, 0, none⟩ = some v2 := by rw [Lib.cell_of_heap hb2]; rfl;
                                have e2 : w1.frozen? ⟨bo, 0, none⟩ = false := Lib.frozen_of_heap hb2 0;
                                have RR := Lib.hid R;
                                clear R hown hb hg hat hb2))
          have HQ : Hid (∃ r', Hid (align_Pairs.Po (w1.setCell ⟨bo, 0, none⟩ (.slice ao n' cap)) base bo r' ((l ++ align_Pairs.rows i x j j') ++ align_Pairs.row x j (y + 1))) ∧ Hid (r' = r ∨ ∃ k, r' = some k ∧ W.heap.size + 2 ≤ k) ∧ Hid (Bld.Fr (fun k => k = bo ∨ some k = r) W (w1.setCell ⟨bo, 0, none⟩ (.slice ao n' cap))) ∧ Hid ((w1.setCell ⟨bo, 0, none⟩ (.slice ao n' cap)).heap[W.heap.size]? = some (.cells #[.int .i64 i, .int .i64 j] 60 (0, 0))) ∧ Hid ((w1.setCell ⟨bo, 0, none⟩ (.slice ao n' cap)).heap[W.heap.size + 1]? = some (.cells #[.int .i64 i', .int .i64 j'] 60 (0, 0)))) := by
            obtain ⟨r', h1, h2, h3⟩ := RR.out
            have hl := HLT.out
            have hsz := HSZ.out
            have hr2 : ∀ k, rr2 = some k → k ≠ W.heap.size ∧ k ≠ W.heap.size + 1 := by
              intro k hk
              rcases HR.out with e | ⟨g, e, hle⟩
              · have := hl.2 k (by rw [← e]; exact hk); omega
              · rw [e] at hk; injection hk with hk; omega
            refine Lib.hid ⟨r', Lib.hid (by rw [align_Pairs.row_next hy1, ← List.append_assoc]; exact h1), Lib.hid ?_, Lib.hid (HFR.out.trans h3 (fun k hk => ?_)), Lib.hid (h3.heap H8.out ?_), Lib.hid (h3.heap H9.out ?_)⟩
            · rcases h2 with e | ⟨k, e, hle⟩
              · rw [e]; exact HR.out
              · exact .inr ⟨k, e, by omega⟩
            · rcases hk with e | e
              · exact .inl (.inl e)
              · rcases HR.out with e' | ⟨g, e', hle⟩
                · exact .inl (.inr (by rw [← e']; exact e))
                · right; rw [e'] at e; injection e with e; omega
            · rintro (e | e)
              · omega
              · exact (hr2 _ e.symm).1 rfl
            · rintro (e | e)
              · omega
              · exact (hr2 _ e.symm).2 rfl
          clear RR
          go_roundw
          case rel =>
            obtain ⟨r', q1, q2, q3, q4, q5⟩ := HQ.out
            exact ⟨y + 1, r', by omega, by omega, by go_num, q1, q2, q3, q4, q5⟩
          case measure => simp [intOf]; omega
        · have ey : y = j' := by omega
          subst ey
          go_wp2
          go_roundw
          case rel => exact ⟨x + 1, rr2, by omega, by omega, by go_num, Lib.hid (by rw [align_Pairs.rows_next hx1, ← List.append_assoc]; exact HP.out), HR, HFR, H8, H9⟩
          case measure => simp [intOf]; omega
    · have ex : x = i' := by omega
      subst ex
      go_wp2
      go_end0
      exact ⟨rfl, rr, HP.out, HR.out.imp_right (fun ⟨k, e, h⟩ => ⟨k, e, by omega⟩), HFR.out⟩
attribute [local go_sem high] align_walk.eqA
set_option maxHeartbeats 4000000 in
set_option maxRecDepth 100000 in
theorem align_walk.pairs_ (k : Nat) (p q : ByteArray) (A2 : Option Addr) (c2 : Nat) (l2 : List Int) (r1 : Int) (r2 : Bool) (w0 w : World) (bo : Nat)
    (hr2 : Kd.C (Kd.int .i64) w0 A2 l2.length l2) (hc2 : l2.length ≤ c2) (hb0 : Below w0.heap.size w0 w) (S0 : Nat → Prop) (hS0 : ∀ k, S0 k → w0.heap.size ≤ k)
    (J : Nat → Int → Int → Int → (Nat → Prop) → World → Prop)
    (hJf : ∀ kq n i j S T W W', J kq n i j S W → Bld.Fr T W W' → (∀ k, S k → ¬ T k) → J kq n i j S W')
    (hJl : ∀ kq n i j S W k, J kq n i j S W → S k → k < W.heap.size)
    (hcl : ∀ (kq : Nat) (n i j i' j' c : Int) (S : Nat → Prop) (W : World), 0 ≤ n → n < l2.length → align_step.f kq p q i j (rd l2 n) = some (i', j', c, true) → J (kq + 1) n i j S W →
      Calls Try.prog 47 #[.agg #[.int .i64 i, .int .i64 j], .agg #[.int .i64 i', .int .i64 j'], .int .i64 (rd l2 n), .pointer (some ⟨bo, 0, none⟩)] W fun e w' => e = .returned (.tuple #[]) ∧ ∃ S', J kq (n + 1) i' j' S' w' ∧ (∀ k, S' k → S k ∨ W.heap.size ≤ k) ∧ Bld.Fr S W w')
    (hJ0 : J k 0 0 0 S0 w) (h : align_walk.l0 k p q 0 l2 0 0 0 = some (r1, r2)) :
    Calls Try.prog 42 #[.string p, .string q, .slice A2 l2.length c2, .func (.func 47) #[] #[.pointer (some ⟨bo, 0, none⟩)]] w fun e w' =>
      e = .returned (.tuple #[.int .i64 r1, .bool r2]) ∧ Bld.Fr S0 w w' ∧ (r2 = true → ∃ kq n S', (l2.length : Int) ≤ n ∧ J (kq + 1) n p.size q.size S' w' ∧ ∀ k, S' k → S0 k ∨ w.heap.size ≤ k) := by
  have hnf : ∀ (W : World) (f : Fn) (x y : Array Value), (Sem.run Try.prog (Go.binOp BinOp.neq 67 (.func f x y) .nilFunc) W) = .ok (.bool true) W := fun W f x y => by first | rfl | (unfold Go.binOp; rfl) | (simp [Go.binOp, go_sem]; done)
  have hX0 : ∀ k, S0 k → k < w.heap.size := fun k hk => hJl _ _ _ _ _ _ k hJ0 hk
  have HR := Lib.hid hr2; have HB0 := Lib.hid hb0; have HS0 := Lib.hid hS0; have HJF := Lib.hid hJf; have HJL := Lib.hid hJl; have HCL := Lib.hid hcl; have HJ0 := Lib.hid hJ0; have HH := Lib.hid h; have HX0 := Lib.hid hX0
  have hlen := hr2.2.1
  clear hr2 hb0 hS0 hJf hJl hcl hJ0 h hX0
  go_enter Try.func42, Try.ntmps42
  go_wp2_with (fail)
  go_loopg [11, 20] k (fun kq v11 v20 wr => ∃ (x11 x20 i j : Int) (S : Nat → Prop), v11 = .int .i64 x11 ∧ v20 = .int .i64 x20 ∧ Hid (align_walk.l0 kq p q x11 l2 x20 i j = some (r1, r2)) ∧ Hid (kq ≤ k) ∧ Hid (J kq x20 i j S wr) ∧ Hid (∀ k, S k → S0 k ∨ w.heap.size < k) ∧ Hid (Bld.Fr S0 w wr) ∧ Hid (wr.heap[w.heap.size]? = some (.cells #[.int .i64 i, .int .i64 j] 60 (0, 0))))
  case atStart => exact ⟨0, 0, 0, 0, S0, rfl, rfl, HH, Lib.hid (Nat.le_refl _), Lib.hid (HJF.out _ _ _ _ _ (fun _ => False) _ _ HJ0.out ((Bld.Fr.refl _ w).alloc _) (fun _ _ h => h)), Lib.hid (fun k h => .inl h), Lib.hid ((Bld.Fr.refl _ w).alloc _), Lib.hid (heap_alloc_new w _)⟩
  case round =>
    obtain ⟨x11, x20, i, j, S, rfl, rfl, HA, HK, HJ, HS, HF, HP⟩ := hrel
    cases gk with
    | zero => exact absurd HA.out (by simp [align_walk.l0])
    | succ k1 =>
      have H := HA.out
      clear HA
      simp only [align_walk.l0] at H
      have c0 : wr.cell? ⟨w.heap.size, 0, none⟩ = some (.int .i64 i) := by rw [Lib.cell_of_heap HP.out]; rfl
      have c1 : wr.cell? ⟨w.heap.size, 1, none⟩ = some (.int .i64 j) := by rw [Lib.cell_of_heap HP.out]; rfl
      by_cases c7 : x20 < (l2.length : Int)
      · rw [if_pos c7] at H
        by_cases c8 : 0 ≤ x20
        · rw [if_pos c8] at H
          obtain ⟨⟨i', j', c, t⟩, hst, H⟩ := Option.bind_eq_some_iff.1 H
          have HST := Lib.hid hst
          obtain ⟨ad, e189, hx⟩ := Kd.at_int HR.out x20 c8 c7
          cases e189
          have hbw : Below w0.heap.size w0 wr := HB0.out.trans (HF.out.below HB0.out.size HS0.out)
          replace hx := (hbw.cell (World.block_lt_of_cell? w0 _ hx)).trans hx
          have HBW := Lib.hid hbw
          have HH1 := Lib.hid H
          clear hst H hbw
          cases t with
          | true =>
            have h1 : align_walk.l0 k1 p q (wrap64 (x11 + c)) l2 (x20 + 1) i' j' = some (r1, r2) := HH1.out
            have HH2 := Lib.hid h1
            clear h1
            go_wp2_with (go_at_call 43; refine (align_step.calls k1 p q i j (rd l2 x20) i' j' c true _ HST.out).mono ?_)
            (first | rintro e w1 rfl hb1 | rintro e w1 ⟨rfl, hb1⟩)
            have hlt1 : w.heap.size < w1.heap.size := Nat.lt_of_lt_of_le (Array.getElem?_eq_some_iff.1 HP.out).1 (below_size hb1)
            have hcp2 : ∀ o, (w1.alloc o).cell? ⟨w.heap.size, 0, none⟩ = some (.int .i64 i) := fun o => (World.cell?_of_block (Lib.alloc_old w1 o _ hlt1)).trans (pw_cell_below hb1 c0)
            have hcq2 : ∀ o, (w1.alloc o).cell? ⟨w.heap.size, 1, none⟩ = some (.int .i64 j) := fun o => (World.cell?_of_block (Lib.alloc_old w1 o _ hlt1)).trans (pw_cell_below hb1 c1)
            have hn0 : (w1.alloc (.cells #[.int .i64 i', .int .i64 j'] 60)).cell? ⟨w1.heap.size, 0, none⟩ = some (.int .i64 i') := (Lib.cell_of_heap (heap_alloc_new w1 _) 0).trans rfl
            have hn1 : (w1.alloc (.cells #[.int .i64 i', .int .i64 j'] 60)).cell? ⟨w1.heap.size, 1, none⟩ = some (.int .i64 j') := (Lib.cell_of_heap (heap_alloc_new w1 _) 1).trans rfl
            go_wp2_with (fail)
            have fA := (Bld.Fr.of_below hb1 (fun _ => False)).alloc (.cells #[.int .i64 i', .int .i64 j'] 60)
            have hXS : ¬ S w.heap.size := fun hs => by
              rcases HS.out _ hs with h | h
              · have := HX0.out _ h; omega
              · omega
            have hYS : ¬ S w1.heap.size := fun hs => by have h1 := HJL.out _ _ _ _ _ _ _ HJ.out hs; have h2 := below_size hb1; omega
            have jA := HJF.out _ _ _ _ _ _ _ _ HJ.out fA (fun _ _ h => h)
            have FA := Lib.hid fA; have JA := Lib.hid jA; have HXS := Lib.hid hXS; have HYS := Lib.hid hYS
            clear fA jA hXS hYS
            refine (HCL.out k1 x20 i j i' j' c S _ c8 c7 HST.out JA.out).mono ?_
            rintro e w2 ⟨rfl, S', hJ', hS', hf'⟩
            have hX1 : (w1.alloc (.cells #[.int .i64 i', .int .i64 j'] 60)).heap[w.heap.size]? = some (.cells #[.int .i64 i, .int .i64 j] 60 (0, 0)) := FA.out.heap HP.out (fun h => h)
            have kX : w2.heap[w.heap.size]? = some (.cells #[.int .i64 i, .int .i64 j] 60 (0, 0)) := hf'.heap hX1 HXS.out
            have kY : w2.heap[w1.heap.size]? = some (.cells #[.int .i64 i', .int .i64 j'] 60 (0, 0)) := hf'.heap (heap_alloc_new w1 _) HYS.out
            have d0 : w2.cell? ⟨w.heap.size, 0, none⟩ = some (.int .i64 i) := by rw [Lib.cell_of_heap kX]; rfl
            have d1 : w2.cell? ⟨w.heap.size, 1, none⟩ = some (.int .i64 j) := by rw [Lib.cell_of_heap kX]; rfl
            have f0 : w2.frozen? ⟨w.heap.size, 0, none⟩ = false := Lib.frozen_of_heap kX 0
            have f1 : w2.frozen? ⟨w.heap.size, 1, none⟩ = false := Lib.frozen_of_heap kX 1
            have y0 : w2.cell? ⟨w1.heap.size, 0, none⟩ = some (.int .i64 i') := by rw [Lib.cell_of_heap kY]; rfl
            have y1 : w2.cell? ⟨w1.heap.size, 1, none⟩ = some (.int .i64 j') := by rw [Lib.cell_of_heap kY]; rfl
            have gS : ∀ k, S' k → S0 k ∨ w.heap.size < k := fun k hk => by
              rcases hS' k hk with h | h
              · exact HS.out k h
              · have h2 := (Array.getElem?_eq_some_iff.1 hX1).1
                right; omega
            have hXS' : ¬ S' w.heap.size := fun hs => by
              rcases gS _ hs with h | h
              · have := HX0.out _ h; omega
              · omega
            have gF : Bld.Fr S0 w w2 := (HF.out.trans FA.out (fun _ h => h.elim)).trans hf' (fun k hk => (HS.out k hk).imp_right (fun h => Nat.le_of_lt h))
            have KX := Lib.hid kX; have GS := Lib.hid gS; have GF := Lib.hid gF; have JN := Lib.hid hJ'; have HXS' := Lib.hid hXS'
            clear kX kY gS gF hJ' hf' hS' hXS' hX1 hcp2 hcq2 hn0 hn1
            go_wp2_with (fail)
            have hF2 : Bld.Fr (fun k => k = w.heap.size) w2 ((w2.setCell ⟨w.heap.size, 0, none⟩ (.int .i64 i')).setCell ⟨w.heap.size, 1, none⟩ (.int .i64 j')) := ((Bld.Fr.refl (fun k => k = w.heap.size) _).setCell (p := ⟨w.heap.size, 0, none⟩) (.inl rfl) _).setCell (p := ⟨w.heap.size, 1, none⟩) (.inl rfl) _
            have hX2 : ((w2.setCell ⟨w.heap.size, 0, none⟩ (.int .i64 i')).setCell ⟨w.heap.size, 1, none⟩ (.int .i64 j')).heap[w.heap.size]? = some (.cells #[.int .i64 i', .int .i64 j'] 60 (0, 0)) := by
              simp [World.setCell, Array.getElem?_modify, KX.out]
            have HF2 := Lib.hid hF2; have HX2 := Lib.hid hX2
            clear hF2 hX2
            go_roundg k1
            case measure => have := HK.out; omega
            case rel => exact ⟨_, _, i', j', S', rfl, rfl, HH2, Lib.hid (by have := HK.out; omega), Lib.hid (HJF.out _ _ _ _ _ _ _ _ JN.out HF2.out (fun k hk e => HXS'.out (e ▸ hk))), GS, Lib.hid (GF.out.trans HF2.out (fun k hk => .inr (by omega))), HX2⟩
          | false =>
            have hr : (0 : Int) = r1 ∧ false = r2 := by have h1 : some ((0 : Int), false) = some (r1, r2) := HH1.out; exact Prod.mk.inj (Option.some.inj h1)
            obtain ⟨rfl, rfl⟩ := hr
            go_wp2_with (go_at_call 43; refine (align_step.calls k1 p q i j (rd l2 x20) i' j' c false _ HST.out).mono ?_)
            (first | rintro e w1 rfl hb1 | rintro e w1 ⟨rfl, hb1⟩)
            have fA := fun o => (HF.out.trans (Bld.Fr.of_below hb1 (fun _ => False)) (fun _ h => h.elim)).alloc o
            have FA := Lib.hid fA
            clear fA
            go_wp2
            go_ret2
            exact ⟨rfl, FA.out _, fun h => by cases h⟩
        · rw [if_neg c8] at H; cases H
      · rw [if_neg c7] at H
        obtain ⟨rfl, rfl⟩ := Prod.mk.inj (Option.some.inj H)
        clear H
        go_wp2
        go_quiet (fail)
        go_wp2
        go_ret2
        have hFN := fun n => HF.out.drewN (n := n)
        have hJN := fun n => HJF.out _ _ _ _ _ (fun _ => False) _ _ HJ.out ((Bld.Fr.refl _ wr).drewN n) (fun _ _ h => h)
        refine ⟨rfl, hFN _, fun h => ⟨k1, x20, S, by omega, ?_, fun k hk => (HS.out k hk).imp_right (fun h => Nat.le_of_lt h)⟩⟩
        simp only [Bool.and_eq_true, beq_iff_eq] at h
        obtain ⟨rfl, rfl⟩ := h
        exact hJN _
def align_Pairs.pr (s i j : Int) : List S45 := if s = 0 then [⟨i, j⟩] else if s = 1 then [⟨i, j⟩, ⟨i, j + 1⟩] else if s = 2 then [⟨i, j⟩, ⟨i + 1, j⟩] else if s = 3 then [⟨i, -1⟩] else [⟨-1, j⟩]
theorem align_Pairs.any_ (W : World) (base bo : Nat) (r : Option Nat) (l : List S45) (p q : ByteArray) (k : Nat) (i j s i' j' c : Int) (h : align_Pairs.Po W base bo r l)
    (hps : p.size ≤ 40) (hqs : q.size ≤ 40) (i0 : 0 ≤ i) (i1 : i ≤ p.size) (j0 : 0 ≤ j) (j1 : j ≤ q.size) (hst : align_step.f k p q i j s = some (i', j', c, true)) (hl : l.length ≤ 1000) (hbase : base ≤ W.heap.size) :
    Calls Try.prog 47 #[.agg #[.int .i64 i, .int .i64 j], .agg #[.int .i64 i', .int .i64 j'], .int .i64 s, .pointer (some ⟨bo, 0, none⟩)] W fun e w' =>
      e = .returned (.tuple #[]) ∧ ∃ r', align_Pairs.Po w' base bo r' (l ++ align_Pairs.pr s i j) ∧ (r' = r ∨ ∃ k, r' = some k ∧ W.heap.size ≤ k) ∧ Bld.Fr (fun k => k = bo ∨ some k = r) W w' := by
  have hf := align_walk.facts hps hqs i0 i1 j0 j1 hst
  obtain ⟨i, rfl⟩ := Int.eq_ofNat_of_zero_le i0
  obtain ⟨j, rfl⟩ := Int.eq_ofNat_of_zero_le j0
  rcases hf with ⟨rfl, rfl, rfl, g1, g2, _⟩ | ⟨rfl, rfl, rfl, g1, g2⟩ | ⟨rfl, rfl, rfl, g1, g2⟩ | ⟨rfl, rfl, rfl, g1⟩ | ⟨rfl, rfl, rfl, g2⟩
  · have := align_Pairs.grid W base bo r l i j (i + 1) (j + 1) 0 rfl rfl (by omega) (by omega) (by omega) (by omega) (by omega) (by omega) h hl hbase
    have e : align_Pairs.rows i (i + 1) j (j + 1) = align_Pairs.pr 0 i j := by
      unfold align_Pairs.rows align_Pairs.row
      rw [show i + 1 - i = 1 by omega, show j + 1 - j = 1 by omega]; rfl
    rw [e] at this
    exact this
  · have := align_Pairs.grid W base bo r l i j (i + 1) (j + 2) 1 rfl rfl (by omega) (by omega) (by omega) (by omega) (by omega) (by omega) h hl hbase
    have e : align_Pairs.rows i (i + 1) j (j + 2) = align_Pairs.pr 1 i j := by
      unfold align_Pairs.rows align_Pairs.row
      rw [show i + 1 - i = 1 by omega, show j + 2 - j = 2 by omega]; rfl
    rw [e] at this
    exact this
  · have := align_Pairs.grid W base bo r l i j (i + 2) (j + 1) 2 rfl rfl (by omega) (by omega) (by omega) (by omega) (by omega) (by omega) h hl hbase
    have e : align_Pairs.rows i (i + 2) j (j + 1) = align_Pairs.pr 2 i j := by
      unfold align_Pairs.rows align_Pairs.row
      rw [show i + 2 - i = 2 by omega, show j + 1 - j = 1 by omega]; rfl
    rw [e] at this
    exact this
  · exact align_Pairs.skipl W base bo r l i j _ _ h hl hbase
  · exact align_Pairs.skipr W base bo r l i j _ _ h hl hbase
def align_Pairs.t0 : Nat → ByteArray → ByteArray → List Int → Int → Int → Int → List S45 → Option (List S45)
  | 0, _, _, _, _, _, _, _ => none
  | k + 1, p, q, l, n, i, j, acc => if n < (l.length : Int) then ((align_step.f k p q i j (rd l n)).bind fun b => (if b.2.2.2 = true then (if acc.length ≤ 1000 then (align_Pairs.t0 k p q l (n + 1) b.1 b.2.1 (acc ++ align_Pairs.pr (rd l n) i j)) else none) else some [])) else some acc
def align_Pairs.f (k : Nat) (a0 : ByteArray) (a1 : ByteArray) (l2 : List Int) : Option (List S45 × Int) :=
  (align_given.f k a0 a1).bind fun e => if e = 0 then (if a0.size ≤ 40 ∧ a1.size ≤ 40 then ((align_walk.l0 k a0 a1 0 l2 0 0 0).bind fun r => (align_Pairs.t0 k a0 a1 l2 0 0 0 []).bind fun t => if r.2 = true then some (t, 0) else some ([], 1)) else none) else some ([], e)
theorem align_Pairs.mono_l : ∀ k, ∀ y0 y1 y2 y3 y4 y5 y6, LeO (align_Pairs.t0 k y0 y1 y2 y3 y4 y5 y6) (align_Pairs.t0 (k + 1) y0 y1 y2 y3 y4 y5 y6)
  | 0 => fun _ _ _ _ _ _ _ r h => by simp [align_Pairs.t0] at h
  | k + 1 => by
    have ih0 := align_Pairs.mono_l k
    intro y0 y1 y2 y3 y4 y5 y6
    rw [align_Pairs.t0, align_Pairs.t0]
    refine LeO.ite (LeO.bind (align_step.mono _ _ _ _ _ _) fun _ => LeO.ite (LeO.ite (ih0 _ _ _ _ _ _ _) (LeO.refl _)) (LeO.refl _)) (LeO.refl _)
theorem align_Pairs.mono : ∀ a0 a1 a2 k, LeO (align_Pairs.f k a0 a1 a2) (align_Pairs.f (k + 1) a0 a1 a2) := by
  intro a0 a1 a2 k
  unfold align_Pairs.f
  refine LeO.bind (align_given.mono _ _ _) fun _ => LeO.ite (LeO.ite (LeO.bind (align_walk.mono_l _ _ _ _ _ _ _ _) fun _ => LeO.bind (align_Pairs.mono_l _ _ _ _ _ _ _ _) fun _ => LeO.refl _) (LeO.refl _)) (LeO.refl _)
def align_Pairs.J (p q : ByteArray) (l2 : List Int) (fin : List S45) (base bo : Nat) (kq : Nat) (n i j : Int) (S : Nat → Prop) (W : World) : Prop :=
  ∃ l r, align_Pairs.t0 kq p q l2 n i j l = some fin ∧ align_Pairs.Po W base bo r l ∧ 0 ≤ i ∧ i ≤ p.size ∧ 0 ≤ j ∧ j ≤ q.size ∧ (∀ k, S k ↔ k = bo ∨ some k = r)
theorem align_Pairs.Jf {p q : ByteArray} {l2 : List Int} {fin : List S45} {base bo : Nat} (kq : Nat) (n i j : Int) (S T : Nat → Prop) (W W' : World) (h : align_Pairs.J p q l2 fin base bo kq n i j S W) (hf : Bld.Fr T W W') (hT : ∀ k, S k → ¬ T k) : align_Pairs.J p q l2 fin base bo kq n i j S W' := by
  obtain ⟨l, r, h1, h2, h5, h6, h7, h8, h9⟩ := h
  exact ⟨l, r, h1, h2.fr hf (hT _ ((h9 _).2 (.inl rfl))) (fun k hk => hT _ ((h9 _).2 (.inr hk.symm))), h5, h6, h7, h8, h9⟩
theorem align_Pairs.Jl {p q : ByteArray} {l2 : List Int} {fin : List S45} {base bo : Nat} (kq : Nat) (n i j : Int) (S : Nat → Prop) (W : World) (k : Nat) (h : align_Pairs.J p q l2 fin base bo kq n i j S W) (hk : S k) : k < W.heap.size := by
  obtain ⟨l, r, h1, h2, h5, h6, h7, h8, h9⟩ := h
  rcases (h9 k).1 hk with rfl | h
  · exact h2.lt.1
  · exact h2.lt.2 k h.symm
theorem align_Pairs.Jc {p q : ByteArray} (hps : p.size ≤ 40) (hqs : q.size ≤ 40) {l2 : List Int} {fin : List S45} {base bo : Nat} (hbo : base ≤ bo) (kq : Nat) (n i j i' j' c : Int) (S : Nat → Prop) (W : World) (n0 : 0 ≤ n) (n1 : n < l2.length)
    (hst : align_step.f kq p q i j (rd l2 n) = some (i', j', c, true)) (h : align_Pairs.J p q l2 fin base bo (kq + 1) n i j S W) :
    Calls Try.prog 47 #[.agg #[.int .i64 i, .int .i64 j], .agg #[.int .i64 i', .int .i64 j'], .int .i64 (rd l2 n), .pointer (some ⟨bo, 0, none⟩)] W fun e w' => e = .returned (.tuple #[]) ∧ ∃ S', align_Pairs.J p q l2 fin base bo kq (n + 1) i' j' S' w' ∧ (∀ k, S' k → S k ∨ W.heap.size ≤ k) ∧ Bld.Fr S W w' := by
  obtain ⟨l, r, h1, h2, h5, h6, h7, h8, h9⟩ := h
  rw [align_Pairs.t0, if_pos n1, hst, Option.bind_some, if_pos rfl] at h1
  by_cases hc : l.length ≤ 1000
  · rw [if_pos hc] at h1
    have hb := align_walk.facts hps hqs h5 h6 h7 h8 hst
    refine (align_Pairs.any_ W base bo r l p q kq i j (rd l2 n) i' j' c h2 hps hqs h5 h6 h7 h8 hst hc (Nat.le_of_lt (Nat.lt_of_le_of_lt hbo h2.lt.1))).mono ?_
    rintro e w' ⟨he, r', t3, gl, hf⟩
    refine ⟨he, fun k => k = bo ∨ some k = r', ⟨_, r', h1, t3, by omega, by omega, by omega, by omega, fun k => Iff.rfl⟩, ?_, hf.mono (fun k hk => (h9 k).2 hk)⟩
    rintro k (hk | hk)
    · exact .inl ((h9 k).2 (.inl hk))
    · rcases gl with e | ⟨g, e, hle⟩
      · exact .inl ((h9 k).2 (.inr (by rw [← e]; exact hk)))
      · rw [e] at hk; injection hk with hk; exact .inr (by omega)
  · rw [if_neg hc] at h1; cases h1
theorem align_Pairs.reps (W : World) (base : Nat) (ok : Nat → Prop) : ∀ l : List S45, Reps (k45.M W base ok) 2 l (align_Pairs.cs l)
  | [] => Reps.none _ _
  | x :: l => Reps.c2 (k45_mkM W base ok x) (align_Pairs.reps W base ok l)
set_option maxHeartbeats 4000000 in
set_option maxRecDepth 100000 in
theorem align_Pairs.calls (k : Nat) (a0 : ByteArray) (a1 : ByteArray) (A2 : Option Addr) (c2 : Nat) (l2 : List Int) (r1 : List S45) (r2 : Int) (w : World) (hr2 : Kd.C (Kd.int .i64) w A2 l2.length l2) (hc2 : l2.length ≤ c2) (h : align_Pairs.f k a0 a1 l2 = some (r1, r2)) :
    Calls Try.prog 22 #[.string a0, .string a1, .slice A2 l2.length c2] w fun e w' => ∃ v0_ : Value, e = .returned (.tuple #[v0_, .int .i64 r2]) ∧ Kd.R k45 45 w' w.heap.size (fun _ => True) v0_ r1 ∧ Below w.heap.size w w' := by
  unfold align_Pairs.f at h
  obtain ⟨e, he, h'⟩ := Option.bind_eq_some_iff.1 h
  clear h
  have h := h'
  clear h'
  have HR := Lib.hid hr2
  clear hr2
  by_cases h0 : e = 0
  · subst h0
    rw [if_pos rfl] at h
    by_cases hsz : a0.size ≤ 40 ∧ a1.size ≤ 40
    · rw [if_pos hsz] at h
      obtain ⟨⟨s, ok⟩, hw, h1⟩ := Option.bind_eq_some_iff.1 h
      obtain ⟨L, ht, h2⟩ := Option.bind_eq_some_iff.1 h1
      clear h h1
      have HG := Lib.hid (fun W => align_given.calls k a0 a1 0 W he)
      have HW := Lib.hid hw; have HT := Lib.hid ht; have HH := Lib.hid h2; have HSZ := Lib.hid hsz
      clear he hw ht h2 hsz
      go_enter Try.func22, Try.ntmps22
      go_wp2_with (go_at_call 41; refine (HG.out _).mono ?_)
      (first | rintro e w1 rfl hb1 | rintro e w1 ⟨rfl, hb1⟩)
      have q1 : align_Pairs.Po (w1.alloc (.cells #[.slice none 0 0] 38)) w.heap.size w1.heap.size none [] :=
        ⟨_, heap_alloc_new w1 _, World.ownsRow_nil _ _ _ _, rfl, by simp⟩
      have hle : w.heap.size ≤ w1.heap.size := hb1.size
      have eW : Below w.heap.size w (w1.alloc (.cells #[.slice none 0 0] 38)) := hb1.trans ((Below.refl _ _).alloc hle _)
      have j0 : align_Pairs.J a0 a1 l2 L w.heap.size w1.heap.size k 0 0 0 (fun k => k = w1.heap.size ∨ some k = none) (w1.alloc (.cells #[.slice none 0 0] 38)) := ⟨[], none, HT.out, q1, by omega, by omega, by omega, by omega, fun _ => Iff.rfl⟩
      have hS0 : ∀ k, (k = w1.heap.size ∨ some k = none) → w.heap.size ≤ k := fun k hk => hk.elim (fun h => by omega) (fun h => nomatch h)
      have HB1 := Lib.hid hb1; have J0 := Lib.hid j0; have EW := Lib.hid eW; have HS0 := Lib.hid hS0; have HLE := Lib.hid hle
      clear hb1 q1 hle eW j0 hS0
      go_wp2_with (fail)
      refine (align_walk.pairs_ k a0 a1 A2 c2 l2 s ok w _ w1.heap.size HR.out hc2 EW.out _ HS0.out (align_Pairs.J a0 a1 l2 L w.heap.size w1.heap.size) align_Pairs.Jf align_Pairs.Jl (align_Pairs.Jc HSZ.out.1 HSZ.out.2 HLE.out) J0.out HW.out).mono ?_
      rintro e w2 ⟨rfl, hf, hj⟩
      have b2 : Below w.heap.size w w2 := EW.out.trans (hf.below EW.out.size HS0.out)
      have B2 := Lib.hid b2
      clear b2 hf
      cases ok with
      | false =>
        have hr : ([] : List S45) = r1 ∧ (1 : Int) = r2 := Prod.mk.inj (Option.some.inj HH.out)
        obtain ⟨rfl, rfl⟩ := hr
        clear hj
        go_wp2
        go_ret2
        exact ⟨_, rfl, Kd.R_nil _ _ _ _ _, B2.out⟩
      | true =>
        have hr : L = r1 ∧ (0 : Int) = r2 := Prod.mk.inj (Option.some.inj HH.out)
        obtain ⟨rfl, rfl⟩ := hr
        obtain ⟨kq, n, S', hn, hJ, hS'⟩ := hj rfl
        obtain ⟨l, r, h1, h2, h5, h6, h7, h8, h9⟩ := hJ
        rw [align_Pairs.t0, if_neg (by omega)] at h1
        obtain rfl := Option.some.inj h1
        obtain ⟨v, hk, ho, hv, hne⟩ := h2
        have cb : w2.cell? ⟨w1.heap.size, 0, none⟩ = some v := by rw [Lib.cell_of_heap hk]; rfl
        have RR := Lib.hid (show Kd.R k45 45 w2 w.heap.size (fun _ => True) v l from ⟨fun _ _ => trivial, _, ho, align_Pairs.reps _ _ _ l⟩)
        clear hk ho hv hne h5 h6 h7 h8 h9 hS' h1 hn
        go_wp2
        go_ret2
        exact ⟨_, rfl, RR.out, B2.out⟩
    · rw [if_neg hsz] at h; cases h
  · rw [if_neg h0] at h
    obtain ⟨rfl, rfl⟩ := Prod.mk.inj (Option.some.inj h)
    clear h
    have hb0 : (e == 0) = false := by simpa using h0
    have hb1 : (e != 0) = true := by simpa using h0
    have HC := Lib.hid (fun W => align_given.calls k a0 a1 e W he)
    clear he
    go_enter Try.func22, Try.ntmps22
    go_wp2_with (go_at_call 41; refine (HC.out _).mono ?_; rintro e w1 ⟨rfl, hb⟩)
    go_ret2
    exact ⟨_, rfl, Kd.R_nil _ _ _ _ _, hb⟩

/-! ### ancepsref45_Pairs: function 23 -/
def ancepsref45_Pairs.l0 : Nat → ByteArray → ByteArray → List Int → List (S45) → Int → Int → Int → Option ((List (S45)) × Int)
  | 0, _, _, _, _, _, _, _ => none
  | k + 1, x0, x1, x2, x11, x12, x13, x14 => if x14 < (x2.length : Int) then (if 0 ≤ x14 then (if (rd x2 x14) = 0 then (if x11.length < 8796093022208 then ((ancepsref45_Step.f k x0 x1 x12 x13 (rd x2 x14)).bind fun bt403 => (ancepsref45_Pairs.l0 k x0 x1 x2 (x11 ++ [(⟨x12, x13⟩ : S45)]) bt403.1 bt403.2.1 (wrap64 (x14 + 1)))) else (none)) else (if (rd x2 x14) = 1 then ((some (([(⟨x12, x13⟩ : S45), (⟨x12, wrap64 (x13 + 1)⟩ : S45)] : List (S45)) : List (S45))).bind fun y407 => (if x11.length + y407.length < 8796093022208 then ((ancepsref45_Step.f k x0 x1 x12 x13 (rd x2 x14)).bind fun bt414 => (ancepsref45_Pairs.l0 k x0 x1 x2 (x11 ++ y407) bt414.1 bt414.2.1 (wrap64 (x14 + 1)))) else (none))) else (if (rd x2 x14) = 2 then ((some (([(⟨x12, x13⟩ : S45), (⟨wrap64 (x12 + 1), x13⟩ : S45)] : List (S45)) : List (S45))).bind fun y418 => (if x11.length + y418.length < 8796093022208 then ((ancepsref45_Step.f k x0 x1 x12 x13 (rd x2 x14)).bind fun bt425 => (ancepsref45_Pairs.l0 k x0 x1 x2 (x11 ++ y418) bt425.1 bt425.2.1 (wrap64 (x14 + 1)))) else (none))) else (if (rd x2 x14) = 3 then (if x11.length < 8796093022208 then ((ancepsref45_Step.f k x0 x1 x12 x13 (rd x2 x14)).bind fun bt433 => (ancepsref45_Pairs.l0 k x0 x1 x2 (x11 ++ [(⟨x12, (-1)⟩ : S45)]) bt433.1 bt433.2.1 (wrap64 (x14 + 1)))) else (none)) else (if x11.length < 8796093022208 then ((ancepsref45_Step.f k x0 x1 x12 x13 (rd x2 x14)).bind fun bt441 => (ancepsref45_Pairs.l0 k x0 x1 x2 (x11 ++ [(⟨(-1), x13⟩ : S45)]) bt441.1 bt441.2.1 (wrap64 (x14 + 1)))) else (none)))))) else (none)) else (some (x11, 0))
def ancepsref45_Pairs.f (k : Nat) (a0 : ByteArray) (a1 : ByteArray) (l2 : List Int) : Option ((List (S45)) × Int) := (ancepsref45_Given.f k a0 a1).bind fun t395 => (if t395 = 0 then ((ancepsref45_Cost.f k a0 a1 l2).bind fun bt396 => (if bt396.2 = true then (ancepsref45_Pairs.l0 k a0 a1 l2 ([] : List (S45)) 0 0 0) else (some (([] : List (S45)), 1)))) else (some (([] : List (S45)), t395)))
theorem ancepsref45_Pairs.mono_l : ∀ k, (∀ y0 y1 y2 y3 y4 y5 y6, LeO (ancepsref45_Pairs.l0 k y0 y1 y2 y3 y4 y5 y6) (ancepsref45_Pairs.l0 (k + 1) y0 y1 y2 y3 y4 y5 y6))
  | 0 => fun _ _ _ _ _ _ _ r h => by simp [ancepsref45_Pairs.l0] at h
  | k + 1 => by
    have ih0 := ancepsref45_Pairs.mono_l k
    · intro y0 y1 y2 y3 y4 y5 y6
      unfold ancepsref45_Pairs.l0
      repeat' first
      | (with_reducible exact ih0 _ _ _ _ _ _ _)
      | (with_reducible exact ancepsref45_Cost.mono _ _ _ _)
      | (with_reducible exact ancepsref45_Given.mono _ _ _)
      | (with_reducible exact ancepsref45_Step.mono _ _ _ _ _ _)
      | (with_reducible exact LeO.refl _)
      | (with_reducible exact LeO.none _)
      | (with_reducible refine LeO.ite ?_ ?_)
      | (with_reducible refine LeO.bind ?_ (fun _ => ?_))
      | exact ih0 _ _ _ _ _ _ _
      | exact ancepsref45_Cost.mono _ _ _ _
      | exact ancepsref45_Given.mono _ _ _
      | exact ancepsref45_Step.mono _ _ _ _ _ _
      | exact LeO.none _
      | refine LeO.ite ?_ ?_
      | refine LeO.bind ?_ (fun _ => ?_)
theorem ancepsref45_Pairs.mono : ∀ a0 a1 a2 k, LeO (ancepsref45_Pairs.f k a0 a1 a2) (ancepsref45_Pairs.f (k + 1) a0 a1 a2) := by
  intro a0 a1 a2 k
  have ih0 := ancepsref45_Pairs.mono_l k
  unfold ancepsref45_Pairs.f
  repeat' first
      | (with_reducible exact ih0 _ _ _ _ _ _ _)
      | (with_reducible exact ancepsref45_Cost.mono _ _ _ _)
      | (with_reducible exact ancepsref45_Given.mono _ _ _)
      | (with_reducible exact ancepsref45_Step.mono _ _ _ _ _ _)
      | (with_reducible exact LeO.refl _)
      | (with_reducible exact LeO.none _)
      | (with_reducible refine LeO.ite ?_ ?_)
      | (with_reducible refine LeO.bind ?_ (fun _ => ?_))
      | exact ih0 _ _ _ _ _ _ _
      | exact ancepsref45_Cost.mono _ _ _ _
      | exact ancepsref45_Given.mono _ _ _
      | exact ancepsref45_Step.mono _ _ _ _ _ _
      | exact LeO.none _
      | refine LeO.ite ?_ ?_
      | refine LeO.bind ?_ (fun _ => ?_)
set_option maxHeartbeats 8000000 in
set_option maxRecDepth 100000 in
theorem ancepsref45_Pairs.calls (k : Nat) (a0 : ByteArray) (a1 : ByteArray) (A2 : Option Addr) (c2 : Nat) (l2 : List Int) (r1 : List (S45)) (r2 : Int) (w : World) (hr2 : Kd.C (Kd.int .i64) w A2 l2.length l2) (hc2 : l2.length ≤ c2) (h : ancepsref45_Pairs.f k a0 a1 l2 = some (r1, r2)) :
    Calls Try.prog 23 #[.string a0, .string a1, .slice A2 l2.length c2] w fun e w' => ∃ v0_ : Value, e = .returned (.tuple #[v0_, .int .i64 r2]) ∧ Kd.R k45 45 w' w.heap.size (fun _ => True) v0_ r1 ∧ Below w.heap.size w w' := by
  have hu45 := Try.underlying45
  have HR2 := Aside0.mk hr2
  have HC2 := Aside0.mk hc2
  clear hr2 hc2
  have HB := Aside0.mk (Below.refl w.heap.size w)
  have H : ((ancepsref45_Given.f k a0 a1).bind fun t395 => (if t395 = 0 then ((ancepsref45_Cost.f k a0 a1 l2).bind fun bt396 => (if bt396.2 = true then (ancepsref45_Pairs.l0 k a0 a1 l2 ([] : List (S45)) 0 0 0) else (some (([] : List (S45)), 1)))) else (some (([] : List (S45)), t395)))) = some (r1, r2) := h
  clear h
  replace H := Option.bind_eq_some_iff.mp H
  obtain ⟨t395, A40, H⟩ := H
  replace H : (if t395 = 0 then ((ancepsref45_Cost.f k a0 a1 l2).bind fun bt396 => (if bt396.2 = true then (ancepsref45_Pairs.l0 k a0 a1 l2 ([] : List (S45)) 0 0 0) else (some (([] : List (S45)), 1)))) else (some (([] : List (S45)), t395))) = some (r1, r2) := H
  have A4 := Aside0.mk A40
  clear A40
  by_cases c5 : t395 = 0
  · rw [if_pos c5] at H
    have c5b0 : (t395 == 0) = true := beq_iff_eq.mpr c5
    have c5b1 : (t395 != 0) = false := bne_eq_false_iff_eq.mpr c5
    clear c5
    replace H := Option.bind_eq_some_iff.mp H
    obtain ⟨⟨t396, t397⟩, A60, H⟩ := H
    replace H : (if t397 = true then (ancepsref45_Pairs.l0 k a0 a1 l2 ([] : List (S45)) 0 0 0) else (some (([] : List (S45)), 1))) = some (r1, r2) := H
    have A6 := Aside0.mk A60
    clear A60
    by_cases c7 : t397 = true
    · subst c7
      have H1 : (ancepsref45_Pairs.l0 k a0 a1 l2 ([] : List (S45)) 0 0 0) = some (r1, r2) := by rw [if_pos rfl] at H; exact H
      clear H
      have H := H1
      clear H1
      have H' := Aside0.mk H
      clear H
      go_enter Try.func23, Try.ntmps23
      go_wp2_with (first | ((with_reducible refine gate_callee (f := 16) rfl ?_); refine goesL_ (some 17) rfl rfl Try.func16 (by kernel_rfl) rfl #[.string a0, .string a1] rfl (by (try simp only [List.map_toArray, List.map_cons, List.map_nil]); first | done | rfl | (simp only [List.length_drop, List.length_take]; rfl)) ?_; (with_reducible refine (ancepsref45_Given.calls k a0 a1 t395 _ A4.out).mono ?_); rintro e w' ⟨rfl, ⟨nd, rfl⟩⟩; refine ⟨_, rfl, ?_⟩) | ((with_reducible refine gate_callee (f := 20) rfl ?_); refine goesL_ (some 25) rfl rfl Try.func20 (by kernel_rfl) rfl #[.string a0, .string a1, .slice A2 l2.length c2] rfl (by (try simp only [List.map_toArray, List.map_cons, List.map_nil]); first | done | rfl | (simp only [List.length_drop, List.length_take]; rfl)) ?_; (with_reducible refine (ancepsref45_Cost.calls k a0 a1 _ _ l2 t396 true _ ?side1 ?side2 A6.out).mono ?_); (case side1 => repeat (first | exact HR2.out | (with_reducible refine Kd.C_alloc ?_ _) | (with_reducible refine Kd.C_drewN ?_ _) | (with_reducible refine Kd.C_drew ?_))); (case side2 => exact HC2.out); rintro e w' ⟨rfl, ⟨nd, rfl⟩⟩; refine ⟨_, rfl, ?_⟩))
      go_loopg [11, 12, 13, 14] k (fun kq v11 v12 v13 v14 w' => ∃ (x11_1 : List (S45)) (x12_1 : Int) (x13_1 : Int) (x14_1 : Int), v12 = .int .i64 x12_1 ∧ v13 = .int .i64 x13_1 ∧ v14 = .int .i64 x14_1 ∧ Aside0 (ancepsref45_Pairs.l0 kq a0 a1 l2 x11_1 x12_1 x13_1 x14_1 = some (r1, r2)) ∧ Aside0 (kq ≤ k) ∧ Aside0 (Kd.R k45 45 w' w.heap.size (fun _ => True) v11 x11_1) ∧ Aside0 (Below w.heap.size w w'))
      case atStart => exact ⟨(([] : List (S45))), (0), (0), (0), (by first | rfl | (simp; done) | (simp [*]; done)), (by first | rfl | (simp; done) | (simp [*]; done)), (by first | rfl | (simp; done) | (simp [*]; done)), H', ⟨Nat.le_refl _⟩, ⟨by first | exact Kd.R_nil _ _ _ _ _ | exact Kd.N_nil _ _ _ _ _ | exact Kd.V_nil _ _ _ _ _ | exact Kd.Q_nil _ _ _ _ _ | exact Kd.S_nil _ _ _ _ _⟩, ⟨by repeat (first | (with_reducible first | exact HB.out | apply below_alloc | apply pw_below_drewN | apply below_drew1) | exact HB.out)⟩⟩
      case round =>
        clear H'
        try clear c1
        try clear c2
        try clear p2
        try clear c5
        try clear c5b0
        try clear c5b1
        try clear c7
        obtain ⟨x11_1, x12_1, x13_1, x14_1, rfl, rfl, rfl, HA, HK1, HO_11, HB⟩ := hrel
        cases gk with
        | zero => exact absurd HA.out (by simp [ancepsref45_Pairs.l0])
        | succ k1 =>
          have H := HA.out
          clear HA
          simp only [ancepsref45_Pairs.l0] at H
          by_cases c8 : x14_1 < (l2.length : Int)
          · rw [if_pos c8] at H
            have c8b0 : decide (x14_1 < (l2.length : Int)) = true := decide_eq_true c8
            clear c8
            by_cases c9 : 0 ≤ x14_1
            · rw [if_pos c9] at H
              have c9b0 : decide (0 ≤ x14_1) = true := decide_eq_true c9
              clear c9
              by_cases c10 : (rd l2 x14_1) = 0
              · rw [if_pos c10] at H
                have c10b0 : ((rd l2 x14_1) == 0) = true := beq_iff_eq.mpr c10
                have c10b1 : ((rd l2 x14_1) != 0) = false := bne_eq_false_iff_eq.mpr c10
                clear c10
                by_cases c11 : x11_1.length < 8796093022208
                · rw [if_pos c11] at H
                  have LMc11 := Aside0.mk c11
                  clear c11
                  obtain ⟨y399, hy399⟩ : ∃ y_ : List (S45), y_ = (x11_1 ++ [(⟨x12_1, x13_1⟩ : S45)]) := ⟨_, rfl⟩
                  replace H : ((ancepsref45_Step.f k1 a0 a1 x12_1 x13_1 (rd l2 x14_1)).bind fun bt403 => (ancepsref45_Pairs.l0 k1 a0 a1 l2 y399 bt403.1 bt403.2.1 (wrap64 (x14_1 + 1)))) = some (r1, r2) := by first | (rw [hy399]; with_reducible exact H) | (have H2_ := (Option.bind_some _ _).symm.trans H; rw [hy399]; with_reducible exact H2_) | (have H2_ := (Option.bind_some _ _).symm.trans H; with_reducible exact H2_) | with_reducible exact H | (rw [hy399]; exact H) | exact H
                  have Ny399 := Aside0.mk hy399
                  clear hy399
                  replace H := Option.bind_eq_some_iff.mp H
                  obtain ⟨⟨t403, t404, t405, t406⟩, A120, H⟩ := H
                  replace H : (ancepsref45_Pairs.l0 k1 a0 a1 l2 y399 t403 t404 (wrap64 (x14_1 + 1))) = some (r1, r2) := H
                  have A12 := Aside0.mk A120
                  clear A120
                  have H' := Aside0.mk H
                  clear H
                  have p398 : 0 ≤ (x14_1 : Int) := of_decide_eq_true (by first | (with_reducible assumption) | assumption)
                  have q398 : x14_1 < (l2.length : Int) := of_decide_eq_true (by first | (with_reducible assumption) | assumption)
                  obtain ⟨ad398, e398, hx398_0⟩ := Kd.at_int HR2.out x14_1 p398 q398
                  cases e398
                  replace hx398_0 := (HB.out.cell (World.block_lt_of_cell? w _ hx398_0)).trans hx398_0
                  replace p398 := eq_true p398
                  replace q398 := eq_true q398
                  go_wp2_with (first | ((with_reducible refine gate_builtin (b := .append) (xs := #[.tmp 47, .tmp 51]) rfl ?_); at_builtin; refine Kd.R_append k45 (w0 := w) w.heap.size rfl (.tmp 47) (.tmp 51) 38 45 (.agg #[(.int .i64 0), (.int .i64 0)]) 16 rfl Try.underlying38 info45 rfl (by decide) (by omega) u11 x11_1 (⟨x12_1, x13_1⟩ : S45) [.int .i64 x12_1, .int .i64 x13_1] (fun _ => True) (fun _ => False) rfl rfl ?aP (fun _ hk => hk.elim) ?aF ?aO ?aB ?aS ?aL ?_; (case aP => exact k45_mkM _ _ _ (⟨x12_1, x13_1⟩ : S45)); (case aB => exact (by repeat (first | (with_reducible first | exact HB.out | apply below_alloc | apply pw_below_drewN | apply below_drew1) | exact HB.out))); (case aF => exact (fun _ _ => trivial)); (case aO => exact (by (with_reducible repeat (first | apply Kd.R_alloc | apply Kd.R_drewN | apply Kd.R_drew)); exact HO_11.out)); (case aS => exact (below_size (by repeat (first | (with_reducible first | exact HB.out | apply below_alloc | apply pw_below_drewN | apply below_drew1) | exact HB.out)))); (case aL => have := LMc11.out; omega); intro v400 w13 ho hb hg hat; rw [← Ny399.out] at ho; have n0_ := Aside0.mk (hb); have n1_ := Aside0.mk (ho); clear HB; clear HO_11; have HB := n0_; have HO401 := n1_; clear n0_ n1_; clear ho hb hg hat; have p402 : 0 ≤ (x14_1 : Int) := of_decide_eq_true (by first | (with_reducible assumption) | assumption); have q402 : x14_1 < (l2.length : Int) := of_decide_eq_true (by first | (with_reducible assumption) | assumption); obtain ⟨ad402, e402, hx402_0⟩ := Kd.at_int HR2.out x14_1 p402 q402; obtain rfl : ad398 = ad402 := (by injection e402); replace hx402_0 := (HB.out.cell (World.block_lt_of_cell? w _ hx402_0)).trans hx402_0; replace p402 := eq_true p402; replace q402 := eq_true q402) | ((with_reducible refine gate_callee (f := 45) rfl ?_); refine goesL_ (some 93) rfl rfl Try.func45 (by kernel_rfl) rfl #[.string a0, .string a1, .int .i64 x12_1, .int .i64 x13_1, .int .i64 (rd l2 x14_1)] rfl (by (try simp only [List.map_toArray, List.map_cons, List.map_nil]); first | done | rfl | (simp only [List.length_drop, List.length_take]; rfl)) ?_; (with_reducible refine (ancepsref45_Step.calls k1 a0 a1 x12_1 x13_1 (rd l2 x14_1) t403 t404 t405 t406 _ A12.out).mono ?_); rintro e w' ⟨rfl, ⟨nd, rfl⟩⟩; refine ⟨_, rfl, ?_⟩))
                  go_roundg k1
                  case measure => have := HK1.out; omega
                  case rel => exact ⟨(y399), (t403), (t404), (wrap64 (x14_1 + 1)), (by first | rfl | (simp; done) | (simp [*]; done)), (by first | rfl | (simp; done) | (simp [*]; done)), (by first | rfl | (simp; done) | (simp [*]; done)), H', ⟨by have := HK1.out; omega⟩, ⟨by (with_reducible repeat (first | apply Kd.R_alloc | apply Kd.R_drewN | apply Kd.R_drew)); exact HO401.out⟩, ⟨by repeat (first | (with_reducible first | exact HB.out | apply below_alloc | apply pw_below_drewN | apply below_drew1) | exact HB.out)⟩⟩
                · rw [if_neg c11] at H
                  exact absurd H (by simp)
              · rw [if_neg c10] at H
                have c10b0 : ((rd l2 x14_1) == 0) = false := beq_eq_false_iff_ne.mpr c10
                have c10b1 : ((rd l2 x14_1) != 0) = true := bne_iff_ne.mpr c10
                by_cases c14 : (rd l2 x14_1) = 1
                · rw [if_pos c14] at H
                  have c14b0 : ((rd l2 x14_1) == 1) = true := beq_iff_eq.mpr c14
                  have c14b1 : ((rd l2 x14_1) != 1) = false := bne_eq_false_iff_eq.mpr c14
                  clear c14
                  obtain ⟨y407, hy407⟩ : ∃ y_ : List (S45), y_ = (([(⟨x12_1, x13_1⟩ : S45), (⟨x12_1, wrap64 (x13_1 + 1)⟩ : S45)] : List (S45))) := ⟨_, rfl⟩
                  replace H : (if x11_1.length + y407.length < 8796093022208 then ((ancepsref45_Step.f k1 a0 a1 x12_1 x13_1 (rd l2 x14_1)).bind fun bt414 => (ancepsref45_Pairs.l0 k1 a0 a1 l2 (x11_1 ++ y407) bt414.1 bt414.2.1 (wrap64 (x14_1 + 1)))) else (none)) = some (r1, r2) := by first | (rw [hy407]; with_reducible exact H) | (have H2_ := (Option.bind_some _ _).symm.trans H; rw [hy407]; with_reducible exact H2_) | (have H2_ := (Option.bind_some _ _).symm.trans H; with_reducible exact H2_) | with_reducible exact H | (rw [hy407]; exact H) | exact H
                  have Ny407 := Aside0.mk hy407
                  clear hy407
                  by_cases c15 : x11_1.length + y407.length < 8796093022208
                  · rw [if_pos c15] at H
                    have LMc15 := Aside0.mk c15
                    clear c15
                    obtain ⟨y410, hy410⟩ : ∃ y_ : List (S45), y_ = (x11_1 ++ y407) := ⟨_, rfl⟩
                    replace H : ((ancepsref45_Step.f k1 a0 a1 x12_1 x13_1 (rd l2 x14_1)).bind fun bt414 => (ancepsref45_Pairs.l0 k1 a0 a1 l2 y410 bt414.1 bt414.2.1 (wrap64 (x14_1 + 1)))) = some (r1, r2) := by first | (rw [hy410]; with_reducible exact H) | (have H2_ := (Option.bind_some _ _).symm.trans H; rw [hy410]; with_reducible exact H2_) | (have H2_ := (Option.bind_some _ _).symm.trans H; with_reducible exact H2_) | with_reducible exact H | (rw [hy410]; exact H) | exact H
                    have Ny410 := Aside0.mk hy410
                    clear hy410
                    replace H := Option.bind_eq_some_iff.mp H
                    obtain ⟨⟨t414, t415, t416, t417⟩, A160, H⟩ := H
                    replace H : (ancepsref45_Pairs.l0 k1 a0 a1 l2 y410 t414 t415 (wrap64 (x14_1 + 1))) = some (r1, r2) := H
                    have A16 := Aside0.mk A160
                    clear A160
                    have H' := Aside0.mk H
                    clear H
                    have p398 : 0 ≤ (x14_1 : Int) := of_decide_eq_true (by first | (with_reducible assumption) | assumption)
                    have q398 : x14_1 < (l2.length : Int) := of_decide_eq_true (by first | (with_reducible assumption) | assumption)
                    obtain ⟨ad398, e398, hx398_0⟩ := Kd.at_int HR2.out x14_1 p398 q398
                    cases e398
                    replace hx398_0 := (HB.out.cell (World.block_lt_of_cell? w _ hx398_0)).trans hx398_0
                    replace p398 := eq_true p398
                    replace q398 := eq_true q398
                    go_wp2_with (first | ((with_reducible refine gate_dst (N := 63) rfl ?_); refine Kd.R_lit k45 _ 45 ?hg (N := 63) ?hd (xs := ([(⟨x12_1, x13_1⟩ : S45), (⟨x12_1, wrap64 (x13_1 + 1)⟩ : S45)] : List (S45))) (inner := [.int .i64 x12_1, .int .i64 x13_1, .int .i64 x12_1, .int .i64 (wrap64 (x13_1 + 1))]) (ok := fun _ => True) (okp := fun _ => True) ?hr ?hp (fun _ hk => hk) trivial (Below.refl _ _) (Nat.le_refl _) (by simp) ?_; (case hd => rfl); (case hg => rfl); (case hr => first | (go_simp; done) | (go_simp; rfl)); (case hp => exact (Reps.c2 (show Kd.M k45 _ _ _ (⟨x12_1, x13_1⟩ : S45) [.int .i64 x12_1, .int .i64 x13_1] from (k45_mkM _ _ _ (⟨x12_1, x13_1⟩ : S45) )) (Reps.c2 (show Kd.M k45 _ _ _ (⟨x12_1, wrap64 (x13_1 + 1)⟩ : S45) [.int .i64 x12_1, .int .i64 (wrap64 (x13_1 + 1))] from (k45_mkM _ _ _ (⟨x12_1, wrap64 (x13_1 + 1)⟩ : S45) )) (Reps.none _ _)))); intro v408 w17 ho18 hb hg_ hnew_; clear hg_ hnew_; (first | rw [← Ny407.out] at ho18 | (simp only [Int.reduceToNat] at ho18; rw [← Ny407.out] at ho18)); have n0_ := Aside0.mk (Kd.R_elder' (by (with_reducible repeat (first | apply Kd.R_alloc | apply Kd.R_drewN | apply Kd.R_drew)); exact HO_11.out) (Kd.R_base ho18) hb); have n1_ := Aside0.mk (Kd.R_lower (Kd.R_new' ho18 (Kd.R_lt (by (with_reducible repeat (first | apply Kd.R_alloc | apply Kd.R_drewN | apply Kd.R_drew)); exact HO_11.out))) (below_size (by repeat (first | (with_reducible first | exact HB.out | apply below_alloc | apply pw_below_drewN | apply below_drew1) | exact HB.out)))); have n2_ := Aside0.mk (below_step (by repeat (first | (with_reducible first | exact HB.out | apply below_alloc | apply pw_below_drewN | apply below_drew1) | exact HB.out)) hb); clear HO_11; clear HB; have HO_11 := n0_; have HO409 := n1_; have HB := n2_; clear n0_ n1_ n2_; clear hb ho18; obtain ⟨Ao20, co20, eo20⟩ := Kd.R_slice HO409.out; subst eo20) | ((with_reducible refine gate_builtin (b := .append) (xs := #[.tmp 55, .tmp 63]) rfl ?_); at_builtin; refine Kd.R_append_rows k45 (w0 := w) w.heap.size rfl (.tmp 55) (.tmp 63) 38 45 (.agg #[(.int .i64 0), (.int .i64 0)]) 16 rfl Try.underlying38 info45 rfl (by decide) (by omega) u11 x11_1 y407 _ _ _ (fun k_ => some k_ ≠ (.slice Ao20 y407.length co20 : Value).ownBlock) (fun _ => False) rfl rfl ?aO ?aR (fun _ _ h => h) (fun _ h => h.elim) ?aF ?aB ?aS ?aL ?_; (case aR => repeat (first | exact (Kd.R_reads' HO409.out).2.2 | (with_reducible refine Kd.C_alloc ?_ _) | (with_reducible refine Kd.C_drewN ?_ _) | (with_reducible refine Kd.C_drew ?_))); (case aB => exact (by repeat (first | (with_reducible first | exact HB.out | apply below_alloc | apply pw_below_drewN | apply below_drew1) | exact HB.out))); (case aF => exact (fun k_ hk => Kd.fresh' (Kd.R_lt (by (with_reducible repeat (first | apply Kd.R_alloc | apply Kd.R_drewN | apply Kd.R_drew)); exact HO409.out)) k_ hk)); (case aO => exact (by (with_reducible repeat (first | apply Kd.R_alloc | apply Kd.R_drewN | apply Kd.R_drew)); exact Kd.R_mono HO_11.out (fun _ hk => hk.2))); (case aS => exact (below_size (by repeat (first | (with_reducible first | exact HB.out | apply below_alloc | apply pw_below_drewN | apply below_drew1) | exact HB.out)))); (case aL => have := LMc15.out; omega); intro v411 w19 ho hb hg hat; rw [← Ny410.out] at ho; have n0_ := Aside0.mk (Kd.R_after (ok := (fun _ => True)) (by (with_reducible repeat (first | apply Kd.R_alloc | apply Kd.R_drewN | apply Kd.R_drew)); exact HO409.out) hg hat); have n1_ := Aside0.mk (hb); have n2_ := Aside0.mk (ho); clear HO409; clear HB; clear HO_11; have HO409 := n0_; have HB := n1_; have HO412 := n2_; clear n0_ n1_ n2_; clear ho hb hg hat; have p413 : 0 ≤ (x14_1 : Int) := of_decide_eq_true (by first | (with_reducible assumption) | assumption); have q413 : x14_1 < (l2.length : Int) := of_decide_eq_true (by first | (with_reducible assumption) | assumption); obtain ⟨ad413, e413, hx413_0⟩ := Kd.at_int HR2.out x14_1 p413 q413; obtain rfl : ad398 = ad413 := (by injection e413); replace hx413_0 := (HB.out.cell (World.block_lt_of_cell? w _ hx413_0)).trans hx413_0; replace p413 := eq_true p413; replace q413 := eq_true q413) | ((with_reducible refine gate_callee (f := 45) rfl ?_); refine goesL_ (some 93) rfl rfl Try.func45 (by kernel_rfl) rfl #[.string a0, .string a1, .int .i64 x12_1, .int .i64 x13_1, .int .i64 (rd l2 x14_1)] rfl (by (try simp only [List.map_toArray, List.map_cons, List.map_nil]); first | done | rfl | (simp only [List.length_drop, List.length_take]; rfl)) ?_; (with_reducible refine (ancepsref45_Step.calls k1 a0 a1 x12_1 x13_1 (rd l2 x14_1) t414 t415 t416 t417 _ A16.out).mono ?_); rintro e w' ⟨rfl, ⟨nd, rfl⟩⟩; refine ⟨_, rfl, ?_⟩))
                    go_roundg k1
                    case measure => have := HK1.out; omega
                    case rel => exact ⟨(y410), (t414), (t415), (wrap64 (x14_1 + 1)), (by first | rfl | (simp; done) | (simp [*]; done)), (by first | rfl | (simp; done) | (simp [*]; done)), (by first | rfl | (simp; done) | (simp [*]; done)), H', ⟨by have := HK1.out; omega⟩, ⟨by (with_reducible repeat (first | apply Kd.R_alloc | apply Kd.R_drewN | apply Kd.R_drew)); exact Kd.R_mono HO412.out (fun _ hk => trivial)⟩, ⟨by repeat (first | (with_reducible first | exact HB.out | apply below_alloc | apply pw_below_drewN | apply below_drew1) | exact HB.out)⟩⟩
                  · rw [if_neg c15] at H
                    exact absurd H (by simp)
                · rw [if_neg c14] at H
                  have c14b0 : ((rd l2 x14_1) == 1) = false := beq_eq_false_iff_ne.mpr c14
                  have c14b1 : ((rd l2 x14_1) != 1) = true := bne_iff_ne.mpr c14
                  by_cases c21 : (rd l2 x14_1) = 2
                  · rw [if_pos c21] at H
                    have c21b0 : ((rd l2 x14_1) == 2) = true := beq_iff_eq.mpr c21
                    have c21b1 : ((rd l2 x14_1) != 2) = false := bne_eq_false_iff_eq.mpr c21
                    clear c21
                    obtain ⟨y418, hy418⟩ : ∃ y_ : List (S45), y_ = (([(⟨x12_1, x13_1⟩ : S45), (⟨wrap64 (x12_1 + 1), x13_1⟩ : S45)] : List (S45))) := ⟨_, rfl⟩
                    replace H : (if x11_1.length + y418.length < 8796093022208 then ((ancepsref45_Step.f k1 a0 a1 x12_1 x13_1 (rd l2 x14_1)).bind fun bt425 => (ancepsref45_Pairs.l0 k1 a0 a1 l2 (x11_1 ++ y418) bt425.1 bt425.2.1 (wrap64 (x14_1 + 1)))) else (none)) = some (r1, r2) := by first | (rw [hy418]; with_reducible exact H) | (have H2_ := (Option.bind_some _ _).symm.trans H; rw [hy418]; with_reducible exact H2_) | (have H2_ := (Option.bind_some _ _).symm.trans H; with_reducible exact H2_) | with_reducible exact H | (rw [hy418]; exact H) | exact H
                    have Ny418 := Aside0.mk hy418
                    clear hy418
                    by_cases c22 : x11_1.length + y418.length < 8796093022208
                    · rw [if_pos c22] at H
                      have LMc22 := Aside0.mk c22
                      clear c22
                      obtain ⟨y421, hy421⟩ : ∃ y_ : List (S45), y_ = (x11_1 ++ y418) := ⟨_, rfl⟩
                      replace H : ((ancepsref45_Step.f k1 a0 a1 x12_1 x13_1 (rd l2 x14_1)).bind fun bt425 => (ancepsref45_Pairs.l0 k1 a0 a1 l2 y421 bt425.1 bt425.2.1 (wrap64 (x14_1 + 1)))) = some (r1, r2) := by first | (rw [hy421]; with_reducible exact H) | (have H2_ := (Option.bind_some _ _).symm.trans H; rw [hy421]; with_reducible exact H2_) | (have H2_ := (Option.bind_some _ _).symm.trans H; with_reducible exact H2_) | with_reducible exact H | (rw [hy421]; exact H) | exact H
                      have Ny421 := Aside0.mk hy421
                      clear hy421
                      replace H := Option.bind_eq_some_iff.mp H
                      obtain ⟨⟨t425, t426, t427, t428⟩, A230, H⟩ := H
                      replace H : (ancepsref45_Pairs.l0 k1 a0 a1 l2 y421 t425 t426 (wrap64 (x14_1 + 1))) = some (r1, r2) := H
                      have A23 := Aside0.mk A230
                      clear A230
                      have H' := Aside0.mk H
                      clear H
                      have p398 : 0 ≤ (x14_1 : Int) := of_decide_eq_true (by first | (with_reducible assumption) | assumption)
                      have q398 : x14_1 < (l2.length : Int) := of_decide_eq_true (by first | (with_reducible assumption) | assumption)
                      obtain ⟨ad398, e398, hx398_0⟩ := Kd.at_int HR2.out x14_1 p398 q398
                      cases e398
                      replace hx398_0 := (HB.out.cell (World.block_lt_of_cell? w _ hx398_0)).trans hx398_0
                      replace p398 := eq_true p398
                      replace q398 := eq_true q398
                      go_wp2_with (first | ((with_reducible refine gate_dst (N := 75) rfl ?_); refine Kd.R_lit k45 _ 45 ?hg (N := 75) ?hd (xs := ([(⟨x12_1, x13_1⟩ : S45), (⟨wrap64 (x12_1 + 1), x13_1⟩ : S45)] : List (S45))) (inner := [.int .i64 x12_1, .int .i64 x13_1, .int .i64 (wrap64 (x12_1 + 1)), .int .i64 x13_1]) (ok := fun _ => True) (okp := fun _ => True) ?hr ?hp (fun _ hk => hk) trivial (Below.refl _ _) (Nat.le_refl _) (by simp) ?_; (case hd => rfl); (case hg => rfl); (case hr => first | (go_simp; done) | (go_simp; rfl)); (case hp => exact (Reps.c2 (show Kd.M k45 _ _ _ (⟨x12_1, x13_1⟩ : S45) [.int .i64 x12_1, .int .i64 x13_1] from (k45_mkM _ _ _ (⟨x12_1, x13_1⟩ : S45) )) (Reps.c2 (show Kd.M k45 _ _ _ (⟨wrap64 (x12_1 + 1), x13_1⟩ : S45) [.int .i64 (wrap64 (x12_1 + 1)), .int .i64 x13_1] from (k45_mkM _ _ _ (⟨wrap64 (x12_1 + 1), x13_1⟩ : S45) )) (Reps.none _ _)))); intro v419 w24 ho25 hb hg_ hnew_; clear hg_ hnew_; (first | rw [← Ny418.out] at ho25 | (simp only [Int.reduceToNat] at ho25; rw [← Ny418.out] at ho25)); have n0_ := Aside0.mk (Kd.R_elder' (by (with_reducible repeat (first | apply Kd.R_alloc | apply Kd.R_drewN | apply Kd.R_drew)); exact HO_11.out) (Kd.R_base ho25) hb); have n1_ := Aside0.mk (Kd.R_lower (Kd.R_new' ho25 (Kd.R_lt (by (with_reducible repeat (first | apply Kd.R_alloc | apply Kd.R_drewN | apply Kd.R_drew)); exact HO_11.out))) (below_size (by repeat (first | (with_reducible first | exact HB.out | apply below_alloc | apply pw_below_drewN | apply below_drew1) | exact HB.out)))); have n2_ := Aside0.mk (below_step (by repeat (first | (with_reducible first | exact HB.out | apply below_alloc | apply pw_below_drewN | apply below_drew1) | exact HB.out)) hb); clear HO_11; clear HB; have HO_11 := n0_; have HO420 := n1_; have HB := n2_; clear n0_ n1_ n2_; clear hb ho25; obtain ⟨Ao27, co27, eo27⟩ := Kd.R_slice HO420.out; subst eo27) | ((with_reducible refine gate_builtin (b := .append) (xs := #[.tmp 67, .tmp 75]) rfl ?_); at_builtin; refine Kd.R_append_rows k45 (w0 := w) w.heap.size rfl (.tmp 67) (.tmp 75) 38 45 (.agg #[(.int .i64 0), (.int .i64 0)]) 16 rfl Try.underlying38 info45 rfl (by decide) (by omega) u11 x11_1 y418 _ _ _ (fun k_ => some k_ ≠ (.slice Ao27 y418.length co27 : Value).ownBlock) (fun _ => False) rfl rfl ?aO ?aR (fun _ _ h => h) (fun _ h => h.elim) ?aF ?aB ?aS ?aL ?_; (case aR => repeat (first | exact (Kd.R_reads' HO420.out).2.2 | (with_reducible refine Kd.C_alloc ?_ _) | (with_reducible refine Kd.C_drewN ?_ _) | (with_reducible refine Kd.C_drew ?_))); (case aB => exact (by repeat (first | (with_reducible first | exact HB.out | apply below_alloc | apply pw_below_drewN | apply below_drew1) | exact HB.out))); (case aF => exact (fun k_ hk => Kd.fresh' (Kd.R_lt (by (with_reducible repeat (first | apply Kd.R_alloc | apply Kd.R_drewN | apply Kd.R_drew)); exact HO420.out)) k_ hk)); (case aO => exact (by (with_reducible repeat (first | apply Kd.R_alloc | apply Kd.R_drewN | apply Kd.R_drew)); exact Kd.R_mono HO_11.out (fun _ hk => hk.2))); (case aS => exact (below_size (by repeat (first | (with_reducible first | exact HB.out | apply below_alloc | apply pw_below_drewN | apply below_drew1) | exact HB.out)))); (case aL => have := LMc22.out; omega); intro v422 w26 ho hb hg hat; rw [← Ny421.out] at ho; have n0_ := Aside0.mk (Kd.R_after (ok := (fun _ => True)) (by (with_reducible repeat (first | apply Kd.R_alloc | apply Kd.R_drewN | apply Kd.R_drew)); exact HO420.out) hg hat); have n1_ := Aside0.mk (hb); have n2_ := Aside0.mk (ho); clear HO420; clear HB; clear HO_11; have HO420 := n0_; have HB := n1_; have HO423 := n2_; clear n0_ n1_ n2_; clear ho hb hg hat; have p424 : 0 ≤ (x14_1 : Int) := of_decide_eq_true (by first | (with_reducible assumption) | assumption); have q424 : x14_1 < (l2.length : Int) := of_decide_eq_true (by first | (with_reducible assumption) | assumption); obtain ⟨ad424, e424, hx424_0⟩ := Kd.at_int HR2.out x14_1 p424 q424; obtain rfl : ad398 = ad424 := (by injection e424); replace hx424_0 := (HB.out.cell (World.block_lt_of_cell? w _ hx424_0)).trans hx424_0; replace p424 := eq_true p424; replace q424 := eq_true q424) | ((with_reducible refine gate_callee (f := 45) rfl ?_); refine goesL_ (some 93) rfl rfl Try.func45 (by kernel_rfl) rfl #[.string a0, .string a1, .int .i64 x12_1, .int .i64 x13_1, .int .i64 (rd l2 x14_1)] rfl (by (try simp only [List.map_toArray, List.map_cons, List.map_nil]); first | done | rfl | (simp only [List.length_drop, List.length_take]; rfl)) ?_; (with_reducible refine (ancepsref45_Step.calls k1 a0 a1 x12_1 x13_1 (rd l2 x14_1) t425 t426 t427 t428 _ A23.out).mono ?_); rintro e w' ⟨rfl, ⟨nd, rfl⟩⟩; refine ⟨_, rfl, ?_⟩))
                      go_roundg k1
                      case measure => have := HK1.out; omega
                      case rel => exact ⟨(y421), (t425), (t426), (wrap64 (x14_1 + 1)), (by first | rfl | (simp; done) | (simp [*]; done)), (by first | rfl | (simp; done) | (simp [*]; done)), (by first | rfl | (simp; done) | (simp [*]; done)), H', ⟨by have := HK1.out; omega⟩, ⟨by (with_reducible repeat (first | apply Kd.R_alloc | apply Kd.R_drewN | apply Kd.R_drew)); exact Kd.R_mono HO423.out (fun _ hk => trivial)⟩, ⟨by repeat (first | (with_reducible first | exact HB.out | apply below_alloc | apply pw_below_drewN | apply below_drew1) | exact HB.out)⟩⟩
                    · rw [if_neg c22] at H
                      exact absurd H (by simp)
                  · rw [if_neg c21] at H
                    have c21b0 : ((rd l2 x14_1) == 2) = false := beq_eq_false_iff_ne.mpr c21
                    have c21b1 : ((rd l2 x14_1) != 2) = true := bne_iff_ne.mpr c21
                    by_cases c28 : (rd l2 x14_1) = 3
                    · rw [if_pos c28] at H
                      have c28b0 : ((rd l2 x14_1) == 3) = true := beq_iff_eq.mpr c28
                      have c28b1 : ((rd l2 x14_1) != 3) = false := bne_eq_false_iff_eq.mpr c28
                      clear c28
                      by_cases c29 : x11_1.length < 8796093022208
                      · rw [if_pos c29] at H
                        have LMc29 := Aside0.mk c29
                        clear c29
                        obtain ⟨y429, hy429⟩ : ∃ y_ : List (S45), y_ = (x11_1 ++ [(⟨x12_1, (-1)⟩ : S45)]) := ⟨_, rfl⟩
                        replace H : ((ancepsref45_Step.f k1 a0 a1 x12_1 x13_1 (rd l2 x14_1)).bind fun bt433 => (ancepsref45_Pairs.l0 k1 a0 a1 l2 y429 bt433.1 bt433.2.1 (wrap64 (x14_1 + 1)))) = some (r1, r2) := by first | (rw [hy429]; with_reducible exact H) | (have H2_ := (Option.bind_some _ _).symm.trans H; rw [hy429]; with_reducible exact H2_) | (have H2_ := (Option.bind_some _ _).symm.trans H; with_reducible exact H2_) | with_reducible exact H | (rw [hy429]; exact H) | exact H
                        have Ny429 := Aside0.mk hy429
                        clear hy429
                        replace H := Option.bind_eq_some_iff.mp H
                        obtain ⟨⟨t433, t434, t435, t436⟩, A300, H⟩ := H
                        replace H : (ancepsref45_Pairs.l0 k1 a0 a1 l2 y429 t433 t434 (wrap64 (x14_1 + 1))) = some (r1, r2) := H
                        have A30 := Aside0.mk A300
                        clear A300
                        have H' := Aside0.mk H
                        clear H
                        have p398 : 0 ≤ (x14_1 : Int) := of_decide_eq_true (by first | (with_reducible assumption) | assumption)
                        have q398 : x14_1 < (l2.length : Int) := of_decide_eq_true (by first | (with_reducible assumption) | assumption)
                        obtain ⟨ad398, e398, hx398_0⟩ := Kd.at_int HR2.out x14_1 p398 q398
                        cases e398
                        replace hx398_0 := (HB.out.cell (World.block_lt_of_cell? w _ hx398_0)).trans hx398_0
                        replace p398 := eq_true p398
                        replace q398 := eq_true q398
                        go_wp2_with (first | ((with_reducible refine gate_builtin (b := .append) (xs := #[.tmp 79, .tmp 82]) rfl ?_); at_builtin; refine Kd.R_append k45 (w0 := w) w.heap.size rfl (.tmp 79) (.tmp 82) 38 45 (.agg #[(.int .i64 0), (.int .i64 0)]) 16 rfl Try.underlying38 info45 rfl (by decide) (by omega) u11 x11_1 (⟨x12_1, (-1)⟩ : S45) [.int .i64 x12_1, .int .i64 (-1)] (fun _ => True) (fun _ => False) rfl rfl ?aP (fun _ hk => hk.elim) ?aF ?aO ?aB ?aS ?aL ?_; (case aP => exact k45_mkM _ _ _ (⟨x12_1, (-1)⟩ : S45)); (case aB => exact (by repeat (first | (with_reducible first | exact HB.out | apply below_alloc | apply pw_below_drewN | apply below_drew1) | exact HB.out))); (case aF => exact (fun _ _ => trivial)); (case aO => exact (by (with_reducible repeat (first | apply Kd.R_alloc | apply Kd.R_drewN | apply Kd.R_drew)); exact HO_11.out)); (case aS => exact (below_size (by repeat (first | (with_reducible first | exact HB.out | apply below_alloc | apply pw_below_drewN | apply below_drew1) | exact HB.out)))); (case aL => have := LMc29.out; omega); intro v430 w31 ho hb hg hat; rw [← Ny429.out] at ho; have n0_ := Aside0.mk (hb); have n1_ := Aside0.mk (ho); clear HB; clear HO_11; have HB := n0_; have HO431 := n1_; clear n0_ n1_; clear ho hb hg hat; have p432 : 0 ≤ (x14_1 : Int) := of_decide_eq_true (by first | (with_reducible assumption) | assumption); have q432 : x14_1 < (l2.length : Int) := of_decide_eq_true (by first | (with_reducible assumption) | assumption); obtain ⟨ad432, e432, hx432_0⟩ := Kd.at_int HR2.out x14_1 p432 q432; obtain rfl : ad398 = ad432 := (by injection e432); replace hx432_0 := (HB.out.cell (World.block_lt_of_cell? w _ hx432_0)).trans hx432_0; replace p432 := eq_true p432; replace q432 := eq_true q432) | ((with_reducible refine gate_callee (f := 45) rfl ?_); refine goesL_ (some 93) rfl rfl Try.func45 (by kernel_rfl) rfl #[.string a0, .string a1, .int .i64 x12_1, .int .i64 x13_1, .int .i64 (rd l2 x14_1)] rfl (by (try simp only [List.map_toArray, List.map_cons, List.map_nil]); first | done | rfl | (simp only [List.length_drop, List.length_take]; rfl)) ?_; (with_reducible refine (ancepsref45_Step.calls k1 a0 a1 x12_1 x13_1 (rd l2 x14_1) t433 t434 t435 t436 _ A30.out).mono ?_); rintro e w' ⟨rfl, ⟨nd, rfl⟩⟩; refine ⟨_, rfl, ?_⟩))
                        go_roundg k1
                        case measure => have := HK1.out; omega
                        case rel => exact ⟨(y429), (t433), (t434), (wrap64 (x14_1 + 1)), (by first | rfl | (simp; done) | (simp [*]; done)), (by first | rfl | (simp; done) | (simp [*]; done)), (by first | rfl | (simp; done) | (simp [*]; done)), H', ⟨by have := HK1.out; omega⟩, ⟨by (with_reducible repeat (first | apply Kd.R_alloc | apply Kd.R_drewN | apply Kd.R_drew)); exact HO431.out⟩, ⟨by repeat (first | (with_reducible first | exact HB.out | apply below_alloc | apply pw_below_drewN | apply below_drew1) | exact HB.out)⟩⟩
                      · rw [if_neg c29] at H
                        exact absurd H (by simp)
                    · rw [if_neg c28] at H
                      have c28b0 : ((rd l2 x14_1) == 3) = false := beq_eq_false_iff_ne.mpr c28
                      have c28b1 : ((rd l2 x14_1) != 3) = true := bne_iff_ne.mpr c28
                      by_cases c32 : x11_1.length < 8796093022208
                      · rw [if_pos c32] at H
                        have LMc32 := Aside0.mk c32
                        clear c32
                        obtain ⟨y437, hy437⟩ : ∃ y_ : List (S45), y_ = (x11_1 ++ [(⟨(-1), x13_1⟩ : S45)]) := ⟨_, rfl⟩
                        replace H : ((ancepsref45_Step.f k1 a0 a1 x12_1 x13_1 (rd l2 x14_1)).bind fun bt441 => (ancepsref45_Pairs.l0 k1 a0 a1 l2 y437 bt441.1 bt441.2.1 (wrap64 (x14_1 + 1)))) = some (r1, r2) := by first | (rw [hy437]; with_reducible exact H) | (have H2_ := (Option.bind_some _ _).symm.trans H; rw [hy437]; with_reducible exact H2_) | (have H2_ := (Option.bind_some _ _).symm.trans H; with_reducible exact H2_) | with_reducible exact H | (rw [hy437]; exact H) | exact H
                        have Ny437 := Aside0.mk hy437
                        clear hy437
                        replace H := Option.bind_eq_some_iff.mp H
                        obtain ⟨⟨t441, t442, t443, t444⟩, A330, H⟩ := H
                        replace H : (ancepsref45_Pairs.l0 k1 a0 a1 l2 y437 t441 t442 (wrap64 (x14_1 + 1))) = some (r1, r2) := H
                        have A33 := Aside0.mk A330
                        clear A330
                        have H' := Aside0.mk H
                        clear H
                        have p398 : 0 ≤ (x14_1 : Int) := of_decide_eq_true (by first | (with_reducible assumption) | assumption)
                        have q398 : x14_1 < (l2.length : Int) := of_decide_eq_true (by first | (with_reducible assumption) | assumption)
                        obtain ⟨ad398, e398, hx398_0⟩ := Kd.at_int HR2.out x14_1 p398 q398
                        cases e398
                        replace hx398_0 := (HB.out.cell (World.block_lt_of_cell? w _ hx398_0)).trans hx398_0
                        replace p398 := eq_true p398
                        replace q398 := eq_true q398
                        go_wp2_with (first | ((with_reducible refine gate_builtin (b := .append) (xs := #[.tmp 40, .tmp 43]) rfl ?_); at_builtin; refine Kd.R_append k45 (w0 := w) w.heap.size rfl (.tmp 40) (.tmp 43) 38 45 (.agg #[(.int .i64 0), (.int .i64 0)]) 16 rfl Try.underlying38 info45 rfl (by decide) (by omega) u11 x11_1 (⟨(-1), x13_1⟩ : S45) [.int .i64 (-1), .int .i64 x13_1] (fun _ => True) (fun _ => False) rfl rfl ?aP (fun _ hk => hk.elim) ?aF ?aO ?aB ?aS ?aL ?_; (case aP => exact k45_mkM _ _ _ (⟨(-1), x13_1⟩ : S45)); (case aB => exact (by repeat (first | (with_reducible first | exact HB.out | apply below_alloc | apply pw_below_drewN | apply below_drew1) | exact HB.out))); (case aF => exact (fun _ _ => trivial)); (case aO => exact (by (with_reducible repeat (first | apply Kd.R_alloc | apply Kd.R_drewN | apply Kd.R_drew)); exact HO_11.out)); (case aS => exact (below_size (by repeat (first | (with_reducible first | exact HB.out | apply below_alloc | apply pw_below_drewN | apply below_drew1) | exact HB.out)))); (case aL => have := LMc32.out; omega); intro v438 w34 ho hb hg hat; rw [← Ny437.out] at ho; have n0_ := Aside0.mk (hb); have n1_ := Aside0.mk (ho); clear HB; clear HO_11; have HB := n0_; have HO439 := n1_; clear n0_ n1_; clear ho hb hg hat; have p440 : 0 ≤ (x14_1 : Int) := of_decide_eq_true (by first | (with_reducible assumption) | assumption); have q440 : x14_1 < (l2.length : Int) := of_decide_eq_true (by first | (with_reducible assumption) | assumption); obtain ⟨ad440, e440, hx440_0⟩ := Kd.at_int HR2.out x14_1 p440 q440; obtain rfl : ad398 = ad440 := (by injection e440); replace hx440_0 := (HB.out.cell (World.block_lt_of_cell? w _ hx440_0)).trans hx440_0; replace p440 := eq_true p440; replace q440 := eq_true q440) | ((with_reducible refine gate_callee (f := 45) rfl ?_); refine goesL_ (some 93) rfl rfl Try.func45 (by kernel_rfl) rfl #[.string a0, .string a1, .int .i64 x12_1, .int .i64 x13_1, .int .i64 (rd l2 x14_1)] rfl (by (try simp only [List.map_toArray, List.map_cons, List.map_nil]); first | done | rfl | (simp only [List.length_drop, List.length_take]; rfl)) ?_; (with_reducible refine (ancepsref45_Step.calls k1 a0 a1 x12_1 x13_1 (rd l2 x14_1) t441 t442 t443 t444 _ A33.out).mono ?_); rintro e w' ⟨rfl, ⟨nd, rfl⟩⟩; refine ⟨_, rfl, ?_⟩))
                        go_roundg k1
                        case measure => have := HK1.out; omega
                        case rel => exact ⟨(y437), (t441), (t442), (wrap64 (x14_1 + 1)), (by first | rfl | (simp; done) | (simp [*]; done)), (by first | rfl | (simp; done) | (simp [*]; done)), (by first | rfl | (simp; done) | (simp [*]; done)), H', ⟨by have := HK1.out; omega⟩, ⟨by (with_reducible repeat (first | apply Kd.R_alloc | apply Kd.R_drewN | apply Kd.R_drew)); exact HO439.out⟩, ⟨by repeat (first | (with_reducible first | exact HB.out | apply below_alloc | apply pw_below_drewN | apply below_drew1) | exact HB.out)⟩⟩
                      · rw [if_neg c32] at H
                        exact absurd H (by simp)
            · rw [if_neg c9] at H
              exact absurd H (by simp)
          · rw [if_neg c8] at H
            have c8b0 : decide (x14_1 < (l2.length : Int)) = false := decide_eq_false c8
            clear c8
            simp only [Option.some.injEq, Prod.mk.injEq] at H
            obtain ⟨rfl, rfl⟩ := H
            go_wp2
            go_ret2
            exact ⟨_, by first | rfl | (simp [errW_none, errW_some] <;> rfl) | (simp [*, errW_none, errW_some] <;> rfl), by (with_reducible repeat (first | apply Kd.R_alloc | apply Kd.R_drewN | apply Kd.R_drew)); exact HO_11.out, by repeat (first | (with_reducible first | exact HB.out | apply below_alloc | apply pw_below_drewN | apply below_drew1) | exact HB.out)⟩
    · replace c7 := Bool.eq_false_iff.mpr c7
      subst c7
      have H1 : (some (([] : List (S45)), 1)) = some (r1, r2) := by rw [if_neg (show ¬ (false = true) by decide)] at H; exact H
      clear H
      have H := H1
      clear H1
      simp only [Option.some.injEq, Prod.mk.injEq] at H
      obtain ⟨rfl, rfl⟩ := H
      go_enter Try.func23, Try.ntmps23
      go_wp2_with (first | ((with_reducible refine gate_callee (f := 16) rfl ?_); refine goesL_ (some 17) rfl rfl Try.func16 (by kernel_rfl) rfl #[.string a0, .string a1] rfl (by (try simp only [List.map_toArray, List.map_cons, List.map_nil]); first | done | rfl | (simp only [List.length_drop, List.length_take]; rfl)) ?_; (with_reducible refine (ancepsref45_Given.calls k a0 a1 t395 _ A4.out).mono ?_); rintro e w' ⟨rfl, ⟨nd, rfl⟩⟩; refine ⟨_, rfl, ?_⟩) | ((with_reducible refine gate_callee (f := 20) rfl ?_); refine goesL_ (some 25) rfl rfl Try.func20 (by kernel_rfl) rfl #[.string a0, .string a1, .slice A2 l2.length c2] rfl (by (try simp only [List.map_toArray, List.map_cons, List.map_nil]); first | done | rfl | (simp only [List.length_drop, List.length_take]; rfl)) ?_; (with_reducible refine (ancepsref45_Cost.calls k a0 a1 _ _ l2 t396 false _ ?side1 ?side2 A6.out).mono ?_); (case side1 => repeat (first | exact HR2.out | (with_reducible refine Kd.C_alloc ?_ _) | (with_reducible refine Kd.C_drewN ?_ _) | (with_reducible refine Kd.C_drew ?_))); (case side2 => exact HC2.out); rintro e w' ⟨rfl, ⟨nd, rfl⟩⟩; refine ⟨_, rfl, ?_⟩))
      go_ret2
      exact ⟨_, by first | rfl | (simp [errW_none, errW_some] <;> rfl) | (simp [*, errW_none, errW_some] <;> rfl), by first | exact Kd.R_nil _ _ _ _ _ | exact Kd.N_nil _ _ _ _ _ | exact Kd.V_nil _ _ _ _ _ | exact Kd.Q_nil _ _ _ _ _ | exact Kd.S_nil _ _ _ _ _, by repeat (first | (with_reducible first | exact HB.out | apply below_alloc | apply pw_below_drewN | apply below_drew1) | exact HB.out)⟩
  · rw [if_neg c5] at H
    have c5b0 : (t395 == 0) = false := beq_eq_false_iff_ne.mpr c5
    have c5b1 : (t395 != 0) = true := bne_iff_ne.mpr c5
    simp only [Option.some.injEq, Prod.mk.injEq] at H
    obtain ⟨rfl, rfl⟩ := H
    go_enter Try.func23, Try.ntmps23
    go_wp2_with (first | ((with_reducible refine gate_callee (f := 16) rfl ?_); refine goesL_ (some 17) rfl rfl Try.func16 (by kernel_rfl) rfl #[.string a0, .string a1] rfl (by (try simp only [List.map_toArray, List.map_cons, List.map_nil]); first | done | rfl | (simp only [List.length_drop, List.length_take]; rfl)) ?_; (with_reducible refine (ancepsref45_Given.calls k a0 a1 t395 _ A4.out).mono ?_); rintro e w' ⟨rfl, ⟨nd, rfl⟩⟩; refine ⟨_, rfl, ?_⟩))
    go_ret2
    exact ⟨_, by first | rfl | (simp [errW_none, errW_some] <;> rfl) | (simp [*, errW_none, errW_some] <;> rfl), by first | exact Kd.R_nil _ _ _ _ _ | exact Kd.N_nil _ _ _ _ _ | exact Kd.V_nil _ _ _ _ _ | exact Kd.Q_nil _ _ _ _ _ | exact Kd.S_nil _ _ _ _ _, by repeat (first | (with_reducible first | exact HB.out | apply below_alloc | apply pw_below_drewN | apply below_drew1) | exact HB.out)⟩

end Go.Proofs.Ytnnonjjmlbemfaa.X
