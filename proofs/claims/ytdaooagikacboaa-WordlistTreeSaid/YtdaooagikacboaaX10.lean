-- printed by this session's xprint.py: out of the translation, by the kit's print with additions; Lean checks it
import Derived.Test.YtdaooagikacboaaWN
import Derived.Test.YtdaooagikacboaaWShare
import Derived.Test.YtdaooagikacboaaWRepsOne
import Derived.Test.YtdaooagikacboaaWGuard
import Derived.Test.YtdaooagikacboaaWInv
import Derived.Test.YtdaooagikacboaaX0
import Derived.Test.YtdaooagikacboaaX1
import Derived.Test.YtdaooagikacboaaX2
import Derived.Test.YtdaooagikacboaaX6
namespace Go.Proofs.Ytdaooagikacboaa.X
open Go.RowKit Go.Proofs.YtdaooagikacboaaW.PrintWords Go.Proofs.YtdaooagikacboaaW.PrintLast Go.Proofs.YtdaooagikacboaaW.PrintMore
attribute [local go_sem] max2_int min2_int max_two min_two max_three min_three max_four min_four isSome_setCell binOp_gtr_str binOp_leq_str binOp_geq_str   -- for this text's walks alone
set_option linter.unusedVariables false
set_option linter.unusedSimpArgs false

/-! ### wordlist_CheckTree: function 19 -/
mutual
def wordlist_CheckTree.w0 : Nat → List S46 → Int → ByteArray → List ByteArray → Option (List ByteArray)
  | 0, _, _, _, _ => none
  | k + 1, l, i, s, W => if 0 ≤ i ∧ i < (l.length : Int) then (if (rd_T46 l i).f1 = true then (if W.length ≤ 1000000 then wordlist_CheckTree.w1 k l i s (W ++ [s]) 0 else none) else wordlist_CheckTree.w1 k l i s W 0) else none
def wordlist_CheckTree.w1 : Nat → List S46 → Int → ByteArray → List ByteArray → Int → Option (List ByteArray)
  | 0, _, _, _, _, _ => none
  | k + 1, l, i, s, W, j => if j < ((rd_T46 l i).f2.length : Int) then (if (0 ≤ j ∧ (rd_T46 l i).f2.length ≤ 1000000) ∧ (0 ≤ rd (rd_T46 l i).f2 j ∧ rd (rd_T46 l i).f2 j < (l.length : Int)) ∧ s.size ≤ 1000000 ∧ (0 ≤ (rd_T46 l (rd (rd_T46 l i).f2 j)).f0 ∧ (rd_T46 l (rd (rd_T46 l i).f2 j)).f0 ≤ 255) then ((wordlist_CheckTree.w0 k l (rd (rd_T46 l i).f2 j) (s ++ strOfNums [(rd_T46 l (rd (rd_T46 l i).f2 j)).f0]) W).bind fun W2 => wordlist_CheckTree.w1 k l i s W2 (wrap64 (j + 1))) else none) else some W
end
theorem wordlist_CheckTree.mono_w : ∀ k, (∀ y0 y1 y2 y3, LeO (wordlist_CheckTree.w0 k y0 y1 y2 y3) (wordlist_CheckTree.w0 (k + 1) y0 y1 y2 y3)) ∧ (∀ y0 y1 y2 y3 y4, LeO (wordlist_CheckTree.w1 k y0 y1 y2 y3 y4) (wordlist_CheckTree.w1 (k + 1) y0 y1 y2 y3 y4))
  | 0 => ⟨fun _ _ _ _ r h => by simp [wordlist_CheckTree.w0] at h, fun _ _ _ _ _ r h => by simp [wordlist_CheckTree.w1] at h⟩
  | k + 1 => by
    obtain ⟨ih0, ih1⟩ := wordlist_CheckTree.mono_w k
    refine ⟨?_, ?_⟩
    · intro y0 y1 y2 y3
      rw [wordlist_CheckTree.w0, wordlist_CheckTree.w0]
      exact LeO.ite (LeO.ite (LeO.ite (ih1 _ _ _ _ _) (LeO.refl _)) (ih1 _ _ _ _ _)) (LeO.refl _)
    · intro y0 y1 y2 y3 y4
      rw [wordlist_CheckTree.w1, wordlist_CheckTree.w1]
      exact LeO.ite (LeO.ite (LeO.bind (ih0 _ _ _ _) fun _ => ih1 _ _ _ _ _) (LeO.refl _)) (LeO.refl _)
theorem wordlist_CheckTree.up {w0 w : World} (hb : Below w0.heap.size w0 w) {p : Addr} {u : Value} (h : w0.cell? p = some u) : w.cell? p = some u := (hb.cell (World.block_lt_of_cell? _ _ h)).trans h
theorem wordlist_CheckTree.one (w : World) (f : Int) : (Kd.int .u8).C (w.alloc (.cells #[.int .u8 f] 5)) (some ⟨w.heap.size, 0, none⟩) 1 [f] := by
  refine ⟨rfl, by decide, fun _ => ⟨_, rfl, fun j p hj => ?_⟩⟩
  have hj0 : j = 0 := by have := (List.getElem?_eq_some_iff.1 hj).1; simpa using this
  subst hj0
  obtain rfl : f = p := by simpa using hj
  refine ⟨[.int .u8 f], rfl, rfl, fun q u hq => ?_⟩
  have hq0 : q = 0 := by have := (List.getElem?_eq_some_iff.1 hq).1; simpa using this
  subst hq0
  obtain rfl : Value.int .u8 f = u := by simpa using hq
  exact (blk_cell (blk_new w (.cells #[.int .u8 f] 5)) 0).trans rfl
/-- What stands in memory while the closure walks: the tree, the closure itself, the words till now. -/
def wordlist_CheckTree.I (w0 w : World) (A : Option Addr) (c B2 : Nat) (A2 : Option Addr) (n2 c2 B3 BW BF : Nat) (l : List S46) (W : List ByteArray) : Prop :=
  w.heap[B3]? = some (.cells #[.slice A l.length c] 38 (0, 0)) ∧ w.heap[BF]? = some (.cells #[.func (.func 41) #[] #[.pointer (some ⟨B3, 0, none⟩), .pointer (some ⟨BW, 0, none⟩), .pointer (some ⟨BF, 0, none⟩)]] 62 (0, 0)) ∧ Below w0.heap.size w0 w ∧ ∃ v, w.heap[BW]? = some (.cells #[v] 24 (0, 0)) ∧ Kd.R Kd.string 9 w w0.heap.size (fun q => BF < q) v W ∧ w.heap[B2]? = some (.cells #[.slice A2 n2 c2] 26 (0, 0))
theorem wordlist_CheckTree.I.below {w0 w w1 : World} {A : Option Addr} {c B2 : Nat} {A2 : Option Addr} {n2 c2 B3 BW BF : Nat} {l : List S46} {W : List ByteArray} (h : wordlist_CheckTree.I w0 w A c B2 A2 n2 c2 B3 BW BF l W) (hb : Below w.heap.size w w1) : wordlist_CheckTree.I w0 w1 A c B2 A2 n2 c2 B3 BW BF l W := by
  obtain ⟨h1, h2, h3, v, h4, h5, h6⟩ := h
  exact ⟨blk_below h1 hb, blk_below h2 hb, h3.trans (hb.mono h3.size), v, blk_below h4 hb, Kd.R_below h5 hb, blk_below h6 hb⟩
set_option maxHeartbeats 4000000 in
set_option maxRecDepth 100000 in
theorem wordlist_CheckTree.walk (k : Nat) : ∀ (l : List S46) (i : Int) (s : ByteArray) (W W' : List ByteArray) (A : Option Addr) (c B2 : Nat) (A2 : Option Addr) (n2 c2 B3 BW BF : Nat) (w0 w : World), Kd.C k46 w0 A l.length l → l.length ≤ c → (B3 < BW ∧ BW < BF ∧ w0.heap.size ≤ B3 ∧ B2 < BW) → wordlist_CheckTree.I w0 w A c B2 A2 n2 c2 B3 BW BF l W → wordlist_CheckTree.w0 k l i s W = some W' →
    Calls Try.prog 41 #[.int .i64 i, .string s, .pointer (some ⟨B3, 0, none⟩), .pointer (some ⟨BW, 0, none⟩), .pointer (some ⟨BF, 0, none⟩)] w fun e w' => e = .returned (.tuple #[]) ∧ wordlist_CheckTree.I w0 w' A c B2 A2 n2 c2 B3 BW BF l W' := by
  induction k using Nat.strongRecOn with
  | ind k ihk =>
  cases k with
  | zero => intro l i s W W' A c B2 A2 n2 c2 B3 BW BF w0 w _ _ _ _ h; simp [wordlist_CheckTree.w0] at h
  | succ k =>
    intro l i s W W' A c B2 A2 n2 c2 B3 BW BF w0 w hC hc hN hI h
    rw [wordlist_CheckTree.w0] at h
    by_cases c1 : 0 ≤ i ∧ i < (l.length : Int)
    · rw [if_pos c1] at h
      have IH := Lib.hid ihk; have HC := Lib.hid hC; have HCC := Lib.hid hc; have HN := Lib.hid hN; have HI := Lib.hid hI; have C1 := Lib.hid c1
      clear ihk hC hc hN hI
      obtain ⟨ad, Ak, ck, rfl, hz0, hz1, hz2, hlk, hik0⟩ := at_T46 HC.out i c1.1 c1.2
      have hx1 := wordlist_CheckTree.up HI.out.2.2.1 hz1
      have hx2 := wordlist_CheckTree.up HI.out.2.2.1 hz2
      have HK := Lib.hid hik0
      have HX2 := Lib.hid hz2; clear hz2
      obtain ⟨m, hm⟩ : ∃ m, (rd_T46 l i).f2.length = m := ⟨_, rfl⟩
      rw [hm] at hx2
      have HM := Lib.hid hm
      clear hm
      have q0 := eq_true c1.1
      have q1 := eq_true c1.2
      have hc3 := (blk_cell HI.out.1 0).trans (show _ = some (Value.slice (some ad) l.length c) from rfl)
      clear hik0 hlk hz0 hz1 c1
      by_cases cE : (rd_T46 l i).f1 = true
      · rw [if_pos cE] at h
        rw [cE] at hx1
        by_cases c3 : W.length ≤ 1000000
        · rw [if_pos c3] at h
          have HH := Lib.hid h; have C3 := Lib.hid c3
          clear h c3
          obtain ⟨n3, nF, hB, v, hW, hR, h2⟩ := HI.out
          obtain ⟨AW, cW, rfl⟩ := Kd.R_slice hR
          have hcw := (blk_cell hW 0).trans (show _ = some (Value.slice AW W.length cW) from rfl)
          have N3 := Lib.hid n3; have NB2 := Lib.hid h2; have NF := Lib.hid nF; have HB := Lib.hid hB; have HW := Lib.hid hW; have HR := Lib.hid hR
          clear n3 nF hB hW hR h2
          go_enter Try.func41, Try.ntmps41
          go_wp2_with (first | ((with_reducible refine gate_builtin (b := .append) (xs := #[.tmp 14, .tmp 16]) rfl ?_); at_builtin; refine Kd.R_append Kd.string (w0 := w0) w0.heap.size rfl (.tmp 14) (.tmp 16) 24 9 (.string ⟨#[]⟩) 16 rfl Try.underlying24 info9 rfl (by decide) (by omega) (.slice AW W.length cW) W s [.string s] (fun q => BF < q) (fun _ => False) rfl rfl ?aP (fun _ hk => hk.elim) ?aF ?aO ?aB ?aS ?aL ?_; (case aP => exact rfl); (case aF => exact fun q hq => by have := blk_lt NF.out; omega); (case aO => exact HR.out); (case aB => exact HB.out); (case aS => exact HB.out.size); (case aL => have := C3.out; omega); intro v1 w1 hR1 hB1 hg1 hv1; obtain ⟨A1, cA, rfl⟩ := Kd.R_slice hR1; rw [List.length_append, List.length_singleton] at hR1 hv1 ⊢; have nq : ∀ q, q ≤ BF → some q ≠ (Value.slice AW W.length cW).ownBlock := (fun q hq e => by have := HR.out.1 q e.symm; omega); have M3 := Lib.hid (blk_grown N3.out hg1 (nq B3 (by have := HN.out; omega))); have M2 := Lib.hid (blk_grown NB2.out hg1 (nq B2 (by have := HN.out; omega))); have MF := Lib.hid (blk_grown NF.out hg1 (nq BF (Nat.le_refl _))); have MW := Lib.hid (blk_grown HW.out hg1 (nq BW (by have := HN.out; omega))); have R1 := Lib.hid hR1; have B1 := Lib.hid hB1; clear hR1 hB1 hg1 hv1 nq N3 NF HW HR HB hcw; have hcw := (blk_cell MW.out 0).trans (show _ = some (Value.slice AW W.length cW) from rfl); have hfw := blk_frozen MW.out 0; clear hc3 hx1; have BQ := Lib.hid (below_set (j := 0) (v := .slice A1 (W.length + 1) cA) B1.out (show w0.heap.size ≤ BW by have := HN.out; omega)); have hc3 := (blk_cell (blk_far M3.out (p := ⟨BW, 0, none⟩) (show B3 ≠ BW by have := HN.out; omega) (.slice A1 (W.length + 1) cA)) 0).trans (show _ = some (Value.slice (some ad) l.length c) from rfl); have hx2n := wordlist_CheckTree.up BQ.out HX2.out; rw [HM.out] at hx2n; clear hx2; have hx2 := hx2n; have hx1 := hcw))
          have I2 := Lib.hid (show wordlist_CheckTree.I w0 (w1.setCell ⟨BW, 0, none⟩ (.slice A1 (W.length + 1) cA)) (some ad) c B2 A2 n2 c2 B3 BW BF l (W ++ [s]) from ⟨blk_far M3.out (p := ⟨BW, 0, none⟩) (by have := HN.out; show B3 ≠ BW; omega) _, blk_far MF.out (p := ⟨BW, 0, none⟩) (by have := HN.out; show BF ≠ BW; omega) _, below_set B1.out (by have := HN.out; omega), _, blk_put MW.out 0 _ rfl, Kd.R_far R1.out (p := ⟨BW, 0, none⟩) (fun q hq => by have := HN.out; show q ≠ BW; omega) _, blk_far M2.out (p := ⟨BW, 0, none⟩) (by have := HN.out; show B2 ≠ BW; omega) _⟩)
          clear M3 M2 NB2 MF MW R1 B1 BQ hcw hfw hx2n
          generalize w1.setCell ⟨BW, 0, none⟩ (.slice A1 (W.length + 1) cA) = w2 at I2 ⊢
          clear hx1 hx2 hc3
          go_loopg [24] k (fun kq v24 wr => ∃ (j : Int) (Wr : List ByteArray), v24 = .int .i64 j ∧ Hid (wordlist_CheckTree.w1 kq l i s Wr j = some W') ∧ Hid (kq ≤ k) ∧ Hid (wordlist_CheckTree.I w0 wr (some ad) c B2 A2 n2 c2 B3 BW BF l Wr))
          case atStart => exact ⟨0, _, rfl, HH, Lib.hid (Nat.le_refl _), I2⟩
          case round =>
            clear HH I2
            obtain ⟨j, Wr, rfl, HA, HK2, IR⟩ := hrel
            cases gk with
            | zero => exact absurd HA.out (by simp [wordlist_CheckTree.w1])
            | succ k1 =>
              have H := HA.out
              clear HA
              rw [wordlist_CheckTree.w1, HM.out] at H
              by_cases d1 : j < (m : Int)
              · rw [if_pos d1] at H
                split at H
                · rename_i d2
                  obtain ⟨W3, hw, H2⟩ := Option.bind_eq_some_iff.1 H
                  obtain ⟨⟨e0, e1⟩, ⟨e2, e3⟩, e4, e5, e6⟩ := d2
                  obtain ⟨ak, rfl, hk0⟩ := Kd.at_int (Kd.C_below HK.out IR.out.2.2.1) j e0 (by rw [HM.out]; exact d1)
                  obtain ⟨n, hn⟩ : ∃ n, rd (rd_T46 l i).f2 j = n := ⟨_, rfl⟩
                  rw [hn] at hk0 hw e2 e3 e5 e6
                  obtain ⟨ad', _, _, e, hz0, _, _, _, _⟩ := at_T46 HC.out n e2 e3
                  obtain rfl := Option.some.inj e
                  have hy0 := wordlist_CheckTree.up IR.out.2.2.1 hz0
                  obtain ⟨f, hf⟩ : ∃ f, (rd_T46 l n).f0 = f := ⟨_, rfl⟩
                  rw [hf] at hy0 hw e5 e6
                  have HW1 := Lib.hid hw; have H2' := Lib.hid H2
                  have hu8 : IntKind.u8.wrap f = f := by unfold IntKind.wrap; first | (simp [IntKind.bits, IntKind.signed]; done) | (simp [IntKind.bits, IntKind.signed]; omega)
                  have hw8 : wrap64 f = f := by unfold wrap64; omega
                  have hj : wrap64 (j + 1) = j + 1 := by unfold wrap64; omega
                  have b1 : decide (j < (m : Int)) = true := decide_eq_true d1
                  have p0 := eq_true e0
                  have p1 := eq_true d1
                  have p2 := eq_true e2
                  have p3 := eq_true e3
                  have hsz : ¬ 9223372036854775807 < s.size + (strOfNums [f]).size := by rw [show (strOfNums [f]).size = 1 from rfl]; omega
                  clear H H2 hw hz0 hn hf d1 e0 e2 e3
                  have hcf := (blk_cell IR.out.2.1 0).trans (show _ = some (Value.func (.func 41) #[] #[.pointer (some ⟨B3, 0, none⟩), .pointer (some ⟨BW, 0, none⟩), .pointer (some ⟨BF, 0, none⟩)]) from rfl)
                  have hc3 := (blk_cell IR.out.1 0).trans (show _ = some (Value.slice (some ad) l.length c) from rfl)
                  go_wp2_with (fail)
                  clear hk0
                  refine start_ (n := 13) (S := fun w' => w'.cell? ⟨BF, 0, none⟩ = some (.func (.func 41) #[] #[.pointer (some ⟨B3, 0, none⟩), .pointer (some ⟨BW, 0, none⟩), .pointer (some ⟨BF, 0, none⟩)]) ∧ w'.cell? ⟨B3, 0, none⟩ = some (.slice (some ad) l.length c) ∧ w'.cell? (ad.add (n.toNat * 3)) = some (.int .i64 f)) (ds := [12]) #[false, false, false, false, false, false, false, false, false, false, false, false, false] (by kernel_rfl) rfl rfl ⟨hcf, hc3, hy0⟩ (fun hHeld => ?_)
                  have I4 := Lib.hid (IR.out.below (below_drew (Below.refl _ _)))
                  clear IR hcf hc3 hy0
                  generalize wr.drew = w4 at I4 hHeld ⊢
                  refine take_ (i := 0) (N := (some 28)) (v := ?_) (a' := ?_) #[true, false, false, false, false, false, false, false, false, false, false, false, false] rfl rfl (by kernel_rfl) (fun _ _ _ h => h) (Or.inl ⟨by rfl, ?_⟩) hHeld ?_ ?_
                  rotate_left
                  · rintro w' ⟨s0, s1, s2⟩
                    go_simp
                    with_reducible rfl
                  rotate_left
                  · simp only [Act.put, List.setIfInBounds_toArray, List.set_cons_zero, List.set_cons_succ, i64_w, i32_w]
                    rfl
                  refine pure_ (i := 1) (N := (some 29)) (v := ?_) (a' := ?_) #[true, true, false, false, false, false, false, false, false, false, false, false, false] rfl rfl (by kernel_rfl) (fun _ _ _ h => h) (Or.inl ⟨by rfl, ?_⟩) ?_ ?_
                  rotate_left
                  · intro w'
                    go_simp
                    with_reducible rfl
                  rotate_left
                  · simp only [Act.put, List.setIfInBounds_toArray, List.set_cons_zero, List.set_cons_succ, i64_w, i32_w]
                    rfl
                  refine pure_ (i := 2) (N := (some 30)) (v := ?_) (a' := ?_) #[true, true, true, false, false, false, false, false, false, false, false, false, false] rfl rfl (by kernel_rfl) (fun _ _ _ h => h) (Or.inl ⟨by rfl, ?_⟩) ?_ ?_
                  rotate_left
                  · intro w'
                    go_simp
                    with_reducible rfl
                  rotate_left
                  · simp only [Act.put, List.setIfInBounds_toArray, List.set_cons_zero, List.set_cons_succ, i64_w, i32_w]
                    rfl
                  refine take_ (i := 3) (N := (some 31)) (v := ?_) (a' := ?_) #[true, true, true, true, false, false, false, false, false, false, false, false, false] rfl rfl (by kernel_rfl) (fun _ _ _ h => h) (Or.inl ⟨by rfl, ?_⟩) hHeld ?_ ?_
                  rotate_left
                  · rintro w' ⟨s0, s1, s2⟩
                    go_simp
                    with_reducible rfl
                  rotate_left
                  · simp only [Act.put, List.setIfInBounds_toArray, List.set_cons_zero, List.set_cons_succ, i64_w, i32_w]
                    rfl
                  refine pure_ (i := 4) (N := (some 32)) (v := ?_) (a' := ?_) #[true, true, true, true, true, false, false, false, false, false, false, false, false] rfl rfl (by kernel_rfl) (fun _ _ _ h => h) (Or.inl ⟨by rfl, ?_⟩) ?_ ?_
                  rotate_left
                  · intro w'
                    go_simp
                    with_reducible rfl
                  rotate_left
                  · simp only [Act.put, List.setIfInBounds_toArray, List.set_cons_zero, List.set_cons_succ, i64_w, i32_w]
                    rfl
                  refine pure_ (i := 5) (N := (some 33)) (v := ?_) (a' := ?_) #[true, true, true, true, true, true, false, false, false, false, false, false, false] rfl rfl (by kernel_rfl) (fun _ _ _ h => h) (Or.inl ⟨by rfl, ?_⟩) ?_ ?_
                  rotate_left
                  · intro w'
                    go_simp
                    with_reducible rfl
                  rotate_left
                  · simp only [Act.put, List.setIfInBounds_toArray, List.set_cons_zero, List.set_cons_succ, i64_w, i32_w]
                    rfl
                  refine pure_ (i := 6) (N := (some 34)) (v := ?_) (a' := ?_) #[true, true, true, true, true, true, true, false, false, false, false, false, false] rfl rfl (by kernel_rfl) (fun _ _ _ h => h) (Or.inl ⟨by rfl, ?_⟩) ?_ ?_
                  rotate_left
                  · intro w'
                    go_simp
                    with_reducible rfl
                  rotate_left
                  · simp only [Act.put, List.setIfInBounds_toArray, List.set_cons_zero, List.set_cons_succ, i64_w, i32_w]
                    rfl
                  refine take_ (i := 7) (N := (some 35)) (v := ?_) (a' := ?_) #[true, true, true, true, true, true, true, true, false, false, false, false, false] rfl rfl (by kernel_rfl) (fun _ _ _ h => h) (Or.inl ⟨by rfl, ?_⟩) hHeld ?_ ?_
                  rotate_left
                  · rintro w' ⟨s0, s1, s2⟩
                    go_simp
                    with_reducible rfl
                  rotate_left
                  · simp only [Act.put, List.setIfInBounds_toArray, List.set_cons_zero, List.set_cons_succ, i64_w, i32_w]
                    rfl
                  refine pure_ (i := 8) (N := (some 36)) (v := .int .u8 f) (a' := ?_) #[true, true, true, true, true, true, true, true, true, false, false, false, false] rfl rfl (by kernel_rfl) (fun _ _ _ h => h) (Or.inl ⟨by rfl, ?_⟩) ?_ ?_
                  · intro w'
                    go_simp
                    first | done | (rw [hu8]; done) | (rw [hu8]; rfl)
                  rotate_left
                  · simp only [Act.put, List.setIfInBounds_toArray, List.set_cons_zero, List.set_cons_succ, i64_w, i32_w]
                    rfl
                  refine one_ (i := 9) (N := (some 37)) #[true, true, true, true, true, true, true, true, true, true, false, false, false] rfl rfl (by kernel_rfl) (by decide) (fun K hK => ?_)
                  refine value_ (w1 := ?_) (v := ?_) (by rfl) rfl ?_ ?_
                  rotate_left 2
                  · go_simp
                    constructor
                    · rfl
                    · rfl
                  refine hK.out _ _ ⟨(World.cell?_alloc_lt _ _ _ (World.block_lt_of_cell? _ _ hHeld.1)).trans hHeld.1, (World.cell?_alloc_lt _ _ _ (World.block_lt_of_cell? _ _ hHeld.2.1)).trans hHeld.2.1, (World.cell?_alloc_lt _ _ _ (World.block_lt_of_cell? _ _ hHeld.2.2)).trans hHeld.2.2⟩ (fun hHeld => ?_)
                  clear hK K
                  refine norm_ (a' := ?_) ?_ ?_
                  rotate_left
                  · show Act.put _ (some 37) _ = _
                    simp only [Act.put, List.setIfInBounds_toArray, List.set_cons_zero, List.set_cons_succ, i64_w, i32_w]
                    rfl
                  have I5 := Lib.hid (I4.out.below (below_alloc (Below.refl _ _) (.cells #[.int .u8 f] 5)))
                  have hcv := Kd.C_string (P := Try.prog) (A := some ⟨w4.heap.size, 0, none⟩) (c := 1) Try.underlying22 Try.underlying5 Try.underlying9 (wordlist_CheckTree.one w4 f)
                  clear I4
                  generalize w4.alloc (.cells #[.int .u8 f] 5) = w5 at I5 hHeld hcv ⊢
                  generalize w4.heap.size = b5 at hcv ⊢
                  refine one_ (i := 10) (N := (some 38)) #[true, true, true, true, true, true, true, true, true, true, true, false, false] rfl rfl (by kernel_rfl) (by decide) (fun K hK => ?_)
                  refine value_ (w1 := ?_) (v := ?_) (by rfl) rfl ?_ ?_
                  rotate_left 2
                  · go_simp
                    constructor
                    · rfl
                    · rfl
                  refine hK.out _ _ hHeld (fun hHeld => ?_)
                  clear hK K
                  refine norm_ (a' := ?_) ?_ ?_
                  rotate_left
                  · show Act.put _ (some 38) _ = _
                    simp only [Act.put, List.setIfInBounds_toArray, List.set_cons_zero, List.set_cons_succ, i64_w, i32_w]
                    rfl
                  refine pure_ (i := 11) (N := (some 39)) (v := .string (s ++ strOfNums [f])) (a' := ?_) #[true, true, true, true, true, true, true, true, true, true, true, true, false] rfl rfl (by kernel_rfl) (fun _ _ _ h => h) (Or.inl ⟨by rfl, ?_⟩) ?_ ?_
                  · intro w'
                    go_simp
                    first | done | rw [if_neg hsz]
                  rotate_left
                  · simp only [Act.put, List.setIfInBounds_toArray, List.set_cons_zero, List.set_cons_succ, i64_w, i32_w]
                    rfl
                  refine last_ (i := 12) (N := some 40) #[true, true, true, true, true, true, true, true, true, true, true, true, true] rfl rfl (by kernel_rfl) (by decide) (fun K hK => ?_)
                  refine call_ 41 #[.int .i64 n, .string (s ++ strOfNums [f]), .pointer (some ⟨B3, 0, none⟩), .pointer (some ⟨BW, 0, none⟩), .pointer (some ⟨BF, 0, none⟩)] (by rfl) rfl (by have he := enters_ Try.func41 (by kernel_rfl) rfl #[.int .i64 n, .string (s ++ strOfNums [f]), .pointer (some ⟨B3, 0, none⟩), .pointer (some ⟨BW, 0, none⟩), .pointer (some ⟨BF, 0, none⟩)] w5; unfold execOp; simp [resolve, Deferred.ofValue, invoke, Act.eval, he]) ?_
                  refine (IH.out k1 (by have := HK2.out; omega) l n (s ++ strOfNums [f]) Wr W3 (some ad) c B2 A2 n2 c2 B3 BW BF w0 w5 HC.out HCC.out HN.out I5.out HW1.out).mono ?_
                  rintro e w6 ⟨rfl, i6⟩
                  have I6 := Lib.hid i6
                  refine ⟨_, rfl, ?_⟩
                  refine hK.out _ _ ?_
                  clear hK K
                  refine done_ (by kernel_rfl) ?_
                  go_wp2_with (fail)
                  go_roundg k1
                  case measure => omega
                  case rel => exact ⟨wrap64 (j + 1), W3, rfl, H2', Lib.hid (by have := HK2.out; omega), I6⟩
                · cases H
              · rw [if_neg d1] at H
                obtain rfl := Option.some.inj H
                have b1 : decide (j < (m : Int)) = false := decide_eq_false d1
                clear H
                go_wp2_with (fail)
                go_end0
                exact ⟨rfl, IR.out⟩
        · rw [if_neg c3] at h; cases h
      · rw [if_neg cE] at h
        rw [Bool.eq_false_iff.2 cE] at hx1
        have HH := Lib.hid h; have I2 := HI
        clear h
        go_enter Try.func41, Try.ntmps41
        go_wp2_with (fail)
        clear hx1 hx2 hc3
        go_loopg [24] k (fun kq v24 wr => ∃ (j : Int) (Wr : List ByteArray), v24 = .int .i64 j ∧ Hid (wordlist_CheckTree.w1 kq l i s Wr j = some W') ∧ Hid (kq ≤ k) ∧ Hid (wordlist_CheckTree.I w0 wr (some ad) c B2 A2 n2 c2 B3 BW BF l Wr))
        case atStart => exact ⟨0, _, rfl, HH, Lib.hid (Nat.le_refl _), I2⟩
        case round =>
          clear HH I2
          obtain ⟨j, Wr, rfl, HA, HK2, IR⟩ := hrel
          cases gk with
          | zero => exact absurd HA.out (by simp [wordlist_CheckTree.w1])
          | succ k1 =>
            have H := HA.out
            clear HA
            rw [wordlist_CheckTree.w1, HM.out] at H
            by_cases d1 : j < (m : Int)
            · rw [if_pos d1] at H
              split at H
              · rename_i d2
                obtain ⟨W3, hw, H2⟩ := Option.bind_eq_some_iff.1 H
                obtain ⟨⟨e0, e1⟩, ⟨e2, e3⟩, e4, e5, e6⟩ := d2
                obtain ⟨ak, rfl, hk0⟩ := Kd.at_int (Kd.C_below HK.out IR.out.2.2.1) j e0 (by rw [HM.out]; exact d1)
                obtain ⟨n, hn⟩ : ∃ n, rd (rd_T46 l i).f2 j = n := ⟨_, rfl⟩
                rw [hn] at hk0 hw e2 e3 e5 e6
                obtain ⟨ad', _, _, e, hz0, _, _, _, _⟩ := at_T46 HC.out n e2 e3
                obtain rfl := Option.some.inj e
                have hy0 := wordlist_CheckTree.up IR.out.2.2.1 hz0
                obtain ⟨f, hf⟩ : ∃ f, (rd_T46 l n).f0 = f := ⟨_, rfl⟩
                rw [hf] at hy0 hw e5 e6
                have HW1 := Lib.hid hw; have H2' := Lib.hid H2
                have hu8 : IntKind.u8.wrap f = f := by unfold IntKind.wrap; first | (simp [IntKind.bits, IntKind.signed]; done) | (simp [IntKind.bits, IntKind.signed]; omega)
                have hw8 : wrap64 f = f := by unfold wrap64; omega
                have hj : wrap64 (j + 1) = j + 1 := by unfold wrap64; omega
                have b1 : decide (j < (m : Int)) = true := decide_eq_true d1
                have p0 := eq_true e0
                have p1 := eq_true d1
                have p2 := eq_true e2
                have p3 := eq_true e3
                have hsz : ¬ 9223372036854775807 < s.size + (strOfNums [f]).size := by rw [show (strOfNums [f]).size = 1 from rfl]; omega
                clear H H2 hw hz0 hn hf d1 e0 e2 e3
                have hcf := (blk_cell IR.out.2.1 0).trans (show _ = some (Value.func (.func 41) #[] #[.pointer (some ⟨B3, 0, none⟩), .pointer (some ⟨BW, 0, none⟩), .pointer (some ⟨BF, 0, none⟩)]) from rfl)
                have hc3 := (blk_cell IR.out.1 0).trans (show _ = some (Value.slice (some ad) l.length c) from rfl)
                go_wp2_with (fail)
                clear hk0
                refine start_ (n := 13) (S := fun w' => w'.cell? ⟨BF, 0, none⟩ = some (.func (.func 41) #[] #[.pointer (some ⟨B3, 0, none⟩), .pointer (some ⟨BW, 0, none⟩), .pointer (some ⟨BF, 0, none⟩)]) ∧ w'.cell? ⟨B3, 0, none⟩ = some (.slice (some ad) l.length c) ∧ w'.cell? (ad.add (n.toNat * 3)) = some (.int .i64 f)) (ds := [12]) #[false, false, false, false, false, false, false, false, false, false, false, false, false] (by kernel_rfl) rfl rfl ⟨hcf, hc3, hy0⟩ (fun hHeld => ?_)
                have I4 := Lib.hid (IR.out.below (below_drew (Below.refl _ _)))
                clear IR hcf hc3 hy0
                generalize wr.drew = w4 at I4 hHeld ⊢
                refine take_ (i := 0) (N := (some 28)) (v := ?_) (a' := ?_) #[true, false, false, false, false, false, false, false, false, false, false, false, false] rfl rfl (by kernel_rfl) (fun _ _ _ h => h) (Or.inl ⟨by rfl, ?_⟩) hHeld ?_ ?_
                rotate_left
                · rintro w' ⟨s0, s1, s2⟩
                  go_simp
                  with_reducible rfl
                rotate_left
                · simp only [Act.put, List.setIfInBounds_toArray, List.set_cons_zero, List.set_cons_succ, i64_w, i32_w]
                  rfl
                refine pure_ (i := 1) (N := (some 29)) (v := ?_) (a' := ?_) #[true, true, false, false, false, false, false, false, false, false, false, false, false] rfl rfl (by kernel_rfl) (fun _ _ _ h => h) (Or.inl ⟨by rfl, ?_⟩) ?_ ?_
                rotate_left
                · intro w'
                  go_simp
                  with_reducible rfl
                rotate_left
                · simp only [Act.put, List.setIfInBounds_toArray, List.set_cons_zero, List.set_cons_succ, i64_w, i32_w]
                  rfl
                refine pure_ (i := 2) (N := (some 30)) (v := ?_) (a' := ?_) #[true, true, true, false, false, false, false, false, false, false, false, false, false] rfl rfl (by kernel_rfl) (fun _ _ _ h => h) (Or.inl ⟨by rfl, ?_⟩) ?_ ?_
                rotate_left
                · intro w'
                  go_simp
                  with_reducible rfl
                rotate_left
                · simp only [Act.put, List.setIfInBounds_toArray, List.set_cons_zero, List.set_cons_succ, i64_w, i32_w]
                  rfl
                refine take_ (i := 3) (N := (some 31)) (v := ?_) (a' := ?_) #[true, true, true, true, false, false, false, false, false, false, false, false, false] rfl rfl (by kernel_rfl) (fun _ _ _ h => h) (Or.inl ⟨by rfl, ?_⟩) hHeld ?_ ?_
                rotate_left
                · rintro w' ⟨s0, s1, s2⟩
                  go_simp
                  with_reducible rfl
                rotate_left
                · simp only [Act.put, List.setIfInBounds_toArray, List.set_cons_zero, List.set_cons_succ, i64_w, i32_w]
                  rfl
                refine pure_ (i := 4) (N := (some 32)) (v := ?_) (a' := ?_) #[true, true, true, true, true, false, false, false, false, false, false, false, false] rfl rfl (by kernel_rfl) (fun _ _ _ h => h) (Or.inl ⟨by rfl, ?_⟩) ?_ ?_
                rotate_left
                · intro w'
                  go_simp
                  with_reducible rfl
                rotate_left
                · simp only [Act.put, List.setIfInBounds_toArray, List.set_cons_zero, List.set_cons_succ, i64_w, i32_w]
                  rfl
                refine pure_ (i := 5) (N := (some 33)) (v := ?_) (a' := ?_) #[true, true, true, true, true, true, false, false, false, false, false, false, false] rfl rfl (by kernel_rfl) (fun _ _ _ h => h) (Or.inl ⟨by rfl, ?_⟩) ?_ ?_
                rotate_left
                · intro w'
                  go_simp
                  with_reducible rfl
                rotate_left
                · simp only [Act.put, List.setIfInBounds_toArray, List.set_cons_zero, List.set_cons_succ, i64_w, i32_w]
                  rfl
                refine pure_ (i := 6) (N := (some 34)) (v := ?_) (a' := ?_) #[true, true, true, true, true, true, true, false, false, false, false, false, false] rfl rfl (by kernel_rfl) (fun _ _ _ h => h) (Or.inl ⟨by rfl, ?_⟩) ?_ ?_
                rotate_left
                · intro w'
                  go_simp
                  with_reducible rfl
                rotate_left
                · simp only [Act.put, List.setIfInBounds_toArray, List.set_cons_zero, List.set_cons_succ, i64_w, i32_w]
                  rfl
                refine take_ (i := 7) (N := (some 35)) (v := ?_) (a' := ?_) #[true, true, true, true, true, true, true, true, false, false, false, false, false] rfl rfl (by kernel_rfl) (fun _ _ _ h => h) (Or.inl ⟨by rfl, ?_⟩) hHeld ?_ ?_
                rotate_left
                · rintro w' ⟨s0, s1, s2⟩
                  go_simp
                  with_reducible rfl
                rotate_left
                · simp only [Act.put, List.setIfInBounds_toArray, List.set_cons_zero, List.set_cons_succ, i64_w, i32_w]
                  rfl
                refine pure_ (i := 8) (N := (some 36)) (v := .int .u8 f) (a' := ?_) #[true, true, true, true, true, true, true, true, true, false, false, false, false] rfl rfl (by kernel_rfl) (fun _ _ _ h => h) (Or.inl ⟨by rfl, ?_⟩) ?_ ?_
                · intro w'
                  go_simp
                  first | done | (rw [hu8]; done) | (rw [hu8]; rfl)
                rotate_left
                · simp only [Act.put, List.setIfInBounds_toArray, List.set_cons_zero, List.set_cons_succ, i64_w, i32_w]
                  rfl
                refine one_ (i := 9) (N := (some 37)) #[true, true, true, true, true, true, true, true, true, true, false, false, false] rfl rfl (by kernel_rfl) (by decide) (fun K hK => ?_)
                refine value_ (w1 := ?_) (v := ?_) (by rfl) rfl ?_ ?_
                rotate_left 2
                · go_simp
                  constructor
                  · rfl
                  · rfl
                refine hK.out _ _ ⟨(World.cell?_alloc_lt _ _ _ (World.block_lt_of_cell? _ _ hHeld.1)).trans hHeld.1, (World.cell?_alloc_lt _ _ _ (World.block_lt_of_cell? _ _ hHeld.2.1)).trans hHeld.2.1, (World.cell?_alloc_lt _ _ _ (World.block_lt_of_cell? _ _ hHeld.2.2)).trans hHeld.2.2⟩ (fun hHeld => ?_)
                clear hK K
                refine norm_ (a' := ?_) ?_ ?_
                rotate_left
                · show Act.put _ (some 37) _ = _
                  simp only [Act.put, List.setIfInBounds_toArray, List.set_cons_zero, List.set_cons_succ, i64_w, i32_w]
                  rfl
                have I5 := Lib.hid (I4.out.below (below_alloc (Below.refl _ _) (.cells #[.int .u8 f] 5)))
                have hcv := Kd.C_string (P := Try.prog) (A := some ⟨w4.heap.size, 0, none⟩) (c := 1) Try.underlying22 Try.underlying5 Try.underlying9 (wordlist_CheckTree.one w4 f)
                clear I4
                generalize w4.alloc (.cells #[.int .u8 f] 5) = w5 at I5 hHeld hcv ⊢
                generalize w4.heap.size = b5 at hcv ⊢
                refine one_ (i := 10) (N := (some 38)) #[true, true, true, true, true, true, true, true, true, true, true, false, false] rfl rfl (by kernel_rfl) (by decide) (fun K hK => ?_)
                refine value_ (w1 := ?_) (v := ?_) (by rfl) rfl ?_ ?_
                rotate_left 2
                · go_simp
                  constructor
                  · rfl
                  · rfl
                refine hK.out _ _ hHeld (fun hHeld => ?_)
                clear hK K
                refine norm_ (a' := ?_) ?_ ?_
                rotate_left
                · show Act.put _ (some 38) _ = _
                  simp only [Act.put, List.setIfInBounds_toArray, List.set_cons_zero, List.set_cons_succ, i64_w, i32_w]
                  rfl
                refine pure_ (i := 11) (N := (some 39)) (v := .string (s ++ strOfNums [f])) (a' := ?_) #[true, true, true, true, true, true, true, true, true, true, true, true, false] rfl rfl (by kernel_rfl) (fun _ _ _ h => h) (Or.inl ⟨by rfl, ?_⟩) ?_ ?_
                · intro w'
                  go_simp
                  first | done | rw [if_neg hsz]
                rotate_left
                · simp only [Act.put, List.setIfInBounds_toArray, List.set_cons_zero, List.set_cons_succ, i64_w, i32_w]
                  rfl
                refine last_ (i := 12) (N := some 40) #[true, true, true, true, true, true, true, true, true, true, true, true, true] rfl rfl (by kernel_rfl) (by decide) (fun K hK => ?_)
                refine call_ 41 #[.int .i64 n, .string (s ++ strOfNums [f]), .pointer (some ⟨B3, 0, none⟩), .pointer (some ⟨BW, 0, none⟩), .pointer (some ⟨BF, 0, none⟩)] (by rfl) rfl (by have he := enters_ Try.func41 (by kernel_rfl) rfl #[.int .i64 n, .string (s ++ strOfNums [f]), .pointer (some ⟨B3, 0, none⟩), .pointer (some ⟨BW, 0, none⟩), .pointer (some ⟨BF, 0, none⟩)] w5; unfold execOp; simp [resolve, Deferred.ofValue, invoke, Act.eval, he]) ?_
                refine (IH.out k1 (by have := HK2.out; omega) l n (s ++ strOfNums [f]) Wr W3 (some ad) c B2 A2 n2 c2 B3 BW BF w0 w5 HC.out HCC.out HN.out I5.out HW1.out).mono ?_
                rintro e w6 ⟨rfl, i6⟩
                have I6 := Lib.hid i6
                refine ⟨_, rfl, ?_⟩
                refine hK.out _ _ ?_
                clear hK K
                refine done_ (by kernel_rfl) ?_
                go_wp2_with (fail)
                go_roundg k1
                case measure => omega
                case rel => exact ⟨wrap64 (j + 1), W3, rfl, H2', Lib.hid (by have := HK2.out; omega), I6⟩
              · cases H
            · rw [if_neg d1] at H
              obtain rfl := Option.some.inj H
              have b1 : decide (j < (m : Int)) = false := decide_eq_false d1
              clear H
              go_wp2_with (fail)
              go_end0
              exact ⟨rfl, IR.out⟩
    · rw [if_neg c1] at h; cases h
def wordlist_CheckTree.fin (k : Nat) (ws : List ByteArray) (l : List S46) : Option Bool := (wordlist_CheckTree.w0 k l 0 ⟨#[]⟩ []).bind fun W => slices_Equal_string_string.f k W ws
def wordlist_CheckTree.p0 : Nat → List ByteArray → List S46 → List Int → Int → Option Bool
  | 0, _, _, _, _ => none
  | k + 1, ws, l, P, i => if i < (P.length : Int) then (if 0 ≤ i then (if rd P i = 1 then wordlist_CheckTree.p0 k ws l P (wrap64 (i + 1)) else some false) else none) else wordlist_CheckTree.fin k ws l
mutual
def wordlist_CheckTree.o0 : Nat → List ByteArray → List S46 → List Int → Int → Option Bool
  | 0, _, _, _, _ => none
  | k + 1, ws, l, P, i => if i < (l.length : Int) then (if 0 ≤ i then wordlist_CheckTree.n0 k ws l P i (-1) 0 else none) else wordlist_CheckTree.p0 k ws l (P.drop 1) 0
def wordlist_CheckTree.n0 : Nat → List ByteArray → List S46 → List Int → Int → Int → Int → Option Bool
  | 0, _, _, _, _, _, _ => none
  | k + 1, ws, l, P, i, last, j => if j < ((rd_T46 l i).f2.length : Int) then (if 0 ≤ j then (if rd (rd_T46 l i).f2 j ≤ i then some false else if rd (rd_T46 l i).f2 j ≥ (l.length : Int) then some false else if (rd_T46 l (rd (rd_T46 l i).f2 j)).f0 ≤ last then some false else if (rd_T46 l (rd (rd_T46 l i).f2 j)).f0 < 0 then some false else if (rd_T46 l (rd (rd_T46 l i).f2 j)).f0 > 255 then some false else ((wordlist_letter.f k (rd_T46 l (rd (rd_T46 l i).f2 j)).f0).bind fun t => if t = true then wordlist_CheckTree.n0 k ws l (P.set (rd (rd_T46 l i).f2 j).toNat (wrap64 (rd P (rd (rd_T46 l i).f2 j) + 1))) i (rd_T46 l (rd (rd_T46 l i).f2 j)).f0 (wrap64 (j + 1)) else some false)) else none) else (if i > 0 then (if ((rd_T46 l i).f2.length : Int) = 0 then (if (rd_T46 l i).f1 = true then wordlist_CheckTree.o0 k ws l P (wrap64 (i + 1)) else some false) else wordlist_CheckTree.o0 k ws l P (wrap64 (i + 1))) else wordlist_CheckTree.o0 k ws l P (wrap64 (i + 1)))
end
def wordlist_CheckTree.f (k : Nat) (ws : List ByteArray) (l : List S46) : Option Bool := (wordlist_Valid.f k ws).bind fun e => if e = 0 then (if (l.length : Int) = 0 then some false else if (rd_T46 l 0).f0 = 0 then (if l.length ≤ 1000000 then wordlist_CheckTree.o0 k ws l (List.replicate l.length 0) 0 else none) else some false) else some false
theorem wordlist_CheckTree.mono_fin (ws : List ByteArray) (l : List S46) (k : Nat) : LeO (wordlist_CheckTree.fin k ws l) (wordlist_CheckTree.fin (k + 1) ws l) := by
  unfold wordlist_CheckTree.fin
  exact LeO.bind ((wordlist_CheckTree.mono_w k).1 _ _ _ _) fun _ => slices_Equal_string_string.mono _ _ _
theorem wordlist_CheckTree.mono_p : ∀ k y0 y1 y2 y3, LeO (wordlist_CheckTree.p0 k y0 y1 y2 y3) (wordlist_CheckTree.p0 (k + 1) y0 y1 y2 y3)
  | 0 => fun _ _ _ _ r h => by simp [wordlist_CheckTree.p0] at h
  | k + 1 => by
    have ih := wordlist_CheckTree.mono_p k
    intro y0 y1 y2 y3
    rw [wordlist_CheckTree.p0, wordlist_CheckTree.p0]
    exact LeO.ite (LeO.ite (LeO.ite (ih _ _ _ _) (LeO.refl _)) (LeO.refl _)) (wordlist_CheckTree.mono_fin _ _ _)
theorem wordlist_CheckTree.mono_o : ∀ k, (∀ y0 y1 y2 y3, LeO (wordlist_CheckTree.o0 k y0 y1 y2 y3) (wordlist_CheckTree.o0 (k + 1) y0 y1 y2 y3)) ∧ (∀ y0 y1 y2 y3 y4 y5, LeO (wordlist_CheckTree.n0 k y0 y1 y2 y3 y4 y5) (wordlist_CheckTree.n0 (k + 1) y0 y1 y2 y3 y4 y5))
  | 0 => ⟨fun _ _ _ _ r h => by simp [wordlist_CheckTree.o0] at h, fun _ _ _ _ _ _ r h => by simp [wordlist_CheckTree.n0] at h⟩
  | k + 1 => by
    obtain ⟨ih0, ih1⟩ := wordlist_CheckTree.mono_o k
    refine ⟨?_, ?_⟩
    · intro y0 y1 y2 y3
      rw [wordlist_CheckTree.o0, wordlist_CheckTree.o0]
      exact LeO.ite (LeO.ite (ih1 _ _ _ _ _ _) (LeO.refl _)) (wordlist_CheckTree.mono_p _ _ _ _ _)
    · intro y0 y1 y2 y3 y4 y5
      rw [wordlist_CheckTree.n0, wordlist_CheckTree.n0]
      exact LeO.ite (LeO.ite (LeO.ite (LeO.refl _) (LeO.ite (LeO.refl _) (LeO.ite (LeO.refl _) (LeO.ite (LeO.refl _) (LeO.ite (LeO.refl _) (LeO.bind (wordlist_letter.mono _ _) fun _ => LeO.ite (ih1 _ _ _ _ _ _) (LeO.refl _))))))) (LeO.refl _)) (LeO.ite (LeO.ite (LeO.ite (ih0 _ _ _ _) (LeO.refl _)) (ih0 _ _ _ _)) (ih0 _ _ _ _))
theorem wordlist_CheckTree.mono (y0 : List ByteArray) (y1 : List S46) (k : Nat) : LeO (wordlist_CheckTree.f k y0 y1) (wordlist_CheckTree.f (k + 1) y0 y1) := by
  unfold wordlist_CheckTree.f
  exact LeO.bind (wordlist_Valid.mono _ _) fun _ => LeO.ite (LeO.ite (LeO.refl _) (LeO.ite (LeO.ite ((wordlist_CheckTree.mono_o k).1 _ _ _ _) (LeO.refl _)) (LeO.refl _))) (LeO.refl _)
theorem wordlist_CheckTree.more {k k' : Nat} (h : k ≤ k') {ws : List ByteArray} {l : List S46} {P : List Int} {i : Int} {r : Bool} (hr : wordlist_CheckTree.o0 k ws l P i = some r) : wordlist_CheckTree.o0 k' ws l P i = some r := by
  induction h with
  | refl => exact hr
  | step _ ih => exact (wordlist_CheckTree.mono_o _).1 _ _ _ _ _ ih
/-- What stands in memory while the tree is looked through: both arguments' boxes, the parents' counts. -/
def wordlist_CheckTree.J (w0 w : World) (B2 B3 gP : Nat) (A0 : Option Addr) (n0 c0 : Nat) (A1 : Option Addr) (n1 c1 : Nat) (P : List Int) : Prop :=
  w.heap[B2]? = some (.cells #[.slice A0 n0 c0] 26 (0, 0)) ∧ w.heap[B3]? = some (.cells #[.slice A1 n1 c1] 38 (0, 0)) ∧ w.heap[gP]? = some (.cells (P.map (Value.int .i64)).toArray 3 (0, 0)) ∧ P.length = n1 ∧ Below w0.heap.size w0 w
theorem wordlist_CheckTree.J.below {w0 w w1 : World} {B2 B3 gP : Nat} {A0 : Option Addr} {n0 c0 : Nat} {A1 : Option Addr} {n1 c1 : Nat} {P : List Int} (h : wordlist_CheckTree.J w0 w B2 B3 gP A0 n0 c0 A1 n1 c1 P) (hb : Below w.heap.size w w1) : wordlist_CheckTree.J w0 w1 B2 B3 gP A0 n0 c0 A1 n1 c1 P :=
  ⟨blk_below h.1 hb, blk_below h.2.1 hb, blk_below h.2.2.1 hb, h.2.2.2.1, h.2.2.2.2.trans (hb.mono h.2.2.2.2.size)⟩
theorem wordlist_CheckTree.J.at_ {w0 w : World} {B2 B3 gP : Nat} {A0 : Option Addr} {n0 c0 : Nat} {A1 : Option Addr} {n1 c1 : Nat} {P : List Int} (h : wordlist_CheckTree.J w0 w B2 B3 gP A0 n0 c0 A1 n1 c1 P) (i : Int) (h0 : 0 ≤ i) (h1 : i < n1) : w.cell? ⟨gP, i.toNat, none⟩ = some (.int .i64 (rd P i)) := by
  have hl : i.toNat < P.length := by have := h.2.2.2.1; omega
  rw [blk_cell h.2.2.1, List.getElem?_toArray, List.getElem?_map, List.getElem?_eq_getElem hl]
  unfold rd
  rw [List.getD_eq_getElem?_getD, List.getElem?_eq_getElem hl]; rfl
theorem wordlist_CheckTree.J.put {w0 w : World} {B2 B3 gP : Nat} {A0 : Option Addr} {n0 c0 : Nat} {A1 : Option Addr} {n1 c1 : Nat} {P : List Int} (h : wordlist_CheckTree.J w0 w B2 B3 gP A0 n0 c0 A1 n1 c1 P) (h2 : B2 ≠ gP) (h3 : B3 ≠ gP) (hg : w0.heap.size ≤ gP) (i : Nat) (x : Int) : wordlist_CheckTree.J w0 (w.setCell ⟨gP, i, none⟩ (.int .i64 x)) B2 B3 gP A0 n0 c0 A1 n1 c1 (P.set i x) :=
  ⟨blk_far h.1 (p := ⟨gP, i, none⟩) h2 _, blk_far h.2.1 (p := ⟨gP, i, none⟩) h3 _, blk_put h.2.2.1 i _ (by rw [List.setIfInBounds_toArray, List.map_set]), by rw [List.length_set]; exact h.2.2.2.1, below_set h.2.2.2.2 hg⟩
theorem wordlist_CheckTree.J.row {w0 w : World} {B2 B3 gP : Nat} {A0 : Option Addr} {n0 c0 : Nat} {A1 : Option Addr} {n1 c1 : Nat} {P : List Int} (h : wordlist_CheckTree.J w0 w B2 B3 gP A0 n0 c0 A1 n1 c1 P) (hm : P.length ≤ 1000000) : (Kd.int .i64).C w (some ⟨gP, 0, none⟩) P.length P := by
  refine ⟨rfl, by omega, fun _ => ⟨_, rfl, fun j p hj => ⟨[.int .i64 p], rfl, rfl, fun q u hq => ?_⟩⟩⟩
  have hq0 : q = 0 := by have := (List.getElem?_eq_some_iff.1 hq).1; simpa using this
  subst hq0
  obtain rfl : Value.int .i64 p = u := by simpa using hq
  have e : Addr.add ⟨gP, 0, none⟩ (j * (Kd.int .i64).sz + 0) = ⟨gP, j, none⟩ := by
    rw [show (Kd.int .i64).sz = 1 from rfl, Nat.mul_one]
    unfold Addr.add
    split
    · rename_i h0; rw [Nat.add_zero] at h0; rw [h0]
    · simp
  rw [e, blk_cell h.2.2.1, List.getElem?_toArray, List.getElem?_map, hj]; rfl
theorem wordlist_CheckTree.made (n : Nat) : madeCells #[Value.int .i64 0] n = ((List.replicate n (0 : Int)).map (Value.int .i64)).toArray := by
  rw [List.map_replicate, ← toList_madeCells_one]
set_option maxHeartbeats 4000000 in
set_option maxRecDepth 100000 in
theorem wordlist_CheckTree.calls (k : Nat) (A0_0 : Option Addr) (c0_0 : Nat) (l0_0 : List ByteArray) (A1 : Option Addr) (c1 : Nat) (l1 : List S46) (r : Bool) (w : World) (hr0_0 : Kd.C Kd.string w A0_0 l0_0.length l0_0) (hc0_0 : l0_0.length ≤ c0_0) (hr1 : Kd.C k46 w A1 l1.length l1) (hc1 : l1.length ≤ c1) (h : wordlist_CheckTree.f k l0_0 l1 = some r) :
    Calls Try.prog 19 #[.agg #[.slice A0_0 l0_0.length c0_0], .slice A1 l1.length c1] w fun e w' => e = .returned (.bool r) ∧ Below w.heap.size w w' := by
  have hu26 := Try.underlying26
  have hu46 := Try.underlying46
  unfold wordlist_CheckTree.f at h
  obtain ⟨e0, he, h1⟩ := Option.bind_eq_some_iff.1 h
  have HV := Lib.hid he; have HR0 := Lib.hid hr0_0; have HC0 := Lib.hid hc0_0; have HR1 := Lib.hid hr1; have HC1 := Lib.hid hc1; have H1 := Lib.hid h1
  clear h he hr0_0 hc0_0 hr1 hc1 h1
  go_enter Try.func19, Try.ntmps19
  go_wp2_with (first | ((with_reducible refine gate_dst (N := 2) rfl ?_); (try (refine gate_guard (by rfl) ?_; dsimp only)); refine box_event ?hg (N := 2) ?hd (cs := #[.slice A0_0 l0_0.length c0_0]) (t := 26) ?hr ?_; (case hd => rfl); (case hg => rfl); (case hr => first | (go_simp; done) | (go_simp; rfl)); intro b2 hb2 w2 hbox hbb; have P2_ := Lib.hid hbox; have B2' := Lib.hid hbb; have N2 := Lib.hid hb2; clear hb2 hbox hbb; have hc20 := (blk_cell P2_.out 0).trans (show _ = some (Value.slice A0_0 l0_0.length c0_0) from rfl)) | ((with_reducible refine gate_dst (N := 3) rfl ?_); (try (refine gate_guard (by rfl) ?_; dsimp only)); refine box_event ?hg (N := 3) ?hd (cs := #[.slice A1 l1.length c1]) (t := 38) ?hr ?_; (case hd => rfl); (case hg => rfl); (case hr => first | (go_simp; done) | (go_simp; rfl)); intro b3 hb3 w3 hbox hbb; have P3 := Lib.hid hbox; have P2 := Lib.hid (blk_below P2_.out hbb); have B3' := Lib.hid (B2'.out.trans (hbb.mono B2'.out.size)); have N3 := Lib.hid (show b2 = w.heap.size ∧ b2 < b3 from ⟨N2.out, by have := blk_lt P2_.out; omega⟩); clear hb3 hbox hbb P2_ B2' N2 hc20; have hc20 := (blk_cell P2.out 0).trans (show _ = some (Value.slice A0_0 l0_0.length c0_0) from rfl); have hc30 := (blk_cell P3.out 0).trans (show _ = some (Value.slice A1 l1.length c1) from rfl)))
  refine (wordlist_Valid.calls k A0_0 c0_0 l0_0 e0 _ (Kd.C_below HR0.out B3'.out) HC0.out HV.out).mono ?_
  rintro e w4 ⟨rfl, hb⟩
  have B4 := Lib.hid (B3'.out.trans (hb.mono B3'.out.size))
  have Q2 := Lib.hid (blk_below P2.out hb)
  have Q3 := Lib.hid (blk_below P3.out hb)
  clear hb P2 P3 B3' hc20
  (try clear hc30)
  have h1 := H1.out
  clear H1 HV
  have hc3 := (blk_cell Q3.out 0).trans (show _ = some (Value.slice A1 l1.length c1) from rfl)
  by_cases d0 : e0 = 0
  · subst d0
    rw [if_pos rfl] at h1
    by_cases d1 : (l1.length : Int) = 0
    · rw [if_pos d1] at h1
      obtain rfl := Option.some.inj h1
      have z1 : ((l1.length : Int) == 0) = true := beq_iff_eq.2 d1
      go_wp2_with (fail)
      go_ret
      exact ⟨rfl, B4.out⟩
    · rw [if_neg d1] at h1
      have z1 : ((l1.length : Int) == 0) = false := beq_eq_false_iff_ne.2 d1
      obtain ⟨ad, Ak, ck, rfl, hz0, _, _, _, _⟩ := at_T46 HR1.out 0 (by decide) (by omega)
      have hx0 := wordlist_CheckTree.up B4.out hz0
      have hx0' : w4.cell? ad = some (.int .i64 (rd_T46 l1 0).f0) := by
        have e : ad.add ((0 : Int).toNat * 3) = ad := by cases ad; simp [Addr.add]
        rw [← e]; exact hx0
      have p0 := eq_true (show (0 : Int) < (l1.length : Int) by omega)
      have p1 := eq_true (show 0 < l1.length by omega)
      have p2 := eq_true (show l1 ≠ [] by rintro rfl; simp at d1)
      clear hz0
      by_cases d2 : (rd_T46 l1 0).f0 = 0
      · rw [if_pos d2] at h1
        have z2 : ((rd_T46 l1 0).f0 != 0) = false := by rw [d2]; rfl
        have z3 : ((rd_T46 l1 0).f0 == 0) = true := beq_iff_eq.2 d2
        by_cases d3 : l1.length ≤ 1000000
        · rw [if_pos d3] at h1
          have HH := Lib.hid h1; have L3 := Lib.hid d3; have L1 := Lib.hid (show 1 ≤ l1.length from by omega)
          clear h1 d1 d2 d3
          go_wp2_with (fail)
          have hmk := print_make_of (P := Try.prog) 44 3 (.int .i64 0) 8 Try.underlying44 info3 rfl (by decide) l1.length (by have := L3.out; omega)
          rw [hmk]
          clear hmk
          have hc3n := (blk_cell (blk_alloc Q3.out (.cells (madeCells #[.int .i64 0] l1.length) 3)) 0).trans (show _ = some (Value.slice (some ad) l1.length c1) from rfl)
          go_wp2_with (fail)
          have J5 := Lib.hid (show wordlist_CheckTree.J w (w4.alloc (.cells (madeCells #[.int .i64 0] l1.length) 3)) b2 b3 w4.heap.size A0_0 l0_0.length c0_0 (some ad) l1.length c1 (List.replicate l1.length 0) from ⟨blk_alloc Q2.out _, blk_alloc Q3.out _, by rw [← wordlist_CheckTree.made]; exact blk_new w4 _, List.length_replicate, below_alloc B4.out _⟩)
          obtain ⟨gP, hgP⟩ : ∃ x, w4.heap.size = x := ⟨_, rfl⟩
          have NP := Lib.hid (show b2 ≠ gP ∧ b3 ≠ gP ∧ w.heap.size ≤ gP ∧ b2 < gP ∧ b3 < gP from by have := blk_lt Q2.out; have := blk_lt Q3.out; have := B4.out.size; omega)
          rw [hgP] at J5 ⊢
          clear hgP hx0 hx0' hc3 hc3n p0 p1 p2 z1 z2 z3 Q2 Q3 B4
          generalize w4.alloc (.cells (madeCells #[.int .i64 0] l1.length) 3) = w5 at J5 ⊢
          go_loopg [36] k (fun kq v36 wr => ∃ (i : Int) (P : List Int), v36 = .int .i64 i ∧ Hid (wordlist_CheckTree.o0 kq l0_0 l1 P i = some r) ∧ Hid (kq ≤ k) ∧ Hid (wordlist_CheckTree.J w wr b2 b3 gP A0_0 l0_0.length c0_0 (some ad) l1.length c1 P))
          case atStart => exact ⟨0, _, rfl, HH, Lib.hid (Nat.le_refl _), J5⟩
          case round =>
            clear HH J5
            obtain ⟨i, P, rfl, HA, HK, JR⟩ := hrel
            cases gk with
            | zero => exact absurd HA.out (by simp [wordlist_CheckTree.o0])
            | succ k1 =>
              have H := HA.out
              clear HA
              rw [wordlist_CheckTree.o0] at H
              by_cases g1 : i < (l1.length : Int)
              · rw [if_pos g1] at H
                by_cases g2 : 0 ≤ i
                · rw [if_pos g2] at H
                  have HH := Lib.hid H
                  obtain ⟨ad', Ak, ck, e, hz0, hz1, hz2, hlk, hik⟩ := at_T46 HR1.out i g2 g1
                  obtain rfl := Option.some.inj e
                  have hx0 := wordlist_CheckTree.up JR.out.2.2.2.2 hz0
                  have hx1 := wordlist_CheckTree.up JR.out.2.2.2.2 hz1
                  have hx2 := wordlist_CheckTree.up JR.out.2.2.2.2 hz2
                  obtain ⟨m, hm⟩ : ∃ m, (rd_T46 l1 i).f2.length = m := ⟨_, rfl⟩
                  obtain ⟨f0, hf0⟩ : ∃ x, (rd_T46 l1 i).f0 = x := ⟨_, rfl⟩
                  obtain ⟨f1, hf1⟩ : ∃ x, (rd_T46 l1 i).f1 = x := ⟨_, rfl⟩
                  rw [hf0] at hx0
                  rw [hf1] at hx1
                  rw [hm] at hx2
                  have HM := Lib.hid hm; have HF1 := Lib.hid hf1; have HI := Lib.hid hik
                  have b1 : decide (i < (l1.length : Int)) = true := decide_eq_true g1
                  have G1 := Lib.hid g1; have G2 := Lib.hid g2
                  have q0 := eq_true g2
                  have q1 := eq_true g1
                  clear H hz0 hz1 hz2 hlk hik hm hf0 hf1 g1 g2
                  go_wp2_with (first | ((with_reducible refine gate_dst (N := 7) rfl ?_); (try (refine gate_guard (by rfl) ?_; dsimp only)); refine box_event ?hg (N := 7) ?hd (cs := #[.int .i64 0, .bool false, .slice none 0 0]) (t := 46) ?hr ?_; (case hd => rfl); (case hg => rfl); (case hr => first | (go_simp; done) | (go_simp; rfl)); intro b7 hb7 w7 hbox hbb; have P7 := Lib.hid hbox; have J7 := Lib.hid (JR.out.below hbb); have N7 := Lib.hid (show b2 ≠ b7 ∧ b3 ≠ b7 ∧ gP ≠ b7 ∧ w.heap.size ≤ b7 from by have := blk_lt JR.out.1; have := blk_lt JR.out.2.1; have := blk_lt JR.out.2.2.1; have := JR.out.2.2.2.2.size; omega); clear hb7 hbox hbb; have hc70 := (blk_cell P7.out 0).trans (show _ = some (Value.int .i64 0) from rfl); have hc71 := (blk_cell P7.out 1).trans (show _ = some (Value.bool false) from rfl); have hc72 := (blk_cell P7.out 2).trans (show _ = some (Value.slice none 0 0) from rfl); have hf70 := blk_frozen P7.out 0; have hf71 := blk_frozen P7.out 1; have hf72 := blk_frozen P7.out 2))
                  have J8 := Lib.hid (show wordlist_CheckTree.J w (((w7.setCell ⟨b7, 0, none⟩ (.int .i64 f0)).setCell ⟨b7, 1, none⟩ (.bool f1)).setCell ⟨b7, 2, none⟩ (.slice Ak m ck)) b2 b3 gP A0_0 l0_0.length c0_0 (some ad) l1.length c1 P from ⟨blk_far (blk_far (blk_far J7.out.1 (p := ⟨b7, 0, none⟩) N7.out.1 _) (p := ⟨b7, 1, none⟩) N7.out.1 _) (p := ⟨b7, 2, none⟩) N7.out.1 _, blk_far (blk_far (blk_far J7.out.2.1 (p := ⟨b7, 0, none⟩) N7.out.2.1 _) (p := ⟨b7, 1, none⟩) N7.out.2.1 _) (p := ⟨b7, 2, none⟩) N7.out.2.1 _, blk_far (blk_far (blk_far J7.out.2.2.1 (p := ⟨b7, 0, none⟩) N7.out.2.2.1 _) (p := ⟨b7, 1, none⟩) N7.out.2.2.1 _) (p := ⟨b7, 2, none⟩) N7.out.2.2.1 _, J7.out.2.2.2.1, below_set (below_set (below_set J7.out.2.2.2.2 N7.out.2.2.2) N7.out.2.2.2) N7.out.2.2.2⟩)
                  have P8 := Lib.hid (blk_put (blk_put (blk_put P7.out 0 (.int .i64 f0) rfl) 1 (.bool f1) rfl) 2 (.slice Ak m ck) rfl)
                  clear hc70 hc71 hc72 hf70 hf71 hf72 P7 J7 hx0 hx1 hx2 JR b1 q0 q1
                  generalize (((w7.setCell ⟨b7, 0, none⟩ (.int .i64 f0)).setCell ⟨b7, 1, none⟩ (.bool f1)).setCell ⟨b7, 2, none⟩ (.slice Ak m ck)) = w8 at J8 P8 ⊢
                  go_loopg [8, 44] k1 (fun kq v8 v44 wr => ∃ (last j : Int) (P' : List Int), v8 = .int .i64 last ∧ v44 = .int .i64 j ∧ Hid (wordlist_CheckTree.n0 kq l0_0 l1 P' i last j = some r) ∧ Hid (kq ≤ k1) ∧ Hid (wordlist_CheckTree.J w wr b2 b3 gP A0_0 l0_0.length c0_0 (some ad) l1.length c1 P') ∧ Hid (wr.heap[b7]? = some (.cells #[.int .i64 f0, .bool f1, .slice Ak m ck] 46 (0, 0))))
                  case atStart => exact ⟨-1, 0, P, rfl, rfl, HH, Lib.hid (Nat.le_refl _), J8, P8⟩
                  case round =>
                    clear HH J8 P8
                    obtain ⟨last, j, P', rfl, rfl, HA, HK2, JR, PR⟩ := hrel
                    cases gk with
                    | zero => exact absurd HA.out (by simp [wordlist_CheckTree.n0])
                    | succ k2 =>
                      have H := HA.out
                      clear HA
                      rw [wordlist_CheckTree.n0, HM.out] at H
                      by_cases e1 : j < (m : Int)
                      · rw [if_pos e1] at H
                        by_cases e2 : 0 ≤ j
                        · rw [if_pos e2] at H
                          obtain ⟨ak, rfl, hk0⟩ := Kd.at_int (Kd.C_below HI.out JR.out.2.2.2.2) j e2 (by rw [HM.out]; exact e1)
                          obtain ⟨n, hn⟩ : ∃ n, rd (rd_T46 l1 i).f2 j = n := ⟨_, rfl⟩
                          rw [hn] at hk0 H
                          have b1 : decide (j < (m : Int)) = true := decide_eq_true e1
                          have q0 := eq_true e1
                          have q1 := eq_true e2
                          have hc3 := (blk_cell JR.out.2.1 0).trans (show _ = some (Value.slice (some ad) l1.length c1) from rfl)
                          have E2 := Lib.hid e2
                          clear hn e1 e2
                          by_cases r1 : n ≤ i
                          · rw [if_pos r1] at H
                            obtain rfl := Option.some.inj H
                            have b2' : decide (n ≤ i) = true := decide_eq_true r1
                            go_wp2_with (fail)
                            go_ret
                            exact ⟨rfl, JR.out.2.2.2.2⟩
                          · rw [if_neg r1] at H
                            have b2' : decide (n ≤ i) = false := decide_eq_false r1
                            by_cases r2 : n ≥ (l1.length : Int)
                            · rw [if_pos r2] at H
                              obtain rfl := Option.some.inj H
                              have b3' : decide (n ≥ (l1.length : Int)) = true := decide_eq_true r2
                              have b4' : decide ((l1.length : Int) ≤ n) = true := decide_eq_true r2
                              go_wp2_with (fail)
                              go_ret
                              exact ⟨rfl, JR.out.2.2.2.2⟩
                            · rw [if_neg r2] at H
                              have b3' : decide (n ≥ (l1.length : Int)) = false := decide_eq_false r2
                              have b4' : decide ((l1.length : Int) ≤ n) = false := decide_eq_false r2
                              have n0 : 0 ≤ n := by have := G2.out; omega
                              have n1 : n < (l1.length : Int) := by omega
                              obtain ⟨ad', _, _, e, hz0, _, _, _, _⟩ := at_T46 HR1.out n n0 n1
                              obtain rfl := Option.some.inj e
                              have hy0 := wordlist_CheckTree.up JR.out.2.2.2.2 hz0
                              obtain ⟨f, hf⟩ : ∃ f, (rd_T46 l1 n).f0 = f := ⟨_, rfl⟩
                              rw [hf] at hy0 H
                              have q2 := eq_true n0
                              have q3 := eq_true n1
                              have N0 := Lib.hid n0; have N1 := Lib.hid n1
                              clear hz0 hf r1 r2 n0 n1
                              by_cases s1 : f ≤ last
                              · rw [if_pos s1] at H
                                obtain rfl := Option.some.inj H
                                have b5' : decide (f ≤ last) = true := decide_eq_true s1
                                go_wp2_with (fail)
                                go_ret
                                exact ⟨rfl, JR.out.2.2.2.2⟩
                              · rw [if_neg s1] at H
                                have b5' : decide (f ≤ last) = false := decide_eq_false s1
                                by_cases s2 : f < 0
                                · rw [if_pos s2] at H
                                  obtain rfl := Option.some.inj H
                                  have b6' : decide (f < 0) = true := decide_eq_true s2
                                  go_wp2_with (fail)
                                  go_ret
                                  exact ⟨rfl, JR.out.2.2.2.2⟩
                                · rw [if_neg s2] at H
                                  have b6' : decide (f < 0) = false := decide_eq_false s2
                                  by_cases s3 : f > 255
                                  · rw [if_pos s3] at H
                                    obtain rfl := Option.some.inj H
                                    have b7' : decide (f > 255) = true := decide_eq_true s3
                                    have b8' : decide (255 < f) = true := decide_eq_true s3
                                    go_wp2_with (fail)
                                    go_ret
                                    exact ⟨rfl, JR.out.2.2.2.2⟩
                                  · rw [if_neg s3] at H
                                    have b7' : decide (f > 255) = false := decide_eq_false s3
                                    have b8' : decide (255 < f) = false := decide_eq_false s3
                                    obtain ⟨tl, ht, H2⟩ := Option.bind_eq_some_iff.1 H
                                    have HT := Lib.hid ht; have HH := Lib.hid H2
                                    have hu8 : IntKind.u8.wrap f = f := by unfold IntKind.wrap; first | (simp [IntKind.bits, IntKind.signed]; done) | (simp [IntKind.bits, IntKind.signed]; omega)
                                    clear H H2 ht s1 s2 s3
                                    go_wp2_with (fail)
                                    refine (wordlist_letter.calls k2 f tl _ HT.out).mono ?_
                                    rintro e w9 ⟨rfl, hb⟩
                                    have J9 := Lib.hid (JR.out.below hb)
                                    have P9 := Lib.hid (blk_below PR.out hb)
                                    clear hb JR PR HT hc3 hy0 hk0
                                    cases tl with
                                    | false =>
                                      have h := HH.out
                                      rw [if_neg Bool.false_ne_true] at h
                                      obtain rfl := Option.some.inj h
                                      go_wp2_with (fail)
                                      go_ret
                                      exact ⟨rfl, J9.out.2.2.2.2⟩
                                    | true =>
                                      have h := HH.out
                                      rw [if_pos rfl] at h
                                      have H3 := Lib.hid h
                                      clear h HH
                                      have hp := J9.out.at_ n N0.out N1.out
                                      have hpf := blk_frozen J9.out.2.2.1 n.toNat
                                      obtain ⟨x, hx⟩ : ∃ x, rd P' n = x := ⟨_, rfl⟩
                                      rw [hx] at hp
                                      have HX := Lib.hid hx
                                      clear hx
                                      go_wp2_with (fail)
                                      have H4 := H3.out
                                      rw [HX.out] at H4
                                      go_roundg k2
                                      case measure => omega
                                      case rel => exact ⟨f, wrap64 (j + 1), P'.set n.toNat (wrap64 (x + 1)), rfl, rfl, Lib.hid H4, Lib.hid (by have := HK2.out; omega), Lib.hid (J9.out.put NP.out.1 NP.out.2.1 NP.out.2.2.1 n.toNat (wrap64 (x + 1))), Lib.hid (blk_far P9.out (p := ⟨gP, n.toNat, none⟩) (Ne.symm N7.out.2.2.1) _)⟩
                        · rw [if_neg e2] at H; cases H
                      · rw [if_neg e1] at H
                        have b1 : decide (j < (m : Int)) = false := decide_eq_false e1
                        clear e1
                        have hc71 := (blk_cell PR.out 1).trans (show _ = some (Value.bool f1) from rfl)
                        have hc72 := (blk_cell PR.out 2).trans (show _ = some (Value.slice Ak m ck) from rfl)
                        rw [HF1.out] at H
                        have HKK := Lib.hid (show k2 ≤ k1 from by have := HK2.out; omega)
                        by_cases r1 : i > 0
                        · rw [if_pos r1] at H
                          have b2' : decide (i > 0) = true := decide_eq_true r1
                          have b3' : decide (0 < i) = true := decide_eq_true r1
                          by_cases r2 : (m : Int) = 0
                          · rw [if_pos r2] at H
                            have b4' : ((m : Int) == 0) = true := beq_iff_eq.2 r2
                            clear r2
                            cases f1 with
                            | true =>
                              rw [if_pos rfl] at H
                              replace H := wordlist_CheckTree.more (Nat.le_trans HKK.out (Nat.le_refl _)) H
                              go_wp2_with (fail)
                              go_roundg k1
                              case measure => omega
                              case rel => exact ⟨wrap64 (i + 1), P', rfl, Lib.hid H, Lib.hid (by have := HK.out; have := HK2.out; omega), JR⟩
                            | false =>
                              rw [if_neg Bool.false_ne_true] at H
                              obtain rfl := Option.some.inj H
                              go_wp2_with (fail)
                              go_ret
                              exact ⟨rfl, JR.out.2.2.2.2⟩
                          · rw [if_neg r2] at H
                            have b4' : ((m : Int) == 0) = false := beq_eq_false_iff_ne.2 r2
                            clear r2
                            replace H := wordlist_CheckTree.more (Nat.le_trans HKK.out (Nat.le_refl _)) H
                            go_wp2_with (fail)
                            go_roundg k1
                            case measure => omega
                            case rel => exact ⟨wrap64 (i + 1), P', rfl, Lib.hid H, Lib.hid (by have := HK.out; have := HK2.out; omega), JR⟩
                        · rw [if_neg r1] at H
                          have b2' : decide (i > 0) = false := decide_eq_false r1
                          have b3' : decide (0 < i) = false := decide_eq_false r1
                          replace H := wordlist_CheckTree.more (Nat.le_trans HKK.out (Nat.le_refl _)) H
                          go_wp2_with (fail)
                          go_roundg k1
                          case measure => omega
                          case rel => exact ⟨wrap64 (i + 1), P', rfl, Lib.hid H, Lib.hid (by have := HK.out; have := HK2.out; omega), JR⟩
                · rw [if_neg g2] at H; cases H
              · rw [if_neg g1] at H
                have HH := Lib.hid H
                have b1 : decide (i < (l1.length : Int)) = false := decide_eq_false g1
                clear H g1
                have hP := JR.out.2.2.2.1
                have hC := JR.out.row (by have := L3.out; omega)
                obtain ⟨i9, hi9, _, hs9, _⟩ := info_parts info3
                obtain ⟨AD, hrun, hrd, hcd⟩ := print_drop_of (P := Try.prog) (Value.int .i64) (0 : Int) 44 3 .i64 Try.underlying44 hi9 hs9 (some ⟨gP, 0, none⟩) l1.length P 1 (by decide) (by have := L1.out; omega) (Nat.le_of_eq hP)
                rw [hP] at hrun
                have HD := Lib.hid (show (Kd.int .i64).C wr AD (P.drop 1).length (P.drop 1) from Kd.C_of_reads (enc := Value.int .i64) (d := (0 : Int)) (h1 := fun _ => rfl) (hrd wr (Kd.reads_of_C (enc := Value.int .i64) (d := (0 : Int)) (h1 := fun _ => rfl) hC)))
                have HQ := HH.out
                clear HH hrd hcd hC hP
                have hrun1 : ∀ W : World, (Instr.slice 44 (.slice (some ⟨gP, 0, none⟩) l1.length l1.length) (some (.int .i64 1)) none none).run Try.prog W = .ok (.slice AD (P.drop 1).length (l1.length - 1)) W := hrun
                clear hrun
                generalize P.drop 1 = D at HD HQ hrun1
                have HH := Lib.hid HQ
                clear HQ
                obtain ⟨d, hd⟩ : ∃ d, D.length = d := ⟨_, rfl⟩
                have HDL := Lib.hid hd
                rw [hd] at hrun1
                clear hd
                go_wp2_with (fail)
                go_loopg [104] k1 (fun kq v104 wq => ∃ (j : Int), v104 = .int .i64 j ∧ Hid (wordlist_CheckTree.p0 kq l0_0 l1 D j = some r) ∧ Hid (kq ≤ k1) ∧ wq = wr)
                case atStart => exact ⟨0, rfl, HH, Lib.hid (Nat.le_refl _), rfl⟩
                case round =>
                  clear HH hrun1
                  obtain ⟨j, rfl, HA, HK2, rfl⟩ := hrel
                  cases gk with
                  | zero => exact absurd HA.out (by simp [wordlist_CheckTree.p0])
                  | succ k2 =>
                    have H := HA.out
                    clear HA
                    rw [wordlist_CheckTree.p0, HDL.out] at H
                    by_cases e1 : j < (d : Int)
                    · rw [if_pos e1] at H
                      by_cases e2 : 0 ≤ j
                      · rw [if_pos e2] at H
                        obtain ⟨ak, rfl, hk0⟩ := Kd.at_int HD.out j e2 (by rw [HDL.out]; exact e1)
                        obtain ⟨n, hn⟩ : ∃ n, rd D j = n := ⟨_, rfl⟩
                        rw [hn] at hk0 H
                        have b1' : decide (j < (d : Int)) = true := decide_eq_true e1
                        have q0 := eq_true e1
                        have q1 := eq_true e2
                        clear hn e1 e2
                        by_cases e3 : n = 1
                        · rw [if_pos e3] at H
                          have HH := Lib.hid H
                          have b2' : (n != 1) = false := by rw [e3]; rfl
                          have b3' : (n == 1) = true := beq_iff_eq.2 e3
                          clear H e3
                          go_wp2_with (fail)
                          go_roundg k2
                          case measure => omega
                          case rel => exact ⟨wrap64 (j + 1), rfl, HH, Lib.hid (by have := HK2.out; omega), rfl⟩
                        · rw [if_neg e3] at H
                          obtain rfl := Option.some.inj H
                          have b2' : (n != 1) = true := by simp [e3]
                          have b3' : (n == 1) = false := beq_eq_false_iff_ne.2 e3
                          clear H e3
                          go_wp2_with (fail)
                          go_ret
                          exact ⟨rfl, JR.out.2.2.2.2⟩
                      · rw [if_neg e2] at H; cases H
                    · rw [if_neg e1] at H
                      have b1' : decide (j < (d : Int)) = false := decide_eq_false e1
                      unfold wordlist_CheckTree.fin at H
                      obtain ⟨W, hw, H2⟩ := Option.bind_eq_some_iff.1 H
                      have HW := Lib.hid hw; have HE := Lib.hid H2
                      clear H hw H2 e1
                      have NB := Lib.hid (show b2 < wr.heap.size ∧ b3 < wr.heap.size from ⟨blk_lt JR.out.1, blk_lt JR.out.2.1⟩)
                      go_wp2_with (first | ((with_reducible refine gate_dst (N := 14) rfl ?_); (try (refine gate_guard (by rfl) ?_; dsimp only)); refine box_event ?hg (N := 14) ?hd (cs := #[.slice none 0 0]) (t := 24) ?hr ?_; (case hd => rfl); (case hg => rfl); (case hr => first | (go_simp; done) | (go_simp; rfl)); intro b14 hb14 wA hbox hbb; have PA := Lib.hid hbox; have JA := Lib.hid (JR.out.below hbb); have NA := Lib.hid (show b2 < b14 ∧ b3 < b14 ∧ w.heap.size ≤ b14 from by have := NB.out; have := JR.out.2.2.2.2.size; omega); clear hb14 hbox hbb) | ((with_reducible refine gate_dst (N := 15) rfl ?_); (try (refine gate_guard (by rfl) ?_; dsimp only)); refine box_event ?hg (N := 15) ?hd (cs := #[.nilFunc]) (t := 62) ?hr ?_; (case hd => rfl); (case hg => rfl); (case hr => first | (go_simp; done) | (go_simp; rfl)); intro b15 hb15 wB hbox hbb; have PF := Lib.hid hbox; have PB := Lib.hid (blk_below PA.out hbb); have JB := Lib.hid (JA.out.below hbb); have NF := Lib.hid (show b2 < b14 ∧ b3 < b14 ∧ w.heap.size ≤ b14 ∧ b14 < b15 from by have := NA.out; have := blk_lt PA.out; omega); clear hb15 hbox hbb PA JA NA; have hcf := (blk_cell PF.out 0).trans (show _ = some Value.nilFunc from rfl); have hff := blk_frozen PF.out 0))
                      rw [run_store _ _ _ _ _ rfl, hcf]
                      simp only [hff, Bool.false_eq_true, ↓reduceIte]
                      go_wp2_with (fail)
                      have I1 := Lib.hid (show wordlist_CheckTree.I w (wB.setCell ⟨b15, 0, none⟩ (.func (.func 41) #[] #[.pointer (some ⟨b3, 0, none⟩), .pointer (some ⟨b14, 0, none⟩), .pointer (some ⟨b15, 0, none⟩)])) (some ad) c1 b2 A0_0 l0_0.length c0_0 b3 b14 b15 l1 [] from ⟨blk_far JB.out.2.1 (p := ⟨b15, 0, none⟩) (by have := NF.out; show b3 ≠ b15; omega) _, blk_put PF.out 0 _ rfl, below_set JB.out.2.2.2.2 (by have := NF.out; omega), .slice none 0 0, blk_far PB.out (p := ⟨b15, 0, none⟩) (by have := NF.out; show b14 ≠ b15; omega) _, Kd.R_nil _ _ _ _ _, blk_far JB.out.1 (p := ⟨b15, 0, none⟩) (by have := NF.out; show b2 ≠ b15; omega) _⟩)
                      refine (wordlist_CheckTree.walk k2 l1 0 ⟨#[]⟩ [] W (some ad) c1 b2 A0_0 l0_0.length c0_0 b3 b14 b15 w _ HR1.out HC1.out (by have := NF.out; have := N3.out; omega) I1.out HW.out).mono ?_
                      rintro e w13 ⟨rfl, i13⟩
                      obtain ⟨m3, mF, mB, v, mW, mR, m2⟩ := i13
                      obtain ⟨AW, cW, rfl⟩ := Kd.R_slice mR
                      have MB := Lib.hid mB; have MR := Lib.hid (Kd.R_reads' mR)
                      have hd14 := (blk_cell mW 0).trans (show _ = some (Value.slice AW W.length cW) from rfl)
                      have hd2 := (blk_cell m2 0).trans (show _ = some (Value.slice A0_0 l0_0.length c0_0) from rfl)
                      clear m3 mF mB mW mR m2 I1 hcf hff PF PB JB JR
                      go_wp2_with (fail)
                      refine (slices_Equal_string_string.calls k2 AW cW W A0_0 c0_0 l0_0 r _ MR.out.2.2 MR.out.2.1 (Kd.C_below HR0.out MB.out) HC0.out HE.out).mono ?_
                      rintro e w14 ⟨rfl, nd, rfl⟩
                      have MD := Lib.hid (pw_below_drewN MB.out nd)
                      clear hd14 hd2
                      go_wp2_with (fail)
                      go_ret
                      exact ⟨rfl, MD.out⟩
        · rw [if_neg d3] at h1; cases h1
      · rw [if_neg d2] at h1
        obtain rfl := Option.some.inj h1
        have z2 : ((rd_T46 l1 0).f0 != 0) = true := by simp [d2]
        have z3 : ((rd_T46 l1 0).f0 == 0) = false := beq_eq_false_iff_ne.2 d2
        go_wp2_with (fail)
        go_ret
        exact ⟨rfl, B4.out⟩
  · rw [if_neg d0] at h1
    obtain rfl := Option.some.inj h1
    have z0 : (e0 != 0) = true := by simp [d0]
    have z0' : (e0 == 0) = false := beq_eq_false_iff_ne.2 d0
    go_wp2_with (fail)
    go_ret
    exact ⟨rfl, B4.out⟩

end Go.Proofs.Ytdaooagikacboaa.X
