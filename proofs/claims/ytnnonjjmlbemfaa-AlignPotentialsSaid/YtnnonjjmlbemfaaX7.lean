-- printed by this session's xprint.py: out of the translation, by the kit's print with additions; Lean checks it
import Derived.Test.YtnnonjjmlbemfaaBld
import Derived.Test.YtnnonjjmlbemfaaWShare
import Derived.Test.YtnnonjjmlbemfaaWRepsOne
import Derived.Test.YtnnonjjmlbemfaaWEqStruct
import Derived.Test.YtnnonjjmlbemfaaX0
import Derived.Test.YtnnonjjmlbemfaaX3
namespace Go.Proofs.Ytnnonjjmlbemfaa.X
open Go.RowKit Go.Proofs.YtnnonjjmlbemfaaW.PrintWords Go.Proofs.YtnnonjjmlbemfaaW.PrintLast Go.Proofs.YtnnonjjmlbemfaaW.PrintMore
attribute [local go_sem] max2_int min2_int max_two min_two max_three min_three max_four min_four isSome_setCell binOp_gtr_str binOp_leq_str   -- for this text's walks alone
set_option linter.unusedVariables false
set_option linter.unusedSimpArgs false

/-! ### align_Text: function 24 -/
-- align_each: three builders side by side, and what the closure of align.Text writes 
/-- Three builders apart from each other. -/
structure align_each.T3 (W : World) (b1 b2 b3 : Nat) (r1 r2 r3 : Option Nat) (l1 l2 l3 : List UInt8) : Prop where
  h1 : Bld.Bd W b1 r1 l1
  h2 : Bld.Bd W b2 r2 l2
  h3 : Bld.Bd W b3 r3 l3
  d12 : b1 ≠ b2
  d13 : b1 ≠ b3
  d23 : b2 ≠ b3
  r1b : ∀ k, r1 = some k → k ≠ b2 ∧ k ≠ b3
  r2b : ∀ k, r2 = some k → k ≠ b1 ∧ k ≠ b3
  r3b : ∀ k, r3 = some k → k ≠ b1 ∧ k ≠ b2
  r12 : ∀ k, r1 = some k → r2 ≠ some k
  r13 : ∀ k, r1 = some k → r3 ≠ some k
  r23 : ∀ k, r2 = some k → r3 ≠ some k
theorem align_each.T3.rot {W : World} {b1 b2 b3 : Nat} {r1 r2 r3 : Option Nat} {l1 l2 l3 : List UInt8} (h : align_each.T3 W b1 b2 b3 r1 r2 r3 l1 l2 l3) : align_each.T3 W b2 b3 b1 r2 r3 r1 l2 l3 l1 :=
  ⟨h.h2, h.h3, h.h1, h.d23, h.d12.symm, h.d13.symm, fun k hk => ⟨(h.r2b k hk).2, (h.r2b k hk).1⟩, fun k hk => ⟨(h.r3b k hk).2, (h.r3b k hk).1⟩, h.r1b, h.r23, fun k hk e => h.r12 k e hk, fun k hk e => h.r13 k e hk⟩
/-- A write to the first one. -/
theorem align_each.T3.wrote {W W' : World} {b1 b2 b3 : Nat} {r1 r2 r3 : Option Nat} {l1 l2 l3 l : List UInt8} (h : align_each.T3 W b1 b2 b3 r1 r2 r3 l1 l2 l3) (hw : Bld.Wrote W b1 r1 l W') :
    ∃ r, align_each.T3 W' b1 b2 b3 r r2 r3 l l2 l3 ∧ (r = r1 ∨ ∃ k, r = some k ∧ W.heap.size ≤ k) ∧ Bld.Fr (fun k => k = b1 ∨ some k = r1) W W' := by
  obtain ⟨r, hb, hr, hf⟩ := hw
  have q2 := Bld.Bd.lt h.h2
  have q3 := Bld.Bd.lt h.h3
  have k2 : Bld.Bd W' b2 r2 l2 := h.h2.fr hf (by rintro (e | e); exact h.d12 e.symm; exact (h.r1b b2 e.symm).1 rfl) (fun k hk => by rintro (e | e); exact (h.r2b k hk).1 e; exact h.r12 k e.symm hk)
  have k3 : Bld.Bd W' b3 r3 l3 := h.h3.fr hf (by rintro (e | e); exact h.d13 e.symm; exact (h.r1b b3 e.symm).2 rfl) (fun k hk => by rintro (e | e); exact (h.r3b k hk).1 e; exact h.r13 k e.symm hk)
  refine ⟨r, ⟨hb, k2, k3, h.d12, h.d13, h.d23, fun k hk => ?_, h.r2b, h.r3b, fun k hk e => ?_, fun k hk e => ?_, h.r23⟩, hr, hf⟩
  · rcases hr with rfl | ⟨g, hg, hle⟩
    · exact h.r1b k hk
    · rw [hk] at hg; injection hg with hg; omega
  · rcases hr with rfl | ⟨g, hg, hle⟩
    · exact h.r12 k hk e
    · rw [hk] at hg; injection hg with hg
      have := q2.2 k e; omega
  · rcases hr with rfl | ⟨g, hg, hle⟩
    · exact h.r13 k hk e
    · rw [hk] at hg; injection hg with hg
      have := q3.2 k e; omega
/-- what a round may write -/
def align_each.SS (b1 b2 b3 : Nat) (r1 r2 r3 : Option Nat) (k : Nat) : Prop := k = b1 ∨ k = b2 ∨ k = b3 ∨ some k = r1 ∨ some k = r2 ∨ some k = r3
theorem align_each.T3.fr {W W' : World} {b1 b2 b3 : Nat} {r1 r2 r3 : Option Nat} {l1 l2 l3 : List UInt8} (h : align_each.T3 W b1 b2 b3 r1 r2 r3 l1 l2 l3) (hf : Bld.Fr (fun _ => False) W W') : align_each.T3 W' b1 b2 b3 r1 r2 r3 l1 l2 l3 :=
  ⟨h.h1.fr hf (fun h => h) (fun _ _ h => h), h.h2.fr hf (fun h => h) (fun _ _ h => h), h.h3.fr hf (fun h => h) (fun _ _ h => h), h.d12, h.d13, h.d23, h.r1b, h.r2b, h.r3b, h.r12, h.r13, h.r23⟩
set_option maxHeartbeats 4000000 in
set_option maxRecDepth 100000 in
/-- a pair of single signs -/
theorem align_each.match_ (W : World) (bp bq bl bm br : Nat) (rl rm rr : Option Nat) (L M R : List UInt8) (p q a b : ByteArray) (i i' j j' : Nat) (x y : Int) (t : Bool)
    (hp : W.heap[bp]? = some (.cells #[.string p] 9 (0, 0))) (hq : W.heap[bq]? = some (.cells #[.string q] 9 (0, 0))) (h3 : align_each.T3 W bl bm br rl rm rr L M R)
    (g1 : i ≤ i') (g2 : j ≤ j') (hi : i' ≤ p.size) (hj : j' ≤ q.size) (hps : p.size ≤ 40) (hqs : q.size ≤ 40) (ha : p.extract i i' = a) (has : a.size = 1) (hbs : b.size = 1) (hb : q.extract j j' = b)
    (hx : ∀ h : 0 < a.size, ((a[0]'h).toNat : Int) = x) (hy : ∀ h : 0 < b.size, ((b[0]'h).toNat : Int) = y) (ht : align_agree.f x y = some t)
    (hL : L.length ≤ 1000) (hM : M.length ≤ 1000) (hR : R.length ≤ 1000)
    (B : Nat) (hBW : B ≤ W.heap.size) (hBl : B ≤ bl) (hBm : B ≤ bm) (hBr : B ≤ br) (hrl : ∀ k, rl = some k → B ≤ k) (hrm : ∀ k, rm = some k → B ≤ k) (hrr : ∀ k, rr = some k → B ≤ k) :
    Calls Try.prog 48 #[.agg #[.int .i64 i, .int .i64 j], .agg #[.int .i64 i', .int .i64 j'], .int .i64 0, .pointer (some ⟨bp, 0, none⟩), .pointer (some ⟨bq, 0, none⟩), .pointer (some ⟨bl, 0, none⟩), .pointer (some ⟨br, 0, none⟩), .pointer (some ⟨bm, 0, none⟩)] W fun e w' =>
      e = .returned (.tuple #[]) ∧ ∃ rl' rm' rr', align_each.T3 w' bl bm br rl' rm' rr' (L ++ a.data.toList) (M ++ [if t = true then 61 else 33]) (R ++ b.data.toList) ∧ (rl' = rl ∨ ∃ k, rl' = some k ∧ W.heap.size ≤ k) ∧ (rm' = rm ∨ ∃ k, rm' = some k ∧ W.heap.size ≤ k) ∧ (rr' = rr ∨ ∃ k, rr' = some k ∧ W.heap.size ≤ k) ∧ Below B W w' ∧ Bld.Fr (align_each.SS bl bm br rl rm rr) W w' := by
  have HX := Lib.hid hx; have HY := Lib.hid hy; have H3 := Lib.hid h3
  clear h3
  go_enter Try.func48, Try.ntmps48
  go_wp2
  have hs1 : (W.alloc (.cells #[Value.int IntKind.i64 (i : Int), Value.int IntKind.i64 (j : Int)] 60)).heap.size = W.heap.size + 1 := by simp
  have hfr : Bld.Fr (fun _ => False) W ((W.alloc (.cells #[Value.int IntKind.i64 (i : Int), Value.int IntKind.i64 (j : Int)] 60)).alloc (.cells #[Value.int IntKind.i64 (i' : Int), Value.int IntKind.i64 (j' : Int)] 60)) := ((Bld.Fr.refl _ W).alloc _).alloc _
  have k8 : ((W.alloc (.cells #[Value.int IntKind.i64 (i : Int), Value.int IntKind.i64 (j : Int)] 60)).alloc (.cells #[Value.int IntKind.i64 (i' : Int), Value.int IntKind.i64 (j' : Int)] 60)).heap[W.heap.size]? = some (.cells #[.int .i64 i, .int .i64 j] 60 (0, 0)) := (Lib.alloc_old _ _ _ (by rw [hs1]; omega)).trans (heap_alloc_new W _)
  have k9 : ((W.alloc (.cells #[Value.int IntKind.i64 (i : Int), Value.int IntKind.i64 (j : Int)] 60)).alloc (.cells #[Value.int IntKind.i64 (i' : Int), Value.int IntKind.i64 (j' : Int)] 60)).heap[W.heap.size + 1]? = some (.cells #[.int .i64 i', .int .i64 j'] 60 (0, 0)) := by
    have := heap_alloc_new (W.alloc (.cells #[Value.int IntKind.i64 (i : Int), Value.int IntKind.i64 (j : Int)] 60)) (.cells #[Value.int IntKind.i64 (i' : Int), Value.int IntKind.i64 (j' : Int)] 60)
    rw [hs1] at this
    exact this
  generalize ((W.alloc (.cells #[Value.int IntKind.i64 (i : Int), Value.int IntKind.i64 (j : Int)] 60)).alloc (.cells #[Value.int IntKind.i64 (i' : Int), Value.int IntKind.i64 (j' : Int)] 60)) = W2 at hfr k8 k9 ⊢
  have kp := hfr.heap hp (fun h => h)
  have kq := hfr.heap hq (fun h => h)
  have cp : W2.cell? ⟨bp, 0, none⟩ = some (.string p) := by rw [Lib.cell_of_heap kp]; rfl
  have cq : W2.cell? ⟨bq, 0, none⟩ = some (.string q) := by rw [Lib.cell_of_heap kq]; rfl
  have c80 : W2.cell? ⟨W.heap.size, 0, none⟩ = some (.int .i64 i) := by rw [Lib.cell_of_heap k8]; rfl
  have c81 : W2.cell? ⟨W.heap.size, 1, none⟩ = some (.int .i64 j) := by rw [Lib.cell_of_heap k8]; rfl
  have c90 : W2.cell? ⟨W.heap.size + 1, 0, none⟩ = some (.int .i64 i') := by rw [Lib.cell_of_heap k9]; rfl
  have c91 : W2.cell? ⟨W.heap.size + 1, 1, none⟩ = some (.int .i64 j') := by rw [Lib.cell_of_heap k9]; rfl
  have HF := Lib.hid hfr; have HP := Lib.hid hp; have HQ := Lib.hid hq
  have g3 : (i : Int) ≤ i' := by omega
  have g4 : (j : Int) ≤ j' := by omega
  have g5 : (i' : Int) ≤ p.size := by omega
  have g6 : (j' : Int) ≤ q.size := by omega
  clear hfr hp hq k8 k9 kp kq
  have hrep : ∀ W : World, Calls Try.prog 50 #[.string ⟨#[32]⟩, .int .i64 0] W fun e w' => e = .returned (.string ⟨#[]⟩) ∧ Below W.heap.size W w' := fun W => Try.strings_Repeat ⟨#[32]⟩ 0 W (by omega) (by omega)
  have hae : a ++ (⟨#[]⟩ : ByteArray) = a := by apply ByteArray.ext; rw [ByteArray.data_append]; simp
  have hbe : b ++ (⟨#[]⟩ : ByteArray) = b := by apply ByteArray.ext; rw [ByteArray.data_append]; simp
  have hal : a.data.toList.length = 1 := by have : a.data.toList.length = a.size := by simp
                                            omega
  have hbl : b.data.toList.length = 1 := by have : b.data.toList.length = b.size := by simp
                                            omega
  have HAL := Lib.hid hal; have HBL := Lib.hid hbl
  clear hx hy hal hbl
  go_quiet (fail)
  go_wp2_with (go_at_call 50; refine (hrep _).mono ?_)
  (first | rintro e w1 rfl hw1 | rintro e w1 ⟨rfl, hw1⟩)
  go_wp2_with (fail)
  have f1 := (HF.out.drewN nq).trans (Bld.Fr.of_below hw1 (fun _ => False)) (fun _ h => h.elim)
  have e1 : Below B W w1 := f1.below hBW (fun _ h => h.elim)
  have t1 := H3.out.fr f1
  have s1 : B ≤ w1.heap.size := Nat.le_trans hBW f1.size
  refine (Bld.writeString w1 bl rl L a t1.h1 (by omega)).mono ?_
  (first | rintro e w2 rfl hw2 | rintro e w2 ⟨rfl, hw2⟩)
  obtain ⟨rl', t2, hr2, hf2⟩ := t1.wrote hw2
  obtain ⟨gl, c2⟩ := Bld.carry hBl hrl s1 hr2 hf2
  have NL : Hid (rl' = rl ∨ ∃ k, rl' = some k ∧ W.heap.size ≤ k) := Lib.hid (hr2.imp_right (fun ⟨k, e, h⟩ => ⟨k, e, Nat.le_trans f1.size h⟩)); have H2 := Lib.hid t2; have E2 := Lib.hid (e1.trans c2); have S2 := Lib.hid (Nat.le_trans s1 hf2.size); have GL := Lib.hid gl
  have FF2 := Lib.hid ((Bld.Fr.mono f1 (S2 := align_each.SS bl bm br rl rm rr) (fun _ h => h.elim)).trans hf2 (fun i h => .inl (h.elim (fun h => .inl h) (fun h => .inr (.inr (.inr (.inl h)))))))
  clear t1 t2 hw2 f1 e1 s1 hr2 hf2 gl c2
  go_wp2_with (go_at_call 50; refine (hrep _).mono ?_)
  (first | rintro e w3 rfl hw3 | rintro e w3 ⟨rfl, hw3⟩)
  go_wp2_with (fail)
  have f3 := Bld.Fr.of_below hw3 (fun _ => False)
  have e3 : Below B W w3 := E2.out.trans (f3.below S2.out (fun _ h => h.elim))
  have t3 := (H2.out.fr f3).rot.rot
  have s3 : B ≤ w3.heap.size := Nat.le_trans S2.out f3.size
  refine (Bld.writeString w3 br rr R b t3.h1 (by omega)).mono ?_
  (first | rintro e w4 rfl hw4 | rintro e w4 ⟨rfl, hw4⟩)
  obtain ⟨rr', t4, hr4, hf4⟩ := t3.wrote hw4
  obtain ⟨gr, c4⟩ := Bld.carry hBr hrr s3 hr4 hf4
  have NR : Hid (rr' = rr ∨ ∃ k, rr' = some k ∧ W.heap.size ≤ k) := Lib.hid (hr4.imp_right (fun ⟨k, e, h⟩ => ⟨k, e, Nat.le_trans (Nat.le_trans FF2.out.size f3.size) h⟩)); have H4 := Lib.hid t4.rot.rot; have E4 := Lib.hid (e3.trans c4); have S4 := Lib.hid (Nat.le_trans s3 hf4.size); have GR := Lib.hid gr
  have FF4 := Lib.hid ((FF2.out.trans f3 (fun _ h => h.elim)).trans hf4 (fun i h => .inl (h.elim (fun h => .inr (.inr (.inl h))) (fun h => .inr (.inr (.inr (.inr (.inr h))))))))
  clear t3 t4 hw4 f3 e3 s3 hr4 hf4 gr c4 hrep hae hbe
  have hx0 : ((a[0]'(by omega)).toNat : Int) = x := HX.out (by omega)
  have hy0 : ((b[0]'(by omega)).toNat : Int) = y := HY.out (by omega)
  have ha0 : 0 < a.size := by omega
  have hb0 : 0 < b.size := by omega
  cases t with
  | true =>
    go_wp2_with (fail)
    go_quiet (first | (go_at_call 51; (with_reducible refine (align_agree.calls x y true _ ht).mono ?_); rintro e w' ⟨rfl, ⟨nd, rfl⟩⟩; (try first | exact ⟨rfl, _, World.drewN_drewN _ _ _⟩ | exact ⟨rfl, _, Eq.trans (World.drewN_drewN _ _ _) (congrArg (World.drewN _) (Nat.add_assoc _ _ _))⟩)))
    go_wp2_with (fail)
    have f5 := (Bld.Fr.refl (fun _ => False) w4).drewN nq
    have t5 := H4.out.fr f5
    have e5 : Below B W (w4.drewN nq) := E4.out.trans (f5.below S4.out (fun _ h => h.elim))
    refine (Bld.writeString _ bm rm M ⟨#[61]⟩ t5.h1 (by show _ + 1 ≤ _; omega)).mono ?_
    (first | rintro e w5 rfl hw5 | rintro e w5 ⟨rfl, hw5⟩)
    obtain ⟨rm', t6, hr6, hf6⟩ := t5.wrote hw5
    obtain ⟨gm, c6⟩ := Bld.carry hBm hrm (Nat.le_trans S4.out f5.size) hr6 hf6
    have NM : Hid (rm' = rm ∨ ∃ k, rm' = some k ∧ W.heap.size ≤ k) := Lib.hid (hr6.imp_right (fun ⟨k, e, h⟩ => ⟨k, e, Nat.le_trans (Nat.le_trans FF4.out.size f5.size) h⟩)); have H6 := Lib.hid t6; have E6 := Lib.hid (e5.trans c6); have GM := Lib.hid gm
    have FF6 := Lib.hid ((FF4.out.trans f5 (fun _ h => h.elim)).trans hf6 (fun i h => .inl (h.elim (fun h => .inr (.inl h)) (fun h => .inr (.inr (.inr (.inr (.inl h))))))))
    clear f5 t5 e5 t6 hr6 hf6 gm c6 hw5
    go_wp2
    go_end0
    exact ⟨rfl, rl', rm', rr', H6.out.rot.rot, NL.out, NM.out, NR.out, E6.out, FF6.out⟩
  | false =>
    go_wp2_with (fail)
    go_quiet (first | (go_at_call 51; (with_reducible refine (align_agree.calls x y false _ ht).mono ?_); rintro e w' ⟨rfl, ⟨nd, rfl⟩⟩; (try first | exact ⟨rfl, _, World.drewN_drewN _ _ _⟩ | exact ⟨rfl, _, Eq.trans (World.drewN_drewN _ _ _) (congrArg (World.drewN _) (Nat.add_assoc _ _ _))⟩)))
    go_wp2_with (fail)
    have f5 := (Bld.Fr.refl (fun _ => False) w4).drewN nq
    have t5 := H4.out.fr f5
    have e5 : Below B W (w4.drewN nq) := E4.out.trans (f5.below S4.out (fun _ h => h.elim))
    refine (Bld.writeString _ bm rm M ⟨#[33]⟩ t5.h1 (by show _ + 1 ≤ _; omega)).mono ?_
    (first | rintro e w5 rfl hw5 | rintro e w5 ⟨rfl, hw5⟩)
    obtain ⟨rm', t6, hr6, hf6⟩ := t5.wrote hw5
    obtain ⟨gm, c6⟩ := Bld.carry hBm hrm (Nat.le_trans S4.out f5.size) hr6 hf6
    have NM : Hid (rm' = rm ∨ ∃ k, rm' = some k ∧ W.heap.size ≤ k) := Lib.hid (hr6.imp_right (fun ⟨k, e, h⟩ => ⟨k, e, Nat.le_trans (Nat.le_trans FF4.out.size f5.size) h⟩)); have H6 := Lib.hid t6; have E6 := Lib.hid (e5.trans c6); have GM := Lib.hid gm
    have FF6 := Lib.hid ((FF4.out.trans f5 (fun _ h => h.elim)).trans hf6 (fun i h => .inl (h.elim (fun h => .inr (.inl h)) (fun h => .inr (.inr (.inr (.inr (.inl h))))))))
    clear f5 t5 e5 t6 hr6 hf6 gm c6 hw5
    go_wp2
    go_end0
    exact ⟨rfl, rl', rm', rr', H6.out.rot.rot, NL.out, NM.out, NR.out, E6.out, FF6.out⟩
set_option maxHeartbeats 4000000 in
set_option maxRecDepth 100000 in
/-- two signs beside one (ResolveRight) -/
theorem align_each.right_ (W : World) (bp bq bl bm br : Nat) (rl rm rr : Option Nat) (L M R : List UInt8) (p q a b : ByteArray) (i i' j j' : Nat)
    (hp : W.heap[bp]? = some (.cells #[.string p] 9 (0, 0))) (hq : W.heap[bq]? = some (.cells #[.string q] 9 (0, 0))) (h3 : align_each.T3 W bl bm br rl rm rr L M R)
    (g1 : i ≤ i') (g2 : j ≤ j') (hi : i' ≤ p.size) (hj : j' ≤ q.size) (hps : p.size ≤ 40) (hqs : q.size ≤ 40) (ha : p.extract i i' = a) (has : a.size = 2) (hbs : b.size = 1) (hb : q.extract j j' = b)
    (hL : L.length ≤ 1000) (hM : M.length ≤ 1000) (hR : R.length ≤ 1000)
    (B : Nat) (hBW : B ≤ W.heap.size) (hBl : B ≤ bl) (hBm : B ≤ bm) (hBr : B ≤ br) (hrl : ∀ k, rl = some k → B ≤ k) (hrm : ∀ k, rm = some k → B ≤ k) (hrr : ∀ k, rr = some k → B ≤ k) :
    Calls Try.prog 48 #[.agg #[.int .i64 i, .int .i64 j], .agg #[.int .i64 i', .int .i64 j'], .int .i64 2, .pointer (some ⟨bp, 0, none⟩), .pointer (some ⟨bq, 0, none⟩), .pointer (some ⟨bl, 0, none⟩), .pointer (some ⟨br, 0, none⟩), .pointer (some ⟨bm, 0, none⟩)] W fun e w' =>
      e = .returned (.tuple #[]) ∧ ∃ rl' rm' rr', align_each.T3 w' bl bm br rl' rm' rr' (L ++ a.data.toList) (M ++ [40, 41]) (R ++ (b.data.toList ++ [32])) ∧ (rl' = rl ∨ ∃ k, rl' = some k ∧ W.heap.size ≤ k) ∧ (rm' = rm ∨ ∃ k, rm' = some k ∧ W.heap.size ≤ k) ∧ (rr' = rr ∨ ∃ k, rr' = some k ∧ W.heap.size ≤ k) ∧ Below B W w' ∧ Bld.Fr (align_each.SS bl bm br rl rm rr) W w' := by
  have H3 := Lib.hid h3
  clear h3
  go_enter Try.func48, Try.ntmps48
  go_wp2
  have hs1 : (W.alloc (.cells #[Value.int IntKind.i64 (i : Int), Value.int IntKind.i64 (j : Int)] 60)).heap.size = W.heap.size + 1 := by simp
  have hfr : Bld.Fr (fun _ => False) W ((W.alloc (.cells #[Value.int IntKind.i64 (i : Int), Value.int IntKind.i64 (j : Int)] 60)).alloc (.cells #[Value.int IntKind.i64 (i' : Int), Value.int IntKind.i64 (j' : Int)] 60)) := ((Bld.Fr.refl _ W).alloc _).alloc _
  have k8 : ((W.alloc (.cells #[Value.int IntKind.i64 (i : Int), Value.int IntKind.i64 (j : Int)] 60)).alloc (.cells #[Value.int IntKind.i64 (i' : Int), Value.int IntKind.i64 (j' : Int)] 60)).heap[W.heap.size]? = some (.cells #[.int .i64 i, .int .i64 j] 60 (0, 0)) := (Lib.alloc_old _ _ _ (by rw [hs1]; omega)).trans (heap_alloc_new W _)
  have k9 : ((W.alloc (.cells #[Value.int IntKind.i64 (i : Int), Value.int IntKind.i64 (j : Int)] 60)).alloc (.cells #[Value.int IntKind.i64 (i' : Int), Value.int IntKind.i64 (j' : Int)] 60)).heap[W.heap.size + 1]? = some (.cells #[.int .i64 i', .int .i64 j'] 60 (0, 0)) := by
    have := heap_alloc_new (W.alloc (.cells #[Value.int IntKind.i64 (i : Int), Value.int IntKind.i64 (j : Int)] 60)) (.cells #[Value.int IntKind.i64 (i' : Int), Value.int IntKind.i64 (j' : Int)] 60)
    rw [hs1] at this
    exact this
  generalize ((W.alloc (.cells #[Value.int IntKind.i64 (i : Int), Value.int IntKind.i64 (j : Int)] 60)).alloc (.cells #[Value.int IntKind.i64 (i' : Int), Value.int IntKind.i64 (j' : Int)] 60)) = W2 at hfr k8 k9 ⊢
  have kp := hfr.heap hp (fun h => h)
  have kq := hfr.heap hq (fun h => h)
  have cp : W2.cell? ⟨bp, 0, none⟩ = some (.string p) := by rw [Lib.cell_of_heap kp]; rfl
  have cq : W2.cell? ⟨bq, 0, none⟩ = some (.string q) := by rw [Lib.cell_of_heap kq]; rfl
  have c80 : W2.cell? ⟨W.heap.size, 0, none⟩ = some (.int .i64 i) := by rw [Lib.cell_of_heap k8]; rfl
  have c81 : W2.cell? ⟨W.heap.size, 1, none⟩ = some (.int .i64 j) := by rw [Lib.cell_of_heap k8]; rfl
  have c90 : W2.cell? ⟨W.heap.size + 1, 0, none⟩ = some (.int .i64 i') := by rw [Lib.cell_of_heap k9]; rfl
  have c91 : W2.cell? ⟨W.heap.size + 1, 1, none⟩ = some (.int .i64 j') := by rw [Lib.cell_of_heap k9]; rfl
  have HF := Lib.hid hfr; have HP := Lib.hid hp; have HQ := Lib.hid hq
  have g3 : (i : Int) ≤ i' := by omega
  have g4 : (j : Int) ≤ j' := by omega
  have g5 : (i' : Int) ≤ p.size := by omega
  have g6 : (j' : Int) ≤ q.size := by omega
  clear hfr hp hq k8 k9 kp kq
  have hrep : ∀ W : World, Calls Try.prog 50 #[.string ⟨#[32]⟩, .int .i64 0] W fun e w' => e = .returned (.string ⟨#[]⟩) ∧ Below W.heap.size W w' := fun W => Try.strings_Repeat ⟨#[32]⟩ 0 W (by omega) (by omega)
  have hae : a ++ (⟨#[]⟩ : ByteArray) = a := by apply ByteArray.ext; rw [ByteArray.data_append]; simp
  have hrep1 : ∀ W : World, Calls Try.prog 50 #[.string ⟨#[32]⟩, .int .i64 1] W fun e w' => e = .returned (.string ⟨#[32]⟩) ∧ Below W.heap.size W w' := fun W => Try.strings_Repeat ⟨#[32]⟩ 1 W (by omega) (by decide)
  obtain ⟨b', hbe⟩ : ∃ b', b ++ (⟨#[32]⟩ : ByteArray) = b' := ⟨_, rfl⟩
  have hbd : b'.data.toList = b.data.toList ++ [32] := by rw [← hbe, ByteArray.data_append, Array.toList_append]
  have hbs2 : b'.size = 2 := by rw [← hbe, ByteArray.size_append, hbs]; rfl
  have HBD := Lib.hid hbd
  have hal : a.data.toList.length = 2 := by have : a.data.toList.length = a.size := by simp
                                            omega
  have hbl : b.data.toList.length = 1 := by have : b.data.toList.length = b.size := by simp
                                            omega
  have HAL := Lib.hid hal; have HBL := Lib.hid hbl
  clear hal hbl hbd
  go_quiet (fail)
  go_wp2_with (go_at_call 50; refine (hrep _).mono ?_)
  (first | rintro e w1 rfl hw1 | rintro e w1 ⟨rfl, hw1⟩)
  go_wp2_with (fail)
  have f1 := (HF.out.drewN nq).trans (Bld.Fr.of_below hw1 (fun _ => False)) (fun _ h => h.elim)
  have e1 : Below B W w1 := f1.below hBW (fun _ h => h.elim)
  have t1 := H3.out.fr f1
  have s1 : B ≤ w1.heap.size := Nat.le_trans hBW f1.size
  refine (Bld.writeString w1 bl rl L a t1.h1 (by omega)).mono ?_
  (first | rintro e w2 rfl hw2 | rintro e w2 ⟨rfl, hw2⟩)
  obtain ⟨rl', t2, hr2, hf2⟩ := t1.wrote hw2
  obtain ⟨gl, c2⟩ := Bld.carry hBl hrl s1 hr2 hf2
  have NL : Hid (rl' = rl ∨ ∃ k, rl' = some k ∧ W.heap.size ≤ k) := Lib.hid (hr2.imp_right (fun ⟨k, e, h⟩ => ⟨k, e, Nat.le_trans f1.size h⟩)); have H2 := Lib.hid t2; have E2 := Lib.hid (e1.trans c2); have S2 := Lib.hid (Nat.le_trans s1 hf2.size); have GL := Lib.hid gl
  have FF2 := Lib.hid ((Bld.Fr.mono f1 (S2 := align_each.SS bl bm br rl rm rr) (fun _ h => h.elim)).trans hf2 (fun i h => .inl (h.elim (fun h => .inl h) (fun h => .inr (.inr (.inr (.inl h)))))))
  clear t1 t2 hw2 f1 e1 s1 hr2 hf2 gl c2
  go_wp2_with (go_at_call 50; refine (hrep1 _).mono ?_)
  (first | rintro e w3 rfl hw3 | rintro e w3 ⟨rfl, hw3⟩)
  go_wp2_with (fail)
  have f3 := Bld.Fr.of_below hw3 (fun _ => False)
  have e3 : Below B W w3 := E2.out.trans (f3.below S2.out (fun _ h => h.elim))
  have t3 := (H2.out.fr f3).rot.rot
  have s3 : B ≤ w3.heap.size := Nat.le_trans S2.out f3.size
  refine (Bld.writeString w3 br rr R b' t3.h1 (by omega)).mono ?_
  (first | rintro e w4 rfl hw4 | rintro e w4 ⟨rfl, hw4⟩)
  obtain ⟨rr', t4, hr4, hf4⟩ := t3.wrote hw4
  obtain ⟨gr, c4⟩ := Bld.carry hBr hrr s3 hr4 hf4
  have NR : Hid (rr' = rr ∨ ∃ k, rr' = some k ∧ W.heap.size ≤ k) := Lib.hid (hr4.imp_right (fun ⟨k, e, h⟩ => ⟨k, e, Nat.le_trans (Nat.le_trans FF2.out.size f3.size) h⟩)); have H4 := Lib.hid t4.rot.rot; have E4 := Lib.hid (e3.trans c4); have S4 := Lib.hid (Nat.le_trans s3 hf4.size); have GR := Lib.hid gr
  have FF4 := Lib.hid ((FF2.out.trans f3 (fun _ h => h.elim)).trans hf4 (fun i h => .inl (h.elim (fun h => .inr (.inr (.inl h))) (fun h => .inr (.inr (.inr (.inr (.inr h))))))))
  clear t3 t4 hw4 f3 e3 s3 hr4 hf4 gr c4 hrep hrep1 hae hbe
  have hc5 : ∀ n, ((w4.drewN n).alloc (.cells #[Value.string ⟨#[32]⟩, Value.string ⟨#[40, 41]⟩] 9)).cell? ⟨w4.heap.size, 1, none⟩ = some (.string ⟨#[40, 41]⟩) := fun n => (Lib.cell_of_heap (heap_alloc_new (w4.drewN n) _) 1).trans rfl
  go_wp2_with (fail)
  go_quiet (fail)
  go_wp2_with (fail)
  have f5 := ((Bld.Fr.refl (fun _ => False) w4).drewN nq).alloc (.cells #[Value.string ⟨#[32]⟩, Value.string ⟨#[40, 41]⟩] 9)
  have t5 := H4.out.fr f5
  have e5 := E4.out.trans (f5.below S4.out (fun _ h => h.elim))
  refine (Bld.writeString _ bm rm M ⟨#[40, 41]⟩ t5.h1 (by show _ + 2 ≤ _; omega)).mono ?_
  (first | rintro e w5 rfl hw5 | rintro e w5 ⟨rfl, hw5⟩)
  obtain ⟨rm', t6, hr6, hf6⟩ := t5.wrote hw5
  obtain ⟨gm, c6⟩ := Bld.carry hBm hrm (Nat.le_trans S4.out f5.size) hr6 hf6
  have NM : Hid (rm' = rm ∨ ∃ k, rm' = some k ∧ W.heap.size ≤ k) := Lib.hid (hr6.imp_right (fun ⟨k, e, h⟩ => ⟨k, e, Nat.le_trans (Nat.le_trans FF4.out.size f5.size) h⟩)); have H6 := Lib.hid t6; have E6 := Lib.hid (e5.trans c6); have GM := Lib.hid gm
  have FF6 := Lib.hid ((FF4.out.trans f5 (fun _ h => h.elim)).trans hf6 (fun i h => .inl (h.elim (fun h => .inr (.inl h)) (fun h => .inr (.inr (.inr (.inr (.inl h))))))))
  clear f5 t5 e5 t6 hr6 hf6 gm c6 hw5 hc5
  go_wp2
  go_end0
  exact ⟨rfl, rl', rm', rr', by have := H6.out.rot.rot; rw [HBD.out] at this; exact this, NL.out, NM.out, NR.out, E6.out, FF6.out⟩
set_option maxHeartbeats 4000000 in
set_option maxRecDepth 100000 in
/-- kind 1 -/
theorem align_each.left_ (W : World) (bp bq bl bm br : Nat) (rl rm rr : Option Nat) (L M R : List UInt8) (p q a b : ByteArray) (i i' j j' : Nat)
    (hp : W.heap[bp]? = some (.cells #[.string p] 9 (0, 0))) (hq : W.heap[bq]? = some (.cells #[.string q] 9 (0, 0))) (h3 : align_each.T3 W bl bm br rl rm rr L M R)
    (g1 : i ≤ i') (g2 : j ≤ j') (hi : i' ≤ p.size) (hj : j' ≤ q.size) (hps : p.size ≤ 40) (hqs : q.size ≤ 40) (ha : p.extract i i' = a) (has : a.size = 1) (hbs : b.size = 2) (hb : q.extract j j' = b)
    (hL : L.length ≤ 1000) (hM : M.length ≤ 1000) (hR : R.length ≤ 1000)
    (B : Nat) (hBW : B ≤ W.heap.size) (hBl : B ≤ bl) (hBm : B ≤ bm) (hBr : B ≤ br) (hrl : ∀ k, rl = some k → B ≤ k) (hrm : ∀ k, rm = some k → B ≤ k) (hrr : ∀ k, rr = some k → B ≤ k) :
    Calls Try.prog 48 #[.agg #[.int .i64 i, .int .i64 j], .agg #[.int .i64 i', .int .i64 j'], .int .i64 1, .pointer (some ⟨bp, 0, none⟩), .pointer (some ⟨bq, 0, none⟩), .pointer (some ⟨bl, 0, none⟩), .pointer (some ⟨br, 0, none⟩), .pointer (some ⟨bm, 0, none⟩)] W fun e w' =>
      e = .returned (.tuple #[]) ∧ ∃ rl' rm' rr', align_each.T3 w' bl bm br rl' rm' rr' (L ++ (a.data.toList ++ [32])) (M ++ [40, 41]) (R ++ b.data.toList) ∧ (rl' = rl ∨ ∃ k, rl' = some k ∧ W.heap.size ≤ k) ∧ (rm' = rm ∨ ∃ k, rm' = some k ∧ W.heap.size ≤ k) ∧ (rr' = rr ∨ ∃ k, rr' = some k ∧ W.heap.size ≤ k) ∧ Below B W w' ∧ Bld.Fr (align_each.SS bl bm br rl rm rr) W w' := by
  have H3 := Lib.hid h3
  clear h3
  go_enter Try.func48, Try.ntmps48
  go_wp2
  have hs1 : (W.alloc (.cells #[Value.int IntKind.i64 (i : Int), Value.int IntKind.i64 (j : Int)] 60)).heap.size = W.heap.size + 1 := by simp
  have hfr : Bld.Fr (fun _ => False) W ((W.alloc (.cells #[Value.int IntKind.i64 (i : Int), Value.int IntKind.i64 (j : Int)] 60)).alloc (.cells #[Value.int IntKind.i64 (i' : Int), Value.int IntKind.i64 (j' : Int)] 60)) := ((Bld.Fr.refl _ W).alloc _).alloc _
  have k8 : ((W.alloc (.cells #[Value.int IntKind.i64 (i : Int), Value.int IntKind.i64 (j : Int)] 60)).alloc (.cells #[Value.int IntKind.i64 (i' : Int), Value.int IntKind.i64 (j' : Int)] 60)).heap[W.heap.size]? = some (.cells #[.int .i64 i, .int .i64 j] 60 (0, 0)) := (Lib.alloc_old _ _ _ (by rw [hs1]; omega)).trans (heap_alloc_new W _)
  have k9 : ((W.alloc (.cells #[Value.int IntKind.i64 (i : Int), Value.int IntKind.i64 (j : Int)] 60)).alloc (.cells #[Value.int IntKind.i64 (i' : Int), Value.int IntKind.i64 (j' : Int)] 60)).heap[W.heap.size + 1]? = some (.cells #[.int .i64 i', .int .i64 j'] 60 (0, 0)) := by
    have := heap_alloc_new (W.alloc (.cells #[Value.int IntKind.i64 (i : Int), Value.int IntKind.i64 (j : Int)] 60)) (.cells #[Value.int IntKind.i64 (i' : Int), Value.int IntKind.i64 (j' : Int)] 60)
    rw [hs1] at this
    exact this
  generalize ((W.alloc (.cells #[Value.int IntKind.i64 (i : Int), Value.int IntKind.i64 (j : Int)] 60)).alloc (.cells #[Value.int IntKind.i64 (i' : Int), Value.int IntKind.i64 (j' : Int)] 60)) = W2 at hfr k8 k9 ⊢
  have kp := hfr.heap hp (fun h => h)
  have kq := hfr.heap hq (fun h => h)
  have cp : W2.cell? ⟨bp, 0, none⟩ = some (.string p) := by rw [Lib.cell_of_heap kp]; rfl
  have cq : W2.cell? ⟨bq, 0, none⟩ = some (.string q) := by rw [Lib.cell_of_heap kq]; rfl
  have c80 : W2.cell? ⟨W.heap.size, 0, none⟩ = some (.int .i64 i) := by rw [Lib.cell_of_heap k8]; rfl
  have c81 : W2.cell? ⟨W.heap.size, 1, none⟩ = some (.int .i64 j) := by rw [Lib.cell_of_heap k8]; rfl
  have c90 : W2.cell? ⟨W.heap.size + 1, 0, none⟩ = some (.int .i64 i') := by rw [Lib.cell_of_heap k9]; rfl
  have c91 : W2.cell? ⟨W.heap.size + 1, 1, none⟩ = some (.int .i64 j') := by rw [Lib.cell_of_heap k9]; rfl
  have HF := Lib.hid hfr; have HP := Lib.hid hp; have HQ := Lib.hid hq
  have g3 : (i : Int) ≤ i' := by omega
  have g4 : (j : Int) ≤ j' := by omega
  have g5 : (i' : Int) ≤ p.size := by omega
  have g6 : (j' : Int) ≤ q.size := by omega
  clear hfr hp hq k8 k9 kp kq
  have hrep : ∀ W : World, Calls Try.prog 50 #[.string ⟨#[32]⟩, .int .i64 0] W fun e w' => e = .returned (.string ⟨#[]⟩) ∧ Below W.heap.size W w' := fun W => Try.strings_Repeat ⟨#[32]⟩ 0 W (by omega) (by omega)
  have hae : b ++ (⟨#[]⟩ : ByteArray) = b := by apply ByteArray.ext; rw [ByteArray.data_append]; simp
  have hrep1 : ∀ W : World, Calls Try.prog 50 #[.string ⟨#[32]⟩, .int .i64 1] W fun e w' => e = .returned (.string ⟨#[32]⟩) ∧ Below W.heap.size W w' := fun W => Try.strings_Repeat ⟨#[32]⟩ 1 W (by omega) (by decide)
  obtain ⟨a', hbe⟩ : ∃ a', a ++ (⟨#[32]⟩ : ByteArray) = a' := ⟨_, rfl⟩
  have hbd : a'.data.toList = a.data.toList ++ [32] := by rw [← hbe, ByteArray.data_append, Array.toList_append]
  have hbs2 : a'.size = 2 := by rw [← hbe, ByteArray.size_append, has]; rfl
  have HBD := Lib.hid hbd
  have hal : a.data.toList.length = 1 := by have : a.data.toList.length = a.size := by simp
                                            omega
  have hbl : b.data.toList.length = 2 := by have : b.data.toList.length = b.size := by simp
                                            omega
  have HAL := Lib.hid hal; have HBL := Lib.hid hbl
  clear hal hbl hbd
  go_quiet (fail)
  go_wp2_with (go_at_call 50; refine (hrep1 _).mono ?_)
  (first | rintro e w1 rfl hw1 | rintro e w1 ⟨rfl, hw1⟩)
  go_wp2_with (fail)
  have f1 := (HF.out.drewN nq).trans (Bld.Fr.of_below hw1 (fun _ => False)) (fun _ h => h.elim)
  have e1 : Below B W w1 := f1.below hBW (fun _ h => h.elim)
  have t1 := H3.out.fr f1
  have s1 : B ≤ w1.heap.size := Nat.le_trans hBW f1.size
  refine (Bld.writeString w1 bl rl L a' t1.h1 (by omega)).mono ?_
  (first | rintro e w2 rfl hw2 | rintro e w2 ⟨rfl, hw2⟩)
  obtain ⟨rl', t2, hr2, hf2⟩ := t1.wrote hw2
  obtain ⟨gl, c2⟩ := Bld.carry hBl hrl s1 hr2 hf2
  have NL : Hid (rl' = rl ∨ ∃ k, rl' = some k ∧ W.heap.size ≤ k) := Lib.hid (hr2.imp_right (fun ⟨k, e, h⟩ => ⟨k, e, Nat.le_trans f1.size h⟩)); have H2 := Lib.hid t2; have E2 := Lib.hid (e1.trans c2); have S2 := Lib.hid (Nat.le_trans s1 hf2.size); have GL := Lib.hid gl
  have FF2 := Lib.hid ((Bld.Fr.mono f1 (S2 := align_each.SS bl bm br rl rm rr) (fun _ h => h.elim)).trans hf2 (fun i h => .inl (h.elim (fun h => .inl h) (fun h => .inr (.inr (.inr (.inl h)))))))
  clear t1 t2 hw2 f1 e1 s1 hr2 hf2 gl c2
  go_wp2_with (go_at_call 50; refine (hrep _).mono ?_)
  (first | rintro e w3 rfl hw3 | rintro e w3 ⟨rfl, hw3⟩)
  go_wp2_with (fail)
  have f3 := Bld.Fr.of_below hw3 (fun _ => False)
  have e3 : Below B W w3 := E2.out.trans (f3.below S2.out (fun _ h => h.elim))
  have t3 := (H2.out.fr f3).rot.rot
  have s3 : B ≤ w3.heap.size := Nat.le_trans S2.out f3.size
  refine (Bld.writeString w3 br rr R b t3.h1 (by omega)).mono ?_
  (first | rintro e w4 rfl hw4 | rintro e w4 ⟨rfl, hw4⟩)
  obtain ⟨rr', t4, hr4, hf4⟩ := t3.wrote hw4
  obtain ⟨gr, c4⟩ := Bld.carry hBr hrr s3 hr4 hf4
  have NR : Hid (rr' = rr ∨ ∃ k, rr' = some k ∧ W.heap.size ≤ k) := Lib.hid (hr4.imp_right (fun ⟨k, e, h⟩ => ⟨k, e, Nat.le_trans (Nat.le_trans FF2.out.size f3.size) h⟩)); have H4 := Lib.hid t4.rot.rot; have E4 := Lib.hid (e3.trans c4); have S4 := Lib.hid (Nat.le_trans s3 hf4.size); have GR := Lib.hid gr
  have FF4 := Lib.hid ((FF2.out.trans f3 (fun _ h => h.elim)).trans hf4 (fun i h => .inl (h.elim (fun h => .inr (.inr (.inl h))) (fun h => .inr (.inr (.inr (.inr (.inr h))))))))
  clear t3 t4 hw4 f3 e3 s3 hr4 hf4 gr c4 hrep hrep1 hae hbe
  have hc5 : ∀ n, ((w4.drewN n).alloc (.cells #[Value.string ⟨#[32]⟩, Value.string ⟨#[40, 41]⟩] 9)).cell? ⟨w4.heap.size, 1, none⟩ = some (.string ⟨#[40, 41]⟩) := fun n => (Lib.cell_of_heap (heap_alloc_new (w4.drewN n) _) 1).trans rfl
  go_wp2_with (fail)
  go_quiet (fail)
  go_wp2_with (fail)
  have f5 := ((Bld.Fr.refl (fun _ => False) w4).drewN nq).alloc (.cells #[Value.string ⟨#[32]⟩, Value.string ⟨#[40, 41]⟩] 9)
  have t5 := H4.out.fr f5
  have e5 := E4.out.trans (f5.below S4.out (fun _ h => h.elim))
  refine (Bld.writeString _ bm rm M ⟨#[40, 41]⟩ t5.h1 (by show _ + 2 ≤ _; omega)).mono ?_
  (first | rintro e w5 rfl hw5 | rintro e w5 ⟨rfl, hw5⟩)
  obtain ⟨rm', t6, hr6, hf6⟩ := t5.wrote hw5
  obtain ⟨gm, c6⟩ := Bld.carry hBm hrm (Nat.le_trans S4.out f5.size) hr6 hf6
  have NM : Hid (rm' = rm ∨ ∃ k, rm' = some k ∧ W.heap.size ≤ k) := Lib.hid (hr6.imp_right (fun ⟨k, e, h⟩ => ⟨k, e, Nat.le_trans (Nat.le_trans FF4.out.size f5.size) h⟩)); have H6 := Lib.hid t6; have E6 := Lib.hid (e5.trans c6); have GM := Lib.hid gm
  have FF6 := Lib.hid ((FF4.out.trans f5 (fun _ h => h.elim)).trans hf6 (fun i h => .inl (h.elim (fun h => .inr (.inl h)) (fun h => .inr (.inr (.inr (.inr (.inl h))))))))
  clear f5 t5 e5 t6 hr6 hf6 gm c6 hw5 hc5
  go_wp2
  go_end0
  exact ⟨rfl, rl', rm', rr', by have := H6.out.rot.rot; rw [HBD.out] at this; exact this, NL.out, NM.out, NR.out, E6.out, FF6.out⟩
set_option maxHeartbeats 4000000 in
set_option maxRecDepth 100000 in
/-- kind 3 -/
theorem align_each.skipl (W : World) (bp bq bl bm br : Nat) (rl rm rr : Option Nat) (L M R : List UInt8) (p q a b : ByteArray) (i i' j j' : Nat)
    (hp : W.heap[bp]? = some (.cells #[.string p] 9 (0, 0))) (hq : W.heap[bq]? = some (.cells #[.string q] 9 (0, 0))) (h3 : align_each.T3 W bl bm br rl rm rr L M R)
    (g1 : i ≤ i') (g2 : j ≤ j') (hi : i' ≤ p.size) (hj : j' ≤ q.size) (hps : p.size ≤ 40) (hqs : q.size ≤ 40) (ha : p.extract i i' = a) (has : a.size = 1) (hbs : b.size = 0) (hb : q.extract j j' = b)
    (hL : L.length ≤ 1000) (hM : M.length ≤ 1000) (hR : R.length ≤ 1000)
    (B : Nat) (hBW : B ≤ W.heap.size) (hBl : B ≤ bl) (hBm : B ≤ bm) (hBr : B ≤ br) (hrl : ∀ k, rl = some k → B ≤ k) (hrm : ∀ k, rm = some k → B ≤ k) (hrr : ∀ k, rr = some k → B ≤ k) :
    Calls Try.prog 48 #[.agg #[.int .i64 i, .int .i64 j], .agg #[.int .i64 i', .int .i64 j'], .int .i64 3, .pointer (some ⟨bp, 0, none⟩), .pointer (some ⟨bq, 0, none⟩), .pointer (some ⟨bl, 0, none⟩), .pointer (some ⟨br, 0, none⟩), .pointer (some ⟨bm, 0, none⟩)] W fun e w' =>
      e = .returned (.tuple #[]) ∧ ∃ rl' rm' rr', align_each.T3 w' bl bm br rl' rm' rr' (L ++ a.data.toList) (M ++ [32]) (R ++ (b.data.toList ++ [32])) ∧ (rl' = rl ∨ ∃ k, rl' = some k ∧ W.heap.size ≤ k) ∧ (rm' = rm ∨ ∃ k, rm' = some k ∧ W.heap.size ≤ k) ∧ (rr' = rr ∨ ∃ k, rr' = some k ∧ W.heap.size ≤ k) ∧ Below B W w' ∧ Bld.Fr (align_each.SS bl bm br rl rm rr) W w' := by
  have H3 := Lib.hid h3
  clear h3
  go_enter Try.func48, Try.ntmps48
  go_wp2
  have hs1 : (W.alloc (.cells #[Value.int IntKind.i64 (i : Int), Value.int IntKind.i64 (j : Int)] 60)).heap.size = W.heap.size + 1 := by simp
  have hfr : Bld.Fr (fun _ => False) W ((W.alloc (.cells #[Value.int IntKind.i64 (i : Int), Value.int IntKind.i64 (j : Int)] 60)).alloc (.cells #[Value.int IntKind.i64 (i' : Int), Value.int IntKind.i64 (j' : Int)] 60)) := ((Bld.Fr.refl _ W).alloc _).alloc _
  have k8 : ((W.alloc (.cells #[Value.int IntKind.i64 (i : Int), Value.int IntKind.i64 (j : Int)] 60)).alloc (.cells #[Value.int IntKind.i64 (i' : Int), Value.int IntKind.i64 (j' : Int)] 60)).heap[W.heap.size]? = some (.cells #[.int .i64 i, .int .i64 j] 60 (0, 0)) := (Lib.alloc_old _ _ _ (by rw [hs1]; omega)).trans (heap_alloc_new W _)
  have k9 : ((W.alloc (.cells #[Value.int IntKind.i64 (i : Int), Value.int IntKind.i64 (j : Int)] 60)).alloc (.cells #[Value.int IntKind.i64 (i' : Int), Value.int IntKind.i64 (j' : Int)] 60)).heap[W.heap.size + 1]? = some (.cells #[.int .i64 i', .int .i64 j'] 60 (0, 0)) := by
    have := heap_alloc_new (W.alloc (.cells #[Value.int IntKind.i64 (i : Int), Value.int IntKind.i64 (j : Int)] 60)) (.cells #[Value.int IntKind.i64 (i' : Int), Value.int IntKind.i64 (j' : Int)] 60)
    rw [hs1] at this
    exact this
  generalize ((W.alloc (.cells #[Value.int IntKind.i64 (i : Int), Value.int IntKind.i64 (j : Int)] 60)).alloc (.cells #[Value.int IntKind.i64 (i' : Int), Value.int IntKind.i64 (j' : Int)] 60)) = W2 at hfr k8 k9 ⊢
  have kp := hfr.heap hp (fun h => h)
  have kq := hfr.heap hq (fun h => h)
  have cp : W2.cell? ⟨bp, 0, none⟩ = some (.string p) := by rw [Lib.cell_of_heap kp]; rfl
  have cq : W2.cell? ⟨bq, 0, none⟩ = some (.string q) := by rw [Lib.cell_of_heap kq]; rfl
  have c80 : W2.cell? ⟨W.heap.size, 0, none⟩ = some (.int .i64 i) := by rw [Lib.cell_of_heap k8]; rfl
  have c81 : W2.cell? ⟨W.heap.size, 1, none⟩ = some (.int .i64 j) := by rw [Lib.cell_of_heap k8]; rfl
  have c90 : W2.cell? ⟨W.heap.size + 1, 0, none⟩ = some (.int .i64 i') := by rw [Lib.cell_of_heap k9]; rfl
  have c91 : W2.cell? ⟨W.heap.size + 1, 1, none⟩ = some (.int .i64 j') := by rw [Lib.cell_of_heap k9]; rfl
  have HF := Lib.hid hfr; have HP := Lib.hid hp; have HQ := Lib.hid hq
  have g3 : (i : Int) ≤ i' := by omega
  have g4 : (j : Int) ≤ j' := by omega
  have g5 : (i' : Int) ≤ p.size := by omega
  have g6 : (j' : Int) ≤ q.size := by omega
  clear hfr hp hq k8 k9 kp kq
  have hrep : ∀ W : World, Calls Try.prog 50 #[.string ⟨#[32]⟩, .int .i64 0] W fun e w' => e = .returned (.string ⟨#[]⟩) ∧ Below W.heap.size W w' := fun W => Try.strings_Repeat ⟨#[32]⟩ 0 W (by omega) (by omega)
  have hae : a ++ (⟨#[]⟩ : ByteArray) = a := by apply ByteArray.ext; rw [ByteArray.data_append]; simp
  have hrep1 : ∀ W : World, Calls Try.prog 50 #[.string ⟨#[32]⟩, .int .i64 1] W fun e w' => e = .returned (.string ⟨#[32]⟩) ∧ Below W.heap.size W w' := fun W => Try.strings_Repeat ⟨#[32]⟩ 1 W (by omega) (by decide)
  obtain ⟨b', hbe⟩ : ∃ b', b ++ (⟨#[32]⟩ : ByteArray) = b' := ⟨_, rfl⟩
  have hbd : b'.data.toList = b.data.toList ++ [32] := by rw [← hbe, ByteArray.data_append, Array.toList_append]
  have hbs2 : b'.size = 1 := by rw [← hbe, ByteArray.size_append, hbs]; rfl
  have HBD := Lib.hid hbd
  have hal : a.data.toList.length = 1 := by have : a.data.toList.length = a.size := by simp
                                            omega
  have hbl : b.data.toList.length = 0 := by have : b.data.toList.length = b.size := by simp
                                            omega
  have HAL := Lib.hid hal; have HBL := Lib.hid hbl
  clear hal hbl hbd
  go_quiet (fail)
  go_wp2_with (go_at_call 50; refine (hrep _).mono ?_)
  (first | rintro e w1 rfl hw1 | rintro e w1 ⟨rfl, hw1⟩)
  go_wp2_with (fail)
  have f1 := (HF.out.drewN nq).trans (Bld.Fr.of_below hw1 (fun _ => False)) (fun _ h => h.elim)
  have e1 : Below B W w1 := f1.below hBW (fun _ h => h.elim)
  have t1 := H3.out.fr f1
  have s1 : B ≤ w1.heap.size := Nat.le_trans hBW f1.size
  refine (Bld.writeString w1 bl rl L a t1.h1 (by omega)).mono ?_
  (first | rintro e w2 rfl hw2 | rintro e w2 ⟨rfl, hw2⟩)
  obtain ⟨rl', t2, hr2, hf2⟩ := t1.wrote hw2
  obtain ⟨gl, c2⟩ := Bld.carry hBl hrl s1 hr2 hf2
  have NL : Hid (rl' = rl ∨ ∃ k, rl' = some k ∧ W.heap.size ≤ k) := Lib.hid (hr2.imp_right (fun ⟨k, e, h⟩ => ⟨k, e, Nat.le_trans f1.size h⟩)); have H2 := Lib.hid t2; have E2 := Lib.hid (e1.trans c2); have S2 := Lib.hid (Nat.le_trans s1 hf2.size); have GL := Lib.hid gl
  have FF2 := Lib.hid ((Bld.Fr.mono f1 (S2 := align_each.SS bl bm br rl rm rr) (fun _ h => h.elim)).trans hf2 (fun i h => .inl (h.elim (fun h => .inl h) (fun h => .inr (.inr (.inr (.inl h)))))))
  clear t1 t2 hw2 f1 e1 s1 hr2 hf2 gl c2
  go_wp2_with (go_at_call 50; refine (hrep1 _).mono ?_)
  (first | rintro e w3 rfl hw3 | rintro e w3 ⟨rfl, hw3⟩)
  go_wp2_with (fail)
  have f3 := Bld.Fr.of_below hw3 (fun _ => False)
  have e3 : Below B W w3 := E2.out.trans (f3.below S2.out (fun _ h => h.elim))
  have t3 := (H2.out.fr f3).rot.rot
  have s3 : B ≤ w3.heap.size := Nat.le_trans S2.out f3.size
  refine (Bld.writeString w3 br rr R b' t3.h1 (by omega)).mono ?_
  (first | rintro e w4 rfl hw4 | rintro e w4 ⟨rfl, hw4⟩)
  obtain ⟨rr', t4, hr4, hf4⟩ := t3.wrote hw4
  obtain ⟨gr, c4⟩ := Bld.carry hBr hrr s3 hr4 hf4
  have NR : Hid (rr' = rr ∨ ∃ k, rr' = some k ∧ W.heap.size ≤ k) := Lib.hid (hr4.imp_right (fun ⟨k, e, h⟩ => ⟨k, e, Nat.le_trans (Nat.le_trans FF2.out.size f3.size) h⟩)); have H4 := Lib.hid t4.rot.rot; have E4 := Lib.hid (e3.trans c4); have S4 := Lib.hid (Nat.le_trans s3 hf4.size); have GR := Lib.hid gr
  have FF4 := Lib.hid ((FF2.out.trans f3 (fun _ h => h.elim)).trans hf4 (fun i h => .inl (h.elim (fun h => .inr (.inr (.inl h))) (fun h => .inr (.inr (.inr (.inr (.inr h))))))))
  clear t3 t4 hw4 f3 e3 s3 hr4 hf4 gr c4 hrep hrep1 hae hbe
  have hc5 : ∀ n, ((w4.drewN n).alloc (.cells #[Value.string ⟨#[32]⟩, Value.string ⟨#[40, 41]⟩] 9)).cell? ⟨w4.heap.size, 0, none⟩ = some (.string ⟨#[32]⟩) := fun n => (Lib.cell_of_heap (heap_alloc_new (w4.drewN n) _) 0).trans rfl
  go_wp2_with (fail)
  go_quiet (fail)
  go_wp2_with (fail)
  have f5 := ((Bld.Fr.refl (fun _ => False) w4).drewN nq).alloc (.cells #[Value.string ⟨#[32]⟩, Value.string ⟨#[40, 41]⟩] 9)
  have t5 := H4.out.fr f5
  have e5 := E4.out.trans (f5.below S4.out (fun _ h => h.elim))
  refine (Bld.writeString _ bm rm M ⟨#[32]⟩ t5.h1 (by show _ + 1 ≤ _; omega)).mono ?_
  (first | rintro e w5 rfl hw5 | rintro e w5 ⟨rfl, hw5⟩)
  obtain ⟨rm', t6, hr6, hf6⟩ := t5.wrote hw5
  obtain ⟨gm, c6⟩ := Bld.carry hBm hrm (Nat.le_trans S4.out f5.size) hr6 hf6
  have NM : Hid (rm' = rm ∨ ∃ k, rm' = some k ∧ W.heap.size ≤ k) := Lib.hid (hr6.imp_right (fun ⟨k, e, h⟩ => ⟨k, e, Nat.le_trans (Nat.le_trans FF4.out.size f5.size) h⟩)); have H6 := Lib.hid t6; have E6 := Lib.hid (e5.trans c6); have GM := Lib.hid gm
  have FF6 := Lib.hid ((FF4.out.trans f5 (fun _ h => h.elim)).trans hf6 (fun i h => .inl (h.elim (fun h => .inr (.inl h)) (fun h => .inr (.inr (.inr (.inr (.inl h))))))))
  clear f5 t5 e5 t6 hr6 hf6 gm c6 hw5 hc5
  go_wp2
  go_end0
  exact ⟨rfl, rl', rm', rr', by have := H6.out.rot.rot; rw [HBD.out] at this; exact this, NL.out, NM.out, NR.out, E6.out, FF6.out⟩
set_option maxHeartbeats 4000000 in
set_option maxRecDepth 100000 in
/-- kind 4 -/
theorem align_each.skipr (W : World) (bp bq bl bm br : Nat) (rl rm rr : Option Nat) (L M R : List UInt8) (p q a b : ByteArray) (i i' j j' : Nat)
    (hp : W.heap[bp]? = some (.cells #[.string p] 9 (0, 0))) (hq : W.heap[bq]? = some (.cells #[.string q] 9 (0, 0))) (h3 : align_each.T3 W bl bm br rl rm rr L M R)
    (g1 : i ≤ i') (g2 : j ≤ j') (hi : i' ≤ p.size) (hj : j' ≤ q.size) (hps : p.size ≤ 40) (hqs : q.size ≤ 40) (ha : p.extract i i' = a) (has : a.size = 0) (hbs : b.size = 1) (hb : q.extract j j' = b)
    (hL : L.length ≤ 1000) (hM : M.length ≤ 1000) (hR : R.length ≤ 1000)
    (B : Nat) (hBW : B ≤ W.heap.size) (hBl : B ≤ bl) (hBm : B ≤ bm) (hBr : B ≤ br) (hrl : ∀ k, rl = some k → B ≤ k) (hrm : ∀ k, rm = some k → B ≤ k) (hrr : ∀ k, rr = some k → B ≤ k) :
    Calls Try.prog 48 #[.agg #[.int .i64 i, .int .i64 j], .agg #[.int .i64 i', .int .i64 j'], .int .i64 4, .pointer (some ⟨bp, 0, none⟩), .pointer (some ⟨bq, 0, none⟩), .pointer (some ⟨bl, 0, none⟩), .pointer (some ⟨br, 0, none⟩), .pointer (some ⟨bm, 0, none⟩)] W fun e w' =>
      e = .returned (.tuple #[]) ∧ ∃ rl' rm' rr', align_each.T3 w' bl bm br rl' rm' rr' (L ++ (a.data.toList ++ [32])) (M ++ [32]) (R ++ b.data.toList) ∧ (rl' = rl ∨ ∃ k, rl' = some k ∧ W.heap.size ≤ k) ∧ (rm' = rm ∨ ∃ k, rm' = some k ∧ W.heap.size ≤ k) ∧ (rr' = rr ∨ ∃ k, rr' = some k ∧ W.heap.size ≤ k) ∧ Below B W w' ∧ Bld.Fr (align_each.SS bl bm br rl rm rr) W w' := by
  have H3 := Lib.hid h3
  clear h3
  go_enter Try.func48, Try.ntmps48
  go_wp2
  have hs1 : (W.alloc (.cells #[Value.int IntKind.i64 (i : Int), Value.int IntKind.i64 (j : Int)] 60)).heap.size = W.heap.size + 1 := by simp
  have hfr : Bld.Fr (fun _ => False) W ((W.alloc (.cells #[Value.int IntKind.i64 (i : Int), Value.int IntKind.i64 (j : Int)] 60)).alloc (.cells #[Value.int IntKind.i64 (i' : Int), Value.int IntKind.i64 (j' : Int)] 60)) := ((Bld.Fr.refl _ W).alloc _).alloc _
  have k8 : ((W.alloc (.cells #[Value.int IntKind.i64 (i : Int), Value.int IntKind.i64 (j : Int)] 60)).alloc (.cells #[Value.int IntKind.i64 (i' : Int), Value.int IntKind.i64 (j' : Int)] 60)).heap[W.heap.size]? = some (.cells #[.int .i64 i, .int .i64 j] 60 (0, 0)) := (Lib.alloc_old _ _ _ (by rw [hs1]; omega)).trans (heap_alloc_new W _)
  have k9 : ((W.alloc (.cells #[Value.int IntKind.i64 (i : Int), Value.int IntKind.i64 (j : Int)] 60)).alloc (.cells #[Value.int IntKind.i64 (i' : Int), Value.int IntKind.i64 (j' : Int)] 60)).heap[W.heap.size + 1]? = some (.cells #[.int .i64 i', .int .i64 j'] 60 (0, 0)) := by
    have := heap_alloc_new (W.alloc (.cells #[Value.int IntKind.i64 (i : Int), Value.int IntKind.i64 (j : Int)] 60)) (.cells #[Value.int IntKind.i64 (i' : Int), Value.int IntKind.i64 (j' : Int)] 60)
    rw [hs1] at this
    exact this
  generalize ((W.alloc (.cells #[Value.int IntKind.i64 (i : Int), Value.int IntKind.i64 (j : Int)] 60)).alloc (.cells #[Value.int IntKind.i64 (i' : Int), Value.int IntKind.i64 (j' : Int)] 60)) = W2 at hfr k8 k9 ⊢
  have kp := hfr.heap hp (fun h => h)
  have kq := hfr.heap hq (fun h => h)
  have cp : W2.cell? ⟨bp, 0, none⟩ = some (.string p) := by rw [Lib.cell_of_heap kp]; rfl
  have cq : W2.cell? ⟨bq, 0, none⟩ = some (.string q) := by rw [Lib.cell_of_heap kq]; rfl
  have c80 : W2.cell? ⟨W.heap.size, 0, none⟩ = some (.int .i64 i) := by rw [Lib.cell_of_heap k8]; rfl
  have c81 : W2.cell? ⟨W.heap.size, 1, none⟩ = some (.int .i64 j) := by rw [Lib.cell_of_heap k8]; rfl
  have c90 : W2.cell? ⟨W.heap.size + 1, 0, none⟩ = some (.int .i64 i') := by rw [Lib.cell_of_heap k9]; rfl
  have c91 : W2.cell? ⟨W.heap.size + 1, 1, none⟩ = some (.int .i64 j') := by rw [Lib.cell_of_heap k9]; rfl
  have HF := Lib.hid hfr; have HP := Lib.hid hp; have HQ := Lib.hid hq
  have g3 : (i : Int) ≤ i' := by omega
  have g4 : (j : Int) ≤ j' := by omega
  have g5 : (i' : Int) ≤ p.size := by omega
  have g6 : (j' : Int) ≤ q.size := by omega
  clear hfr hp hq k8 k9 kp kq
  have hrep : ∀ W : World, Calls Try.prog 50 #[.string ⟨#[32]⟩, .int .i64 0] W fun e w' => e = .returned (.string ⟨#[]⟩) ∧ Below W.heap.size W w' := fun W => Try.strings_Repeat ⟨#[32]⟩ 0 W (by omega) (by omega)
  have hae : b ++ (⟨#[]⟩ : ByteArray) = b := by apply ByteArray.ext; rw [ByteArray.data_append]; simp
  have hrep1 : ∀ W : World, Calls Try.prog 50 #[.string ⟨#[32]⟩, .int .i64 1] W fun e w' => e = .returned (.string ⟨#[32]⟩) ∧ Below W.heap.size W w' := fun W => Try.strings_Repeat ⟨#[32]⟩ 1 W (by omega) (by decide)
  obtain ⟨a', hbe⟩ : ∃ a', a ++ (⟨#[32]⟩ : ByteArray) = a' := ⟨_, rfl⟩
  have hbd : a'.data.toList = a.data.toList ++ [32] := by rw [← hbe, ByteArray.data_append, Array.toList_append]
  have hbs2 : a'.size = 1 := by rw [← hbe, ByteArray.size_append, has]; rfl
  have HBD := Lib.hid hbd
  have hal : a.data.toList.length = 0 := by have : a.data.toList.length = a.size := by simp
                                            omega
  have hbl : b.data.toList.length = 1 := by have : b.data.toList.length = b.size := by simp
                                            omega
  have HAL := Lib.hid hal; have HBL := Lib.hid hbl
  clear hal hbl hbd
  go_quiet (fail)
  go_wp2_with (go_at_call 50; refine (hrep1 _).mono ?_)
  (first | rintro e w1 rfl hw1 | rintro e w1 ⟨rfl, hw1⟩)
  go_wp2_with (fail)
  have f1 := (HF.out.drewN nq).trans (Bld.Fr.of_below hw1 (fun _ => False)) (fun _ h => h.elim)
  have e1 : Below B W w1 := f1.below hBW (fun _ h => h.elim)
  have t1 := H3.out.fr f1
  have s1 : B ≤ w1.heap.size := Nat.le_trans hBW f1.size
  refine (Bld.writeString w1 bl rl L a' t1.h1 (by omega)).mono ?_
  (first | rintro e w2 rfl hw2 | rintro e w2 ⟨rfl, hw2⟩)
  obtain ⟨rl', t2, hr2, hf2⟩ := t1.wrote hw2
  obtain ⟨gl, c2⟩ := Bld.carry hBl hrl s1 hr2 hf2
  have NL : Hid (rl' = rl ∨ ∃ k, rl' = some k ∧ W.heap.size ≤ k) := Lib.hid (hr2.imp_right (fun ⟨k, e, h⟩ => ⟨k, e, Nat.le_trans f1.size h⟩)); have H2 := Lib.hid t2; have E2 := Lib.hid (e1.trans c2); have S2 := Lib.hid (Nat.le_trans s1 hf2.size); have GL := Lib.hid gl
  have FF2 := Lib.hid ((Bld.Fr.mono f1 (S2 := align_each.SS bl bm br rl rm rr) (fun _ h => h.elim)).trans hf2 (fun i h => .inl (h.elim (fun h => .inl h) (fun h => .inr (.inr (.inr (.inl h)))))))
  clear t1 t2 hw2 f1 e1 s1 hr2 hf2 gl c2
  go_wp2_with (go_at_call 50; refine (hrep _).mono ?_)
  (first | rintro e w3 rfl hw3 | rintro e w3 ⟨rfl, hw3⟩)
  go_wp2_with (fail)
  have f3 := Bld.Fr.of_below hw3 (fun _ => False)
  have e3 : Below B W w3 := E2.out.trans (f3.below S2.out (fun _ h => h.elim))
  have t3 := (H2.out.fr f3).rot.rot
  have s3 : B ≤ w3.heap.size := Nat.le_trans S2.out f3.size
  refine (Bld.writeString w3 br rr R b t3.h1 (by omega)).mono ?_
  (first | rintro e w4 rfl hw4 | rintro e w4 ⟨rfl, hw4⟩)
  obtain ⟨rr', t4, hr4, hf4⟩ := t3.wrote hw4
  obtain ⟨gr, c4⟩ := Bld.carry hBr hrr s3 hr4 hf4
  have NR : Hid (rr' = rr ∨ ∃ k, rr' = some k ∧ W.heap.size ≤ k) := Lib.hid (hr4.imp_right (fun ⟨k, e, h⟩ => ⟨k, e, Nat.le_trans (Nat.le_trans FF2.out.size f3.size) h⟩)); have H4 := Lib.hid t4.rot.rot; have E4 := Lib.hid (e3.trans c4); have S4 := Lib.hid (Nat.le_trans s3 hf4.size); have GR := Lib.hid gr
  have FF4 := Lib.hid ((FF2.out.trans f3 (fun _ h => h.elim)).trans hf4 (fun i h => .inl (h.elim (fun h => .inr (.inr (.inl h))) (fun h => .inr (.inr (.inr (.inr (.inr h))))))))
  clear t3 t4 hw4 f3 e3 s3 hr4 hf4 gr c4 hrep hrep1 hae hbe
  have hc5 : ∀ n, ((w4.drewN n).alloc (.cells #[Value.string ⟨#[32]⟩, Value.string ⟨#[40, 41]⟩] 9)).cell? ⟨w4.heap.size, 0, none⟩ = some (.string ⟨#[32]⟩) := fun n => (Lib.cell_of_heap (heap_alloc_new (w4.drewN n) _) 0).trans rfl
  go_wp2_with (fail)
  go_quiet (fail)
  go_wp2_with (fail)
  have f5 := ((Bld.Fr.refl (fun _ => False) w4).drewN nq).alloc (.cells #[Value.string ⟨#[32]⟩, Value.string ⟨#[40, 41]⟩] 9)
  have t5 := H4.out.fr f5
  have e5 := E4.out.trans (f5.below S4.out (fun _ h => h.elim))
  refine (Bld.writeString _ bm rm M ⟨#[32]⟩ t5.h1 (by show _ + 1 ≤ _; omega)).mono ?_
  (first | rintro e w5 rfl hw5 | rintro e w5 ⟨rfl, hw5⟩)
  obtain ⟨rm', t6, hr6, hf6⟩ := t5.wrote hw5
  obtain ⟨gm, c6⟩ := Bld.carry hBm hrm (Nat.le_trans S4.out f5.size) hr6 hf6
  have NM : Hid (rm' = rm ∨ ∃ k, rm' = some k ∧ W.heap.size ≤ k) := Lib.hid (hr6.imp_right (fun ⟨k, e, h⟩ => ⟨k, e, Nat.le_trans (Nat.le_trans FF4.out.size f5.size) h⟩)); have H6 := Lib.hid t6; have E6 := Lib.hid (e5.trans c6); have GM := Lib.hid gm
  have FF6 := Lib.hid ((FF4.out.trans f5 (fun _ h => h.elim)).trans hf6 (fun i h => .inl (h.elim (fun h => .inr (.inl h)) (fun h => .inr (.inr (.inr (.inr (.inl h))))))))
  clear f5 t5 e5 t6 hr6 hf6 gm c6 hw5 hc5
  go_wp2
  go_end0
  exact ⟨rfl, rl', rm', rr', by have := H6.out.rot.rot; rw [HBD.out] at this; exact this, NL.out, NM.out, NR.out, E6.out, FF6.out⟩
-- align.walk at a closure; align.Text
theorem align_walk.facts {k : Nat} {p q : ByteArray} {i j s i' j' c : Int} (hp : p.size ≤ 40) (hq : q.size ≤ 40) (h0 : 0 ≤ i) (h1 : i ≤ p.size) (h2 : 0 ≤ j) (h3 : j ≤ q.size)
    (h : align_step.f k p q i j s = some (i', j', c, true)) :
    (s = 0 ∧ i' = i + 1 ∧ j' = j + 1 ∧ i + 1 ≤ p.size ∧ j + 1 ≤ q.size ∧ ∃ t, align_agree.f (bt p i) (bt q j) = some t ∧ c = if t = true then 0 else 3)
      ∨ (s = 1 ∧ i' = i + 1 ∧ j' = j + 2 ∧ i + 1 ≤ p.size ∧ j + 2 ≤ q.size) ∨ (s = 2 ∧ i' = i + 2 ∧ j' = j + 1 ∧ i + 2 ≤ p.size ∧ j + 1 ≤ q.size)
      ∨ (s = 3 ∧ i' = i + 1 ∧ j' = j ∧ i + 1 ≤ p.size) ∨ (s = 4 ∧ i' = i ∧ j' = j + 1 ∧ j + 1 ≤ q.size) := by
  have e1 : ∀ x : Int, 0 ≤ x → x ≤ 100 → wrap64 x = x := fun x a b => by unfold wrap64; omega
  have hh : ∀ (a : ByteArray) (x : Int) (t : Bool), align_heavy.f a x = some t → t = true → x < a.size := by
    intro a x t ht hb
    unfold align_heavy.f at ht
    by_cases c1 : x < (a.size : Int)
    · exact c1
    · rw [if_neg c1] at ht; cases ht; cases hb
  have hl : ∀ (a : ByteArray) (x : Int) (t : Bool), 0 ≤ x → x ≤ 40 → align_lights.f a x = some t → t = true → x + 1 < a.size := by
    intro a x t x0 x1 ht hb
    unfold align_lights.f at ht
    rw [e1 (x + 1) (by omega) (by omega)] at ht
    by_cases c1 : x + 1 < (a.size : Int)
    · exact c1
    · rw [if_neg c1] at ht; cases ht; cases hb
  unfold align_step.f at h
  by_cases s0 : s = 0
  · subst s0
    rw [if_pos rfl] at h
    cases k with
    | zero => split at h <;> simp [align_step.j0] at h
    | succ k =>
      by_cases a1 : i = (p.size : Int)
      · rw [if_pos a1] at h; simp [align_step.j0] at h
      · rw [if_neg a1] at h
        by_cases a2 : j = (q.size : Int)
        · rw [show (j == (q.size : Int)) = true from by rw [beq_iff_eq]; exact a2] at h; simp [align_step.j0] at h
        · rw [show (j == (q.size : Int)) = false from by rw [beq_eq_false_iff_ne]; exact a2] at h
          simp only [align_step.j0] at h
          rw [if_neg (by decide), if_pos h0, if_pos (by omega), if_pos h2, if_pos (by omega)] at h
          obtain ⟨t, ht, h⟩ := Option.bind_eq_some_iff.1 h
          rw [e1 (i + 1) (by omega) (by omega), e1 (j + 1) (by omega) (by omega)] at h
          refine .inl ⟨rfl, ?_⟩
          cases t with
          | true => rw [if_pos rfl] at h; cases h; exact ⟨rfl, rfl, by omega, by omega, true, ht, rfl⟩
          | false => rw [if_neg (by decide)] at h; cases h; exact ⟨rfl, rfl, by omega, by omega, false, ht, rfl⟩
  · rw [if_neg s0] at h
    by_cases s1 : s = 1
    · subst s1
      rw [if_pos rfl] at h
      obtain ⟨t, ht, h⟩ := Option.bind_eq_some_iff.1 h
      cases t with
      | false => rw [if_neg (by decide)] at h; cases h
      | true =>
        rw [if_pos rfl] at h
        obtain ⟨u, hu, h⟩ := Option.bind_eq_some_iff.1 h
        rw [e1 (i + 1) (by omega) (by omega), e1 (j + 2) (by omega) (by omega)] at h
        cases h
        have g1 := hh _ _ _ ht rfl
        have g2 := hl _ _ _ h2 (by omega) hu rfl
        exact .inr (.inl ⟨rfl, rfl, rfl, by omega, by omega⟩)
    · rw [if_neg s1] at h
      by_cases s2 : s = 2
      · subst s2
        rw [if_pos rfl] at h
        obtain ⟨t, ht, h⟩ := Option.bind_eq_some_iff.1 h
        cases t with
        | false => rw [if_neg (by decide)] at h; cases h
        | true =>
          rw [if_pos rfl] at h
          obtain ⟨u, hu, h⟩ := Option.bind_eq_some_iff.1 h
          rw [e1 (i + 2) (by omega) (by omega), e1 (j + 1) (by omega) (by omega)] at h
          cases h
          have g1 := hl _ _ _ h0 (by omega) ht rfl
          have g2 := hh _ _ _ hu rfl
          exact .inr (.inr (.inl ⟨rfl, rfl, rfl, by omega, by omega⟩))
      · rw [if_neg s2] at h
        by_cases s3 : s = 3
        · subst s3
          rw [if_pos rfl, e1 (i + 1) (by omega) (by omega)] at h
          simp only [Option.some.injEq, Prod.mk.injEq, decide_eq_true_eq] at h
          obtain ⟨rfl, rfl, rfl, h⟩ := h
          exact .inr (.inr (.inr (.inl ⟨rfl, rfl, rfl, by omega⟩)))
        · rw [if_neg s3] at h
          by_cases s4 : s = 4
          · subst s4
            rw [if_pos rfl, e1 (j + 1) (by omega) (by omega)] at h
            simp only [Option.some.injEq, Prod.mk.injEq, decide_eq_true_eq] at h
            obtain ⟨rfl, rfl, rfl, h⟩ := h
            exact .inr (.inr (.inr (.inr ⟨rfl, rfl, rfl, by omega⟩)))
          · rw [if_neg s4] at h
            simp at h
def align_Text.la (p : ByteArray) (s i i' : Int) : List UInt8 := (p.extract i.toNat i'.toNat).data.toList ++ (if s = 1 ∨ s = 4 then [32] else [])
def align_Text.lb (q : ByteArray) (s j j' : Int) : List UInt8 := (q.extract j.toNat j'.toNat).data.toList ++ (if s = 2 ∨ s = 3 then [32] else [])
def align_Text.mk (s c : Int) : List UInt8 := if s = 0 then (if c = 0 then [61] else [33]) else if s = 1 ∨ s = 2 then [40, 41] else [32]
theorem align_walk.first (p : ByteArray) (i : Nat) (h : i < p.size) : ∀ h2 : 0 < (p.extract i (i + 1)).size, (((p.extract i (i + 1))[0]'h2).toNat : Int) = bt p (i : Int) := by
  intro h2
  rw [← bt_at p (i : Int) (by rw [Int.toNat_natCast]; exact h)]
  simp [ByteArray.getElem_extract]
/-- The closure, whatever the step. -/
theorem align_each.any_ (W : World) (bp bq bl bm br : Nat) (rl rm rr : Option Nat) (L M R : List UInt8) (p q : ByteArray) (k : Nat) (i j s i' j' c : Int)
    (hp : W.heap[bp]? = some (.cells #[.string p] 9 (0, 0))) (hq : W.heap[bq]? = some (.cells #[.string q] 9 (0, 0))) (h3 : align_each.T3 W bl bm br rl rm rr L M R)
    (hps : p.size ≤ 40) (hqs : q.size ≤ 40) (i0 : 0 ≤ i) (i1 : i ≤ p.size) (j0 : 0 ≤ j) (j1 : j ≤ q.size) (hst : align_step.f k p q i j s = some (i', j', c, true))
    (hL : L.length ≤ 1000) (hM : M.length ≤ 1000) (hR : R.length ≤ 1000) :
    Calls Try.prog 48 #[.agg #[.int .i64 i, .int .i64 j], .agg #[.int .i64 i', .int .i64 j'], .int .i64 s, .pointer (some ⟨bp, 0, none⟩), .pointer (some ⟨bq, 0, none⟩), .pointer (some ⟨bl, 0, none⟩), .pointer (some ⟨br, 0, none⟩), .pointer (some ⟨bm, 0, none⟩)] W fun e w' =>
      e = .returned (.tuple #[]) ∧ ∃ rl' rm' rr', align_each.T3 w' bl bm br rl' rm' rr' (L ++ align_Text.la p s i i') (M ++ align_Text.mk s c) (R ++ align_Text.lb q s j j') ∧ (rl' = rl ∨ ∃ k, rl' = some k ∧ W.heap.size ≤ k) ∧ (rm' = rm ∨ ∃ k, rm' = some k ∧ W.heap.size ≤ k) ∧ (rr' = rr ∨ ∃ k, rr' = some k ∧ W.heap.size ≤ k) ∧ Below 0 W w' ∧ Bld.Fr (align_each.SS bl bm br rl rm rr) W w' := by
  have hf := align_walk.facts hps hqs i0 i1 j0 j1 hst
  obtain ⟨i, rfl⟩ := Int.eq_ofNat_of_zero_le i0
  obtain ⟨j, rfl⟩ := Int.eq_ofNat_of_zero_le j0
  rcases hf with ⟨rfl, rfl, rfl, g1, g2, t, ht, rfl⟩ | ⟨rfl, rfl, rfl, g1, g2⟩ | ⟨rfl, rfl, rfl, g1, g2⟩ | ⟨rfl, rfl, rfl, g1⟩ | ⟨rfl, rfl, rfl, g2⟩
  · have := align_each.match_ W bp bq bl bm br rl rm rr L M R p q (p.extract i (i + 1)) (q.extract j (j + 1)) i (i + 1) j (j + 1) (bt p i) (bt q j) t hp hq h3 (by omega) (by omega) (by omega) (by omega) hps hqs rfl (by rw [ByteArray.size_extract]; omega) (by rw [ByteArray.size_extract]; omega) rfl
      (align_walk.first p i (by omega)) (align_walk.first q j (by omega)) ht hL hM hR 0 (Nat.zero_le _) (Nat.zero_le _) (Nat.zero_le _) (Nat.zero_le _) (fun _ _ => Nat.zero_le _) (fun _ _ => Nat.zero_le _) (fun _ _ => Nat.zero_le _)
    have e1 : align_Text.la p 0 i ((i : Int) + 1) = (p.extract i (i + 1)).data.toList := by unfold align_Text.la; rw [if_neg (by decide), List.append_nil]; rfl
    have e2 : align_Text.lb q 0 j ((j : Int) + 1) = (q.extract j (j + 1)).data.toList := by unfold align_Text.lb; rw [if_neg (by decide), List.append_nil]; rfl
    have e3 : align_Text.mk 0 (if t = true then 0 else 3) = [if t = true then 61 else 33] := by cases t <;> rfl
    rw [e1, e2, e3]
    exact this
  · have := align_each.left_ W bp bq bl bm br rl rm rr L M R p q (p.extract i (i + 1)) (q.extract j (j + 2)) i (i + 1) j (j + 2) hp hq h3 (by omega) (by omega) (by omega) (by omega) hps hqs rfl (by rw [ByteArray.size_extract]; omega) (by rw [ByteArray.size_extract]; omega) rfl
      hL hM hR 0 (Nat.zero_le _) (Nat.zero_le _) (Nat.zero_le _) (Nat.zero_le _) (fun _ _ => Nat.zero_le _) (fun _ _ => Nat.zero_le _) (fun _ _ => Nat.zero_le _)
    have e1 : align_Text.la p 1 i ((i : Int) + 1) = (p.extract i (i + 1)).data.toList ++ [32] := by unfold align_Text.la; rw [if_pos (by decide)]; rfl
    have e2 : align_Text.lb q 1 j ((j : Int) + 2) = (q.extract j (j + 2)).data.toList := by unfold align_Text.lb; rw [if_neg (by decide), List.append_nil]; rfl
    rw [e1, e2]
    exact this
  · have := align_each.right_ W bp bq bl bm br rl rm rr L M R p q (p.extract i (i + 2)) (q.extract j (j + 1)) i (i + 2) j (j + 1) hp hq h3 (by omega) (by omega) (by omega) (by omega) hps hqs rfl (by rw [ByteArray.size_extract]; omega) (by rw [ByteArray.size_extract]; omega) rfl
      hL hM hR 0 (Nat.zero_le _) (Nat.zero_le _) (Nat.zero_le _) (Nat.zero_le _) (fun _ _ => Nat.zero_le _) (fun _ _ => Nat.zero_le _) (fun _ _ => Nat.zero_le _)
    have e1 : align_Text.la p 2 i ((i : Int) + 2) = (p.extract i (i + 2)).data.toList := by unfold align_Text.la; rw [if_neg (by decide), List.append_nil]; rfl
    have e2 : align_Text.lb q 2 j ((j : Int) + 1) = (q.extract j (j + 1)).data.toList ++ [32] := by unfold align_Text.lb; rw [if_pos (by decide)]; rfl
    rw [e1, e2]
    exact this
  · have := align_each.skipl W bp bq bl bm br rl rm rr L M R p q (p.extract i (i + 1)) (q.extract j j) i (i + 1) j j hp hq h3 (by omega) (by omega) (by omega) (by omega) hps hqs rfl (by rw [ByteArray.size_extract]; omega) (by rw [ByteArray.size_extract]; omega) rfl
      hL hM hR 0 (Nat.zero_le _) (Nat.zero_le _) (Nat.zero_le _) (Nat.zero_le _) (fun _ _ => Nat.zero_le _) (fun _ _ => Nat.zero_le _) (fun _ _ => Nat.zero_le _)
    have e1 : align_Text.la p 3 i ((i : Int) + 1) = (p.extract i (i + 1)).data.toList := by unfold align_Text.la; rw [if_neg (by decide), List.append_nil]; rfl
    have e2 : align_Text.lb q 3 j (j : Int) = (q.extract j j).data.toList ++ [32] := by unfold align_Text.lb; rw [if_pos (by decide)]; rfl
    rw [e1, e2]
    exact this
  · have := align_each.skipr W bp bq bl bm br rl rm rr L M R p q (p.extract i i) (q.extract j (j + 1)) i i j (j + 1) hp hq h3 (by omega) (by omega) (by omega) (by omega) hps hqs rfl (by rw [ByteArray.size_extract]; omega) (by rw [ByteArray.size_extract]; omega) rfl
      hL hM hR 0 (Nat.zero_le _) (Nat.zero_le _) (Nat.zero_le _) (Nat.zero_le _) (fun _ _ => Nat.zero_le _) (fun _ _ => Nat.zero_le _) (fun _ _ => Nat.zero_le _)
    have e1 : align_Text.la p 4 i (i : Int) = (p.extract i i).data.toList ++ [32] := by unfold align_Text.la; rw [if_pos (by decide)]; rfl
    have e2 : align_Text.lb q 4 j ((j : Int) + 1) = (q.extract j (j + 1)).data.toList := by unfold align_Text.lb; rw [if_neg (by decide), List.append_nil]; rfl
    rw [e1, e2]
    exact this
def align_walk.l0 : Nat → ByteArray → ByteArray → Int → List Int → Int → Int → Int → Option (Int × Bool)
  | 0, _, _, _, _, _, _, _ => none
  | k + 1, p, q, s, l, n, i, j => if n < (l.length : Int) then (if 0 ≤ n then ((align_step.f k p q i j (rd l n)).bind fun b => (if b.2.2.2 = true then (align_walk.l0 k p q (wrap64 (s + b.2.2.1)) l (n + 1) b.1 b.2.1) else (some (0, false)))) else none) else (some (s, (i == (p.size : Int) && (j == (q.size : Int)))))
theorem align_walk.eqA (d : Nat) (w : World) (x0 y0 : Int) (x1 y1 : Int) :
    (Op.equalIn (d + 2) 60 (.agg #[.int .i64 x0, .int .i64 x1]) (.agg #[.int .i64 y0, .int .i64 y1])).run Try.prog w = .ok (x0 == y0 && (x1 == y1)) w := by
  refine eqA_of Try.underlying60 (by kernel_rfl) ?_
  refine eqf_cons (by rfl) (by go_simp; rfl) (by go_simp; rfl) (by go_simp) ?_
  exact eqf_last (by rfl) (by go_simp; rfl) (by go_simp; rfl) (by go_simp)
attribute [local go_sem high] align_walk.eqA
set_option maxHeartbeats 4000000 in
set_option maxRecDepth 100000 in
theorem align_walk.at_ (k : Nat) (p q : ByteArray) (A2 : Option Addr) (c2 : Nat) (l2 : List Int) (r1 : Int) (r2 : Bool) (w0 w : World) (bp bq bl bm br : Nat)
    (hr2 : Kd.C (Kd.int .i64) w0 A2 l2.length l2) (hc2 : l2.length ≤ c2) (hb0 : Below w0.heap.size w0 w) (S0 : Nat → Prop) (hS0 : ∀ k, S0 k → w0.heap.size ≤ k)
    (J : Nat → Int → Int → Int → (Nat → Prop) → World → Prop)
    (hJf : ∀ kq n i j S T W W', J kq n i j S W → Bld.Fr T W W' → (∀ k, S k → ¬ T k) → J kq n i j S W')
    (hJl : ∀ kq n i j S W k, J kq n i j S W → S k → k < W.heap.size)
    (hcl : ∀ (kq : Nat) (n i j i' j' c : Int) (S : Nat → Prop) (W : World), 0 ≤ n → n < l2.length → align_step.f kq p q i j (rd l2 n) = some (i', j', c, true) → J (kq + 1) n i j S W →
      Calls Try.prog 48 #[.agg #[.int .i64 i, .int .i64 j], .agg #[.int .i64 i', .int .i64 j'], .int .i64 (rd l2 n), .pointer (some ⟨bp, 0, none⟩), .pointer (some ⟨bq, 0, none⟩), .pointer (some ⟨bl, 0, none⟩), .pointer (some ⟨br, 0, none⟩), .pointer (some ⟨bm, 0, none⟩)] W fun e w' => e = .returned (.tuple #[]) ∧ ∃ S', J kq (n + 1) i' j' S' w' ∧ (∀ k, S' k → S k ∨ W.heap.size ≤ k) ∧ Bld.Fr S W w')
    (hJ0 : J k 0 0 0 S0 w) (h : align_walk.l0 k p q 0 l2 0 0 0 = some (r1, r2)) :
    Calls Try.prog 42 #[.string p, .string q, .slice A2 l2.length c2, .func (.func 48) #[] #[.pointer (some ⟨bp, 0, none⟩), .pointer (some ⟨bq, 0, none⟩), .pointer (some ⟨bl, 0, none⟩), .pointer (some ⟨br, 0, none⟩), .pointer (some ⟨bm, 0, none⟩)]] w fun e w' =>
      e = .returned (.tuple #[.int .i64 r1, .bool r2]) ∧ Bld.Fr S0 w w' ∧ (r2 = true → ∃ kq n S', (l2.length : Int) ≤ n ∧ J (kq + 1) n p.size q.size S' w' ∧ ∀ k, S' k → S0 k ∨ w.heap.size ≤ k) := by
  have hnf : ∀ (W : World) (f : Fn) (x y : Array Value), (Sem.run Try.prog (Go.binOp BinOp.neq 67 (.func f x y) .nilFunc) W) = .ok (.bool true) W := fun W f x y => by first | rfl | (unfold Go.binOp; rfl) | (simp [Go.binOp, go_sem]; done)
  have hX0 : ∀ k, S0 k → k < w.heap.size := fun k hk => hJl _ _ _ _ _ _ k hJ0 hk
  have HR := Lib.hid hr2; have HB0 := Lib.hid hb0; have HS0 := Lib.hid hS0; have HJF := Lib.hid hJf; have HJL := Lib.hid hJl; have HCL := Lib.hid hcl; have HJ0 := Lib.hid hJ0; have HH := Lib.hid h; have HX0 := Lib.hid hX0
  have hlen := hr2.2.1
  clear hr2 hb0 hS0 hJf hJl hcl hJ0 h hX0
  go_enter Try.func42, Try.ntmps42
  go_wp2_with (fail)
  go_loopg [11, 20] k (fun kq v11 v20 wr => ∃ (x11 x20 i j : Int) (S : Nat → Prop), v11 = .int .i64 x11 ∧ v20 = .int .i64 x20 ∧ Hid (align_walk.l0 kq p q x11 l2 x20 i j = some (r1, r2)) ∧ Hid (kq ≤ k) ∧ Hid (J kq x20 i j S wr) ∧ Hid (∀ k, S k → S0 k ∨ w.heap.size < k) ∧ Hid (Bld.Fr S0 w wr) ∧ Hid (wr.heap[w.heap.size]? = some (.cells #[.int .i64 i, .int .i64 j] 60 (0, 0))))
  case atStart => exact ⟨0, 0, 0, 0, S0, rfl, rfl, HH, Lib.hid (Nat.le_refl _), Lib.hid (HJF.out _ _ _ _ _ (fun _ => False) _ _ HJ0.out ((Bld.Fr.refl _ w).alloc _) (fun _ _ h => h)), Lib.hid (fun k h => .inl h), Lib.hid ((Bld.Fr.refl _ w).alloc _), Lib.hid (heap_alloc_new w _)⟩
  case round =>
    obtain ⟨x11, x20, i, j, S, rfl, rfl, HA, HK, HJ, HS, HF, HP⟩ := hrel
    cases gk with
    | zero => exact absurd HA.out (by simp [align_walk.l0])
    | succ k1 =>
      have H := HA.out
      clear HA
      simp only [align_walk.l0] at H
      have c0 : wr.cell? ⟨w.heap.size, 0, none⟩ = some (.int .i64 i) := by rw [Lib.cell_of_heap HP.out]; rfl
      have c1 : wr.cell? ⟨w.heap.size, 1, none⟩ = some (.int .i64 j) := by rw [Lib.cell_of_heap HP.out]; rfl
      by_cases c7 : x20 < (l2.length : Int)
      · rw [if_pos c7] at H
        by_cases c8 : 0 ≤ x20
        · rw [if_pos c8] at H
          obtain ⟨⟨i', j', c, t⟩, hst, H⟩ := Option.bind_eq_some_iff.1 H
          have HST := Lib.hid hst
          obtain ⟨ad, e189, hx⟩ := Kd.at_int HR.out x20 c8 c7
          cases e189
          have hbw : Below w0.heap.size w0 wr := HB0.out.trans (HF.out.below HB0.out.size HS0.out)
          replace hx := (hbw.cell (World.block_lt_of_cell? w0 _ hx)).trans hx
          have HBW := Lib.hid hbw
          have HH1 := Lib.hid H
          clear hst H hbw
          cases t with
          | true =>
            have h1 : align_walk.l0 k1 p q (wrap64 (x11 + c)) l2 (x20 + 1) i' j' = some (r1, r2) := HH1.out
            have HH2 := Lib.hid h1
            clear h1
            go_wp2_with (go_at_call 43; refine (align_step.calls k1 p q i j (rd l2 x20) i' j' c true _ HST.out).mono ?_)
            (first | rintro e w1 rfl hb1 | rintro e w1 ⟨rfl, hb1⟩)
            have hlt1 : w.heap.size < w1.heap.size := Nat.lt_of_lt_of_le (Array.getElem?_eq_some_iff.1 HP.out).1 (below_size hb1)
            have hcp2 : ∀ o, (w1.alloc o).cell? ⟨w.heap.size, 0, none⟩ = some (.int .i64 i) := fun o => (World.cell?_of_block (Lib.alloc_old w1 o _ hlt1)).trans (pw_cell_below hb1 c0)
            have hcq2 : ∀ o, (w1.alloc o).cell? ⟨w.heap.size, 1, none⟩ = some (.int .i64 j) := fun o => (World.cell?_of_block (Lib.alloc_old w1 o _ hlt1)).trans (pw_cell_below hb1 c1)
            have hn0 : (w1.alloc (.cells #[.int .i64 i', .int .i64 j'] 60)).cell? ⟨w1.heap.size, 0, none⟩ = some (.int .i64 i') := (Lib.cell_of_heap (heap_alloc_new w1 _) 0).trans rfl
            have hn1 : (w1.alloc (.cells #[.int .i64 i', .int .i64 j'] 60)).cell? ⟨w1.heap.size, 1, none⟩ = some (.int .i64 j') := (Lib.cell_of_heap (heap_alloc_new w1 _) 1).trans rfl
            go_wp2_with (fail)
            have fA := (Bld.Fr.of_below hb1 (fun _ => False)).alloc (.cells #[.int .i64 i', .int .i64 j'] 60)
            have hXS : ¬ S w.heap.size := fun hs => by
              rcases HS.out _ hs with h | h
              · have := HX0.out _ h; omega
              · omega
            have hYS : ¬ S w1.heap.size := fun hs => by have h1 := HJL.out _ _ _ _ _ _ _ HJ.out hs; have h2 := below_size hb1; omega
            have jA := HJF.out _ _ _ _ _ _ _ _ HJ.out fA (fun _ _ h => h)
            have FA := Lib.hid fA; have JA := Lib.hid jA; have HXS := Lib.hid hXS; have HYS := Lib.hid hYS
            clear fA jA hXS hYS
            refine (HCL.out k1 x20 i j i' j' c S _ c8 c7 HST.out JA.out).mono ?_
            rintro e w2 ⟨rfl, S', hJ', hS', hf'⟩
            have hX1 : (w1.alloc (.cells #[.int .i64 i', .int .i64 j'] 60)).heap[w.heap.size]? = some (.cells #[.int .i64 i, .int .i64 j] 60 (0, 0)) := FA.out.heap HP.out (fun h => h)
            have kX : w2.heap[w.heap.size]? = some (.cells #[.int .i64 i, .int .i64 j] 60 (0, 0)) := hf'.heap hX1 HXS.out
            have kY : w2.heap[w1.heap.size]? = some (.cells #[.int .i64 i', .int .i64 j'] 60 (0, 0)) := hf'.heap (heap_alloc_new w1 _) HYS.out
            have d0 : w2.cell? ⟨w.heap.size, 0, none⟩ = some (.int .i64 i) := by rw [Lib.cell_of_heap kX]; rfl
            have d1 : w2.cell? ⟨w.heap.size, 1, none⟩ = some (.int .i64 j) := by rw [Lib.cell_of_heap kX]; rfl
            have f0 : w2.frozen? ⟨w.heap.size, 0, none⟩ = false := Lib.frozen_of_heap kX 0
            have f1 : w2.frozen? ⟨w.heap.size, 1, none⟩ = false := Lib.frozen_of_heap kX 1
            have y0 : w2.cell? ⟨w1.heap.size, 0, none⟩ = some (.int .i64 i') := by rw [Lib.cell_of_heap kY]; rfl
            have y1 : w2.cell? ⟨w1.heap.size, 1, none⟩ = some (.int .i64 j') := by rw [Lib.cell_of_heap kY]; rfl
            have gS : ∀ k, S' k → S0 k ∨ w.heap.size < k := fun k hk => by
              rcases hS' k hk with h | h
              · exact HS.out k h
              · have h2 := (Array.getElem?_eq_some_iff.1 hX1).1
                right; omega
            have hXS' : ¬ S' w.heap.size := fun hs => by
              rcases gS _ hs with h | h
              · have := HX0.out _ h; omega
              · omega
            have gF : Bld.Fr S0 w w2 := (HF.out.trans FA.out (fun _ h => h.elim)).trans hf' (fun k hk => (HS.out k hk).imp_right (fun h => Nat.le_of_lt h))
            have KX := Lib.hid kX; have GS := Lib.hid gS; have GF := Lib.hid gF; have JN := Lib.hid hJ'; have HXS' := Lib.hid hXS'
            clear kX kY gS gF hJ' hf' hS' hXS' hX1 hcp2 hcq2 hn0 hn1
            go_wp2_with (fail)
            have hF2 : Bld.Fr (fun k => k = w.heap.size) w2 ((w2.setCell ⟨w.heap.size, 0, none⟩ (.int .i64 i')).setCell ⟨w.heap.size, 1, none⟩ (.int .i64 j')) := ((Bld.Fr.refl (fun k => k = w.heap.size) _).setCell (p := ⟨w.heap.size, 0, none⟩) (.inl rfl) _).setCell (p := ⟨w.heap.size, 1, none⟩) (.inl rfl) _
            have hX2 : ((w2.setCell ⟨w.heap.size, 0, none⟩ (.int .i64 i')).setCell ⟨w.heap.size, 1, none⟩ (.int .i64 j')).heap[w.heap.size]? = some (.cells #[.int .i64 i', .int .i64 j'] 60 (0, 0)) := by
              simp [World.setCell, Array.getElem?_modify, KX.out]
            have HF2 := Lib.hid hF2; have HX2 := Lib.hid hX2
            clear hF2 hX2
            go_roundg k1
            case measure => have := HK.out; omega
            case rel => exact ⟨_, _, i', j', S', rfl, rfl, HH2, Lib.hid (by have := HK.out; omega), Lib.hid (HJF.out _ _ _ _ _ _ _ _ JN.out HF2.out (fun k hk e => HXS'.out (e ▸ hk))), GS, Lib.hid (GF.out.trans HF2.out (fun k hk => .inr (by omega))), HX2⟩
          | false =>
            have hr : (0 : Int) = r1 ∧ false = r2 := by have h1 : some ((0 : Int), false) = some (r1, r2) := HH1.out; exact Prod.mk.inj (Option.some.inj h1)
            obtain ⟨rfl, rfl⟩ := hr
            go_wp2_with (go_at_call 43; refine (align_step.calls k1 p q i j (rd l2 x20) i' j' c false _ HST.out).mono ?_)
            (first | rintro e w1 rfl hb1 | rintro e w1 ⟨rfl, hb1⟩)
            have fA := fun o => (HF.out.trans (Bld.Fr.of_below hb1 (fun _ => False)) (fun _ h => h.elim)).alloc o
            have FA := Lib.hid fA
            clear fA
            go_wp2
            go_ret2
            exact ⟨rfl, FA.out _, fun h => by cases h⟩
        · rw [if_neg c8] at H; cases H
      · rw [if_neg c7] at H
        obtain ⟨rfl, rfl⟩ := Prod.mk.inj (Option.some.inj H)
        clear H
        go_wp2
        go_quiet (fail)
        go_wp2
        go_ret2
        have hFN := fun n => HF.out.drewN (n := n)
        have hJN := fun n => HJF.out _ _ _ _ _ (fun _ => False) _ _ HJ.out ((Bld.Fr.refl _ wr).drewN n) (fun _ _ h => h)
        refine ⟨rfl, hFN _, fun h => ⟨k1, x20, S, by omega, ?_, fun k hk => (HS.out k hk).imp_right (fun h => Nat.le_of_lt h)⟩⟩
        simp only [Bool.and_eq_true, beq_iff_eq] at h
        obtain ⟨rfl, rfl⟩ := h
        exact hJN _
def align_Text.t0 : Nat → ByteArray → ByteArray → List Int → Int → Int → Int → List UInt8 → List UInt8 → List UInt8 → Option (List UInt8 × List UInt8 × List UInt8)
  | 0, _, _, _, _, _, _, _, _, _ => none
  | k + 1, p, q, l, n, i, j, L, M, R => if n < (l.length : Int) then ((align_step.f k p q i j (rd l n)).bind fun b => (if b.2.2.2 = true then (if L.length ≤ 1000 ∧ M.length ≤ 1000 ∧ R.length ≤ 1000 then (align_Text.t0 k p q l (n + 1) b.1 b.2.1 (L ++ align_Text.la p (rd l n) i b.1) (M ++ align_Text.mk (rd l n) b.2.2.1) (R ++ align_Text.lb q (rd l n) j b.2.1)) else none) else some ([], [], []))) else some (L, M, R)
def align_Text.out (t : List UInt8 × List UInt8 × List UInt8) : ByteArray := (((((⟨t.1.toArray⟩ : ByteArray) ++ (⟨#[10]⟩ : ByteArray)) ++ (⟨t.2.1.toArray⟩ : ByteArray)) ++ (⟨#[10]⟩ : ByteArray)) ++ (⟨t.2.2.toArray⟩ : ByteArray)) ++ (⟨#[10]⟩ : ByteArray)
def align_Text.f (k : Nat) (a0 : ByteArray) (a1 : ByteArray) (l2 : List Int) : Option (ByteArray × Int) :=
  (align_given.f k a0 a1).bind fun e => if e = 0 then (if a0.size ≤ 40 ∧ a1.size ≤ 40 then ((align_walk.l0 k a0 a1 0 l2 0 0 0).bind fun r => (align_Text.t0 k a0 a1 l2 0 0 0 [] [] []).bind fun t => if t.1.length ≤ 2000 ∧ t.2.1.length ≤ 2000 ∧ t.2.2.length ≤ 2000 then (if r.2 = true then some (align_Text.out t, 0) else some (⟨#[]⟩, 1)) else none) else none) else some (⟨#[]⟩, e)
theorem align_walk.mono_l : ∀ k, ∀ y0 y1 y2 y3 y4 y5 y6, LeO (align_walk.l0 k y0 y1 y2 y3 y4 y5 y6) (align_walk.l0 (k + 1) y0 y1 y2 y3 y4 y5 y6)
  | 0 => fun _ _ _ _ _ _ _ r h => by simp [align_walk.l0] at h
  | k + 1 => by
    have ih0 := align_walk.mono_l k
    intro y0 y1 y2 y3 y4 y5 y6
    rw [align_walk.l0, align_walk.l0]
    refine LeO.ite (LeO.ite (LeO.bind (align_step.mono _ _ _ _ _ _) fun _ => LeO.ite (ih0 _ _ _ _ _ _ _) (LeO.refl _)) (LeO.refl _)) (LeO.refl _)
theorem align_Text.mono_l : ∀ k, ∀ y0 y1 y2 y3 y4 y5 y6 y7 y8, LeO (align_Text.t0 k y0 y1 y2 y3 y4 y5 y6 y7 y8) (align_Text.t0 (k + 1) y0 y1 y2 y3 y4 y5 y6 y7 y8)
  | 0 => fun _ _ _ _ _ _ _ _ _ r h => by simp [align_Text.t0] at h
  | k + 1 => by
    have ih0 := align_Text.mono_l k
    intro y0 y1 y2 y3 y4 y5 y6 y7 y8
    rw [align_Text.t0, align_Text.t0]
    refine LeO.ite (LeO.bind (align_step.mono _ _ _ _ _ _) fun _ => LeO.ite (LeO.ite (ih0 _ _ _ _ _ _ _ _ _) (LeO.refl _)) (LeO.refl _)) (LeO.refl _)
theorem align_Text.mono : ∀ a0 a1 a2 k, LeO (align_Text.f k a0 a1 a2) (align_Text.f (k + 1) a0 a1 a2) := by
  intro a0 a1 a2 k
  unfold align_Text.f
  refine LeO.bind (align_given.mono _ _ _) fun _ => LeO.ite (LeO.ite (LeO.bind (align_walk.mono_l _ _ _ _ _ _ _ _) fun _ => LeO.bind (align_Text.mono_l _ _ _ _ _ _ _ _ _ _) fun _ => LeO.refl _) (LeO.refl _)) (LeO.refl _)
def align_Text.J (p q : ByteArray) (l2 : List Int) (fin : List UInt8 × List UInt8 × List UInt8) (bp bq bl bm br : Nat) (kq : Nat) (n i j : Int) (S : Nat → Prop) (W : World) : Prop :=
  ∃ L M R rl rm rr, align_Text.t0 kq p q l2 n i j L M R = some fin ∧ align_each.T3 W bl bm br rl rm rr L M R ∧ W.heap[bp]? = some (.cells #[.string p] 9 (0, 0)) ∧ W.heap[bq]? = some (.cells #[.string q] 9 (0, 0)) ∧ 0 ≤ i ∧ i ≤ p.size ∧ 0 ≤ j ∧ j ≤ q.size ∧
    (∀ k, S k ↔ k = bp ∨ k = bq ∨ align_each.SS bl bm br rl rm rr k) ∧ (bp ≠ bl ∧ bp ≠ bm ∧ bp ≠ br ∧ bq ≠ bl ∧ bq ≠ bm ∧ bq ≠ br) ∧ (∀ k, rl = some k ∨ rm = some k ∨ rr = some k → k ≠ bp ∧ k ≠ bq)
theorem align_each.T3.frS {W W' : World} {b1 b2 b3 : Nat} {r1 r2 r3 : Option Nat} {l1 l2 l3 : List UInt8} {T : Nat → Prop} (h : align_each.T3 W b1 b2 b3 r1 r2 r3 l1 l2 l3) (hf : Bld.Fr T W W') (hT : ∀ k, align_each.SS b1 b2 b3 r1 r2 r3 k → ¬ T k) : align_each.T3 W' b1 b2 b3 r1 r2 r3 l1 l2 l3 :=
  ⟨h.h1.fr hf (hT _ (.inl rfl)) (fun k hk => hT _ (.inr (.inr (.inr (.inl hk.symm))))), h.h2.fr hf (hT _ (.inr (.inl rfl))) (fun k hk => hT _ (.inr (.inr (.inr (.inr (.inl hk.symm)))))), h.h3.fr hf (hT _ (.inr (.inr (.inl rfl)))) (fun k hk => hT _ (.inr (.inr (.inr (.inr (.inr hk.symm)))))), h.d12, h.d13, h.d23, h.r1b, h.r2b, h.r3b, h.r12, h.r13, h.r23⟩
theorem align_Text.Jf {p q : ByteArray} {l2 : List Int} {fin : List UInt8 × List UInt8 × List UInt8} {bp bq bl bm br : Nat} (kq : Nat) (n i j : Int) (S T : Nat → Prop) (W W' : World) (h : align_Text.J p q l2 fin bp bq bl bm br kq n i j S W) (hf : Bld.Fr T W W') (hT : ∀ k, S k → ¬ T k) : align_Text.J p q l2 fin bp bq bl bm br kq n i j S W' := by
  obtain ⟨L, M, R, rl, rm, rr, h1, h2, h3, h4, h5, h6, h7, h8, h9, h10, h11⟩ := h
  exact ⟨L, M, R, rl, rm, rr, h1, h2.frS hf (fun k hk => hT _ ((h9 k).2 (.inr (.inr hk)))), hf.heap h3 (hT _ ((h9 _).2 (.inl rfl))), hf.heap h4 (hT _ ((h9 _).2 (.inr (.inl rfl)))), h5, h6, h7, h8, h9, h10, h11⟩
theorem align_Text.Jl {p q : ByteArray} {l2 : List Int} {fin : List UInt8 × List UInt8 × List UInt8} {bp bq bl bm br : Nat} (kq : Nat) (n i j : Int) (S : Nat → Prop) (W : World) (k : Nat) (h : align_Text.J p q l2 fin bp bq bl bm br kq n i j S W) (hk : S k) : k < W.heap.size := by
  obtain ⟨L, M, R, rl, rm, rr, h1, h2, h3, h4, h5, h6, h7, h8, h9, h10, h11⟩ := h
  rcases (h9 k).1 hk with rfl | rfl | rfl | rfl | rfl | h | h | h
  · exact (Array.getElem?_eq_some_iff.1 h3).1
  · exact (Array.getElem?_eq_some_iff.1 h4).1
  · exact h2.h1.lt.1
  · exact h2.h2.lt.1
  · exact h2.h3.lt.1
  · exact h2.h1.lt.2 k h.symm
  · exact h2.h2.lt.2 k h.symm
  · exact h2.h3.lt.2 k h.symm
theorem align_Text.Jc {p q : ByteArray} (hps : p.size ≤ 40) (hqs : q.size ≤ 40) {l2 : List Int} {fin : List UInt8 × List UInt8 × List UInt8} {bp bq bl bm br : Nat} (kq : Nat) (n i j i' j' c : Int) (S : Nat → Prop) (W : World) (n0 : 0 ≤ n) (n1 : n < l2.length)
    (hst : align_step.f kq p q i j (rd l2 n) = some (i', j', c, true)) (h : align_Text.J p q l2 fin bp bq bl bm br (kq + 1) n i j S W) :
    Calls Try.prog 48 #[.agg #[.int .i64 i, .int .i64 j], .agg #[.int .i64 i', .int .i64 j'], .int .i64 (rd l2 n), .pointer (some ⟨bp, 0, none⟩), .pointer (some ⟨bq, 0, none⟩), .pointer (some ⟨bl, 0, none⟩), .pointer (some ⟨br, 0, none⟩), .pointer (some ⟨bm, 0, none⟩)] W fun e w' => e = .returned (.tuple #[]) ∧ ∃ S', align_Text.J p q l2 fin bp bq bl bm br kq (n + 1) i' j' S' w' ∧ (∀ k, S' k → S k ∨ W.heap.size ≤ k) ∧ Bld.Fr S W w' := by
  obtain ⟨L, M, R, rl, rm, rr, h1, h2, h3, h4, h5, h6, h7, h8, h9, h10, h11⟩ := h
  rw [align_Text.t0, if_pos n1, hst, Option.bind_some, if_pos rfl] at h1
  by_cases hc : L.length ≤ 1000 ∧ M.length ≤ 1000 ∧ R.length ≤ 1000
  · rw [if_pos hc] at h1
    have hb := align_walk.facts hps hqs h5 h6 h7 h8 hst
    refine (align_each.any_ W bp bq bl bm br rl rm rr L M R p q kq i j (rd l2 n) i' j' c h3 h4 h2 hps hqs h5 h6 h7 h8 hst hc.1 hc.2.1 hc.2.2).mono ?_
    rintro e w' ⟨he, rl', rm', rr', t3, gl, gm, gr, _, hf⟩
    have l3 := (Array.getElem?_eq_some_iff.1 h3).1
    have l4 := (Array.getElem?_eq_some_iff.1 h4).1
    have nS : ∀ k, k = bp ∨ k = bq → ¬ align_each.SS bl bm br rl rm rr k := by
      rintro k hk (rfl | rfl | rfl | h | h | h)
      · rcases hk with rfl | rfl
        · exact h10.1 rfl
        · exact h10.2.2.2.1 rfl
      · rcases hk with rfl | rfl
        · exact h10.2.1 rfl
        · exact h10.2.2.2.2.1 rfl
      · rcases hk with rfl | rfl
        · exact h10.2.2.1 rfl
        · exact h10.2.2.2.2.2 rfl
      · exact hk.elim (h11 k (.inl h.symm)).1 (h11 k (.inl h.symm)).2
      · exact hk.elim (h11 k (.inr (.inl h.symm))).1 (h11 k (.inr (.inl h.symm))).2
      · exact hk.elim (h11 k (.inr (.inr h.symm))).1 (h11 k (.inr (.inr h.symm))).2
    have nw : ∀ (r r' : Option Nat) k, (r' = r ∨ ∃ k, r' = some k ∧ W.heap.size ≤ k) → r' = some k → r = some k ∨ W.heap.size ≤ k := by
      rintro r r' k (rfl | ⟨g, e, hle⟩) hk
      · exact .inl hk
      · rw [e] at hk; injection hk with hk; exact .inr (by omega)
    refine ⟨he, fun k => k = bp ∨ k = bq ∨ align_each.SS bl bm br rl' rm' rr' k, ⟨_, _, _, rl', rm', rr', h1, t3, hf.heap h3 (nS _ (.inl rfl)), hf.heap h4 (nS _ (.inr rfl)), by omega, by omega, by omega, by omega, fun k => Iff.rfl, h10, ?_⟩, ?_, ?_⟩
    · rintro k (h | h | h)
      · exact (nw rl rl' k gl h).elim (fun h => h11 k (.inl h)) (fun h => by omega)
      · exact (nw rm rm' k gm h).elim (fun h => h11 k (.inr (.inl h))) (fun h => by omega)
      · exact (nw rr rr' k gr h).elim (fun h => h11 k (.inr (.inr h))) (fun h => by omega)
    · rintro k (h | h | h | h | h | h | h | h)
      · exact .inl ((h9 k).2 (.inl h))
      · exact .inl ((h9 k).2 (.inr (.inl h)))
      · exact .inl ((h9 k).2 (.inr (.inr (.inl h))))
      · exact .inl ((h9 k).2 (.inr (.inr (.inr (.inl h)))))
      · exact .inl ((h9 k).2 (.inr (.inr (.inr (.inr (.inl h))))))
      · exact (nw rl rl' k gl h.symm).imp_left (fun h => (h9 k).2 (.inr (.inr (.inr (.inr (.inr (.inl h.symm)))))))
      · exact (nw rm rm' k gm h.symm).imp_left (fun h => (h9 k).2 (.inr (.inr (.inr (.inr (.inr (.inr (.inl h.symm))))))))
      · exact (nw rr rr' k gr h.symm).imp_left (fun h => (h9 k).2 (.inr (.inr (.inr (.inr (.inr (.inr (.inr h.symm))))))))
    · exact hf.mono (fun k hk => (h9 k).2 (.inr (.inr hk)))
  · rw [if_neg hc] at h1; cases h1
set_option maxHeartbeats 4000000 in
set_option maxRecDepth 100000 in
theorem align_Text.calls (k : Nat) (a0 : ByteArray) (a1 : ByteArray) (A2 : Option Addr) (c2 : Nat) (l2 : List Int) (r1 : ByteArray) (r2 : Int) (w : World) (hr2 : Kd.C (Kd.int .i64) w A2 l2.length l2) (hc2 : l2.length ≤ c2) (h : align_Text.f k a0 a1 l2 = some (r1, r2)) :
    Calls Try.prog 24 #[.string a0, .string a1, .slice A2 l2.length c2] w fun e w' => e = .returned (.tuple #[.string r1, .int .i64 r2]) ∧ Below w.heap.size w w' := by
  unfold align_Text.f at h
  obtain ⟨e, he, h'⟩ := Option.bind_eq_some_iff.1 h
  clear h
  have h := h'
  clear h'
  have HR := Lib.hid hr2
  clear hr2
  by_cases h0 : e = 0
  · subst h0
    rw [if_pos rfl] at h
    by_cases hsz : a0.size ≤ 40 ∧ a1.size ≤ 40
    · rw [if_pos hsz] at h
      obtain ⟨⟨s, ok⟩, hw, h1⟩ := Option.bind_eq_some_iff.1 h
      obtain ⟨⟨L, M, R⟩, ht, h2⟩ := Option.bind_eq_some_iff.1 h1
      clear h h1
      have h := h2
      clear h2
      by_cases hln : L.length ≤ 2000 ∧ M.length ≤ 2000 ∧ R.length ≤ 2000
      · rw [if_pos hln] at h
        have HG := Lib.hid (fun W => align_given.calls k a0 a1 0 W he)
        have HW := Lib.hid hw; have HT := Lib.hid ht; have HH := Lib.hid h; have HSZ := Lib.hid hsz; have HLN := Lib.hid hln
        clear he hw ht h hsz hln
        go_enter Try.func24, Try.ntmps24
        go_wp2_with (go_at_call 41; refine (HG.out _).mono ?_)
        (first | rintro e w1 rfl hb1 | rintro e w1 ⟨rfl, hb1⟩)
        have hA : Below w.heap.size w ((w.alloc (.cells #[.string a0] 9)).alloc (.cells #[.string a1] 9)) := ((Below.refl _ _).alloc (Nat.le_refl _) _).alloc (by simp) _
        have hs1 : (w.alloc (.cells #[.string a0] 9)).heap.size = w.heap.size + 1 := by simp
        have hs2 : ((w.alloc (.cells #[.string a0] 9)).alloc (.cells #[.string a1] 9)).heap.size = w.heap.size + 2 := by simp
        have hq1 : ((w.alloc (.cells #[.string a0] 9)).alloc (.cells #[.string a1] 9)).heap[w.heap.size]? = some (.cells #[.string a0] 9 (0, 0)) := (Lib.alloc_old _ _ _ (by rw [hs1]; omega)).trans (heap_alloc_new w _)
        have hq2 : ((w.alloc (.cells #[.string a0] 9)).alloc (.cells #[.string a1] 9)).heap[w.heap.size + 1]? = some (.cells #[.string a1] 9 (0, 0)) := by
          have := heap_alloc_new (w.alloc (.cells #[.string a0] 9)) (.cells #[.string a1] 9)
          rw [hs1] at this
          exact this
        have hA1 : Below w.heap.size w w1 := hA.trans (hb1.mono (by omega))
        have p1 : w1.heap[w.heap.size]? = some (.cells #[.string a0] 9 (0, 0)) := (hb1.block _ (by omega)).trans hq1
        have p2 : w1.heap[w.heap.size + 1]? = some (.cells #[.string a1] 9 (0, 0)) := (hb1.block _ (by omega)).trans hq2
        have hsz1 : w.heap.size + 2 ≤ w1.heap.size := by have := hb1.size; omega
        have HA1 := Lib.hid hA1; have P1 := Lib.hid p1; have P2 := Lib.hid p2
        clear hA hs1 hs2 hq1 hq2 hA1 p1 p2 hb1
        have hs1 : (w1.alloc (.cells #[.pointer none, .slice none 0 0] 71)).heap.size = w1.heap.size + 1 := by simp
        have hs2 : ((w1.alloc (.cells #[.pointer none, .slice none 0 0] 71)).alloc (.cells #[.pointer none, .slice none 0 0] 71)).heap.size = w1.heap.size + 1 + 1 := by simp
        have fr : Bld.Fr (fun _ => False) w1 (((w1.alloc (.cells #[.pointer none, .slice none 0 0] 71)).alloc (.cells #[.pointer none, .slice none 0 0] 71)).alloc (.cells #[.pointer none, .slice none 0 0] 71)) := (((Bld.Fr.refl _ w1).alloc _).alloc _).alloc _
        have q1 := fr.heap P1.out (fun h => h)
        have q2 := fr.heap P2.out (fun h => h)
        have cp : (((w1.alloc (.cells #[.pointer none, .slice none 0 0] 71)).alloc (.cells #[.pointer none, .slice none 0 0] 71)).alloc (.cells #[.pointer none, .slice none 0 0] 71)).cell? ⟨w.heap.size, 0, none⟩ = some (.string a0) := by rw [Lib.cell_of_heap q1]; rfl
        have cq : (((w1.alloc (.cells #[.pointer none, .slice none 0 0] 71)).alloc (.cells #[.pointer none, .slice none 0 0] 71)).alloc (.cells #[.pointer none, .slice none 0 0] 71)).cell? ⟨w.heap.size + 1, 0, none⟩ = some (.string a1) := by rw [Lib.cell_of_heap q2]; rfl
        have t1 : Bld.Bd (((w1.alloc (.cells #[.pointer none, .slice none 0 0] 71)).alloc (.cells #[.pointer none, .slice none 0 0] 71)).alloc (.cells #[.pointer none, .slice none 0 0] 71)) w1.heap.size none [] := (Bld.Bd.new w1).fr (((Bld.Fr.refl (fun _ => False) _).alloc _).alloc _) (fun h => h) (fun _ _ h => h)
        have t2 : Bld.Bd (((w1.alloc (.cells #[.pointer none, .slice none 0 0] 71)).alloc (.cells #[.pointer none, .slice none 0 0] 71)).alloc (.cells #[.pointer none, .slice none 0 0] 71)) (w1.heap.size + 1) none [] := by
          have := (Bld.Bd.new (w1.alloc (.cells #[.pointer none, .slice none 0 0] 71))).fr ((Bld.Fr.refl (fun _ => False) _).alloc (.cells #[.pointer none, .slice none 0 0] 71)) (fun h => h) (fun _ _ h => h)
          rw [hs1] at this
          exact this
        have t3 : Bld.Bd (((w1.alloc (.cells #[.pointer none, .slice none 0 0] 71)).alloc (.cells #[.pointer none, .slice none 0 0] 71)).alloc (.cells #[.pointer none, .slice none 0 0] 71)) (w1.heap.size + 1 + 1) none [] := by
          have := Bld.Bd.new ((w1.alloc (.cells #[.pointer none, .slice none 0 0] 71)).alloc (.cells #[.pointer none, .slice none 0 0] 71))
          rw [hs2] at this
          exact this
        have T : align_each.T3 (((w1.alloc (.cells #[.pointer none, .slice none 0 0] 71)).alloc (.cells #[.pointer none, .slice none 0 0] 71)).alloc (.cells #[.pointer none, .slice none 0 0] 71)) w1.heap.size (w1.heap.size + 1) (w1.heap.size + 1 + 1) none none none [] [] [] :=
          ⟨t1, t2, t3, by omega, by omega, by omega, (fun _ h => nomatch h), (fun _ h => nomatch h), (fun _ h => nomatch h), (fun _ h => nomatch h), (fun _ h => nomatch h), (fun _ h => nomatch h)⟩
        have j0 : align_Text.J a0 a1 l2 (L, M, R) w.heap.size (w.heap.size + 1) w1.heap.size (w1.heap.size + 1) (w1.heap.size + 1 + 1) k 0 0 0 (fun k => k = w.heap.size ∨ k = w.heap.size + 1 ∨ align_each.SS w1.heap.size (w1.heap.size + 1) (w1.heap.size + 1 + 1) none none none k) (((w1.alloc (.cells #[.pointer none, .slice none 0 0] 71)).alloc (.cells #[.pointer none, .slice none 0 0] 71)).alloc (.cells #[.pointer none, .slice none 0 0] 71)) :=
          ⟨[], [], [], none, none, none, HT.out, T, q1, q2, by omega, by omega, by omega, by omega, fun _ => Iff.rfl, by omega, fun _ h => h.elim (fun h => nomatch h) (fun h => h.elim (fun h => nomatch h) (fun h => nomatch h))⟩
        have eW : Below w.heap.size w (((w1.alloc (.cells #[.pointer none, .slice none 0 0] 71)).alloc (.cells #[.pointer none, .slice none 0 0] 71)).alloc (.cells #[.pointer none, .slice none 0 0] 71)) := HA1.out.trans (fr.below (by omega) (fun _ h => h.elim))
        have hS0 : ∀ k, (k = w.heap.size ∨ k = w.heap.size + 1 ∨ align_each.SS w1.heap.size (w1.heap.size + 1) (w1.heap.size + 1 + 1) none none none k) → w.heap.size ≤ k := by
          rintro k (h | h | h | h | h | h | h | h)
          · omega
          · omega
          · omega
          · omega
          · omega
          · cases h
          · cases h
          · cases h
        have J0 := Lib.hid j0; have EW := Lib.hid eW; have HS0 := Lib.hid hS0
        clear fr q1 q2 t1 t2 t3 T j0 eW hS0 hs1 hs2
        go_wp2_with (fail)
        refine (align_walk.at_ k a0 a1 A2 c2 l2 s ok w _ w.heap.size (w.heap.size + 1) w1.heap.size (w1.heap.size + 1) (w1.heap.size + 1 + 1) HR.out hc2 EW.out _ HS0.out (align_Text.J a0 a1 l2 (L, M, R) w.heap.size (w.heap.size + 1) w1.heap.size (w1.heap.size + 1) (w1.heap.size + 1 + 1)) align_Text.Jf align_Text.Jl (align_Text.Jc HSZ.out.1 HSZ.out.2) J0.out HW.out).mono ?_
        rintro e w2 ⟨rfl, hf, hj⟩
        have b2 : Below w.heap.size w w2 := EW.out.trans (hf.below (by have := EW.out.size; omega) HS0.out)
        have B2 := Lib.hid b2
        clear b2 hf cp cq
        cases ok with
        | false =>
          have hr : (⟨#[]⟩ : ByteArray) = r1 ∧ (1 : Int) = r2 := Prod.mk.inj (Option.some.inj HH.out)
          obtain ⟨rfl, rfl⟩ := hr
          clear hj
          go_wp2
          go_ret2
          exact ⟨rfl, B2.out⟩
        | true =>
          have hr : align_Text.out (L, M, R) = r1 ∧ (0 : Int) = r2 := Prod.mk.inj (Option.some.inj HH.out)
          obtain ⟨hr1, rfl⟩ := hr
          obtain ⟨kq, n, S', hn, hJ, hS'⟩ := hj rfl
          obtain ⟨L', M', R', rl, rm, rr, h1, h2, h3, h4, h5, h6, h7, h8, h9, h10, h11⟩ := hJ
          rw [align_Text.t0, if_neg (by omega)] at h1
          simp only [Option.some.injEq, Prod.mk.injEq] at h1
          obtain ⟨rfl, rfl, rfl⟩ := h1
          have g : ∀ k, S' k → w.heap.size ≤ k := fun k hk => (hS' k hk).elim (HS0.out k) (fun h => by have := EW.out.size; omega)
          have gl : ∀ k, some k = rl → w.heap.size ≤ k := fun k hk => g k ((h9 k).2 (.inr (.inr (.inr (.inr (.inr (.inl hk)))))))
          have gm : ∀ k, some k = rm → w.heap.size ≤ k := fun k hk => g k ((h9 k).2 (.inr (.inr (.inr (.inr (.inr (.inr (.inl hk))))))))
          have gr : ∀ k, some k = rr → w.heap.size ≤ k := fun k hk => g k ((h9 k).2 (.inr (.inr (.inr (.inr (.inr (.inr (.inr hk))))))))
          obtain ⟨sL, hsL⟩ : ∃ s : ByteArray, (⟨L'.toArray⟩ : ByteArray) = s := ⟨_, rfl⟩
          obtain ⟨sM, hsM⟩ : ∃ s : ByteArray, (⟨M'.toArray⟩ : ByteArray) = s := ⟨_, rfl⟩
          obtain ⟨sR, hsR⟩ : ∃ s : ByteArray, (⟨R'.toArray⟩ : ByteArray) = s := ⟨_, rfl⟩
          have zL : sL.size ≤ 2000 := by rw [← hsL]; exact HLN.out.1
          have zM : sM.size ≤ 2000 := by rw [← hsM]; exact HLN.out.2.1
          have zR : sR.size ≤ 2000 := by rw [← hsR]; exact HLN.out.2.2
          have hr3 : ((((sL ++ (⟨#[10]⟩ : ByteArray)) ++ sM) ++ (⟨#[10]⟩ : ByteArray)) ++ sR) ++ (⟨#[10]⟩ : ByteArray) = r1 := by rw [← hsL, ← hsM, ← hsR]; exact hr1
          have HR3 := Lib.hid hr3
          have CL := Lib.hid (fun W (hb : Bld.Bd W w1.heap.size rl L') => hsL ▸ Bld.string_ W _ _ _ hb)
          have CM := Lib.hid (fun W (hb : Bld.Bd W (w1.heap.size + 1) rm M') => hsM ▸ Bld.string_ W _ _ _ hb)
          have CR := Lib.hid (fun W (hb : Bld.Bd W (w1.heap.size + 1 + 1) rr R') => hsR ▸ Bld.string_ W _ _ _ hb)
          have H2 := Lib.hid h2; have GL := Lib.hid gl; have GM := Lib.hid gm; have GR := Lib.hid gr
          clear h2 gl gm gr g h3 h4 h5 h6 h7 h8 h9 h10 h11 hr3 hr1 hsL hsM hsR hS' hn
          have z1 : sL.size + 1 ≤ 9223372036854775807 := by omega
          have z2 : sL.size + 1 + sM.size ≤ 9223372036854775807 := by omega
          have z3 : sL.size + 1 + sM.size + 1 ≤ 9223372036854775807 := by omega
          have z4 : sL.size + 1 + sM.size + 1 + sR.size ≤ 9223372036854775807 := by omega
          have z5 : sL.size + 1 + sM.size + 1 + sR.size + 1 ≤ 9223372036854775807 := by omega
          go_wp2_with (go_at_call 52; refine (CL.out _ H2.out.h1).mono ?_)
          (first | rintro e w3 rfl hf3 | rintro e w3 ⟨rfl, hf3⟩)
          have h3 : Bld.Bd w3 (w1.heap.size + 1) rm M' := H2.out.h2.fr hf3 (fun e => (H2.out.r1b _ e.symm).1 rfl) (fun k hk e => H2.out.r12 k e.symm hk)
          have h3' : Bld.Bd w3 (w1.heap.size + 1 + 1) rr R' := H2.out.h3.fr hf3 (fun e => (H2.out.r1b _ e.symm).2 rfl) (fun k hk e => H2.out.r13 k e.symm hk)
          have b3 : Below w.heap.size w w3 := B2.out.trans (hf3.below B2.out.size GL.out)
          have H3 := Lib.hid h3; have H3' := Lib.hid h3'; have B3 := Lib.hid b3
          clear h3 h3' b3 hf3
          go_wp2_with (go_at_call 52; refine (CM.out _ H3.out).mono ?_)
          (first | rintro e w4 rfl hf4 | rintro e w4 ⟨rfl, hf4⟩)
          have h4 : Bld.Bd w4 (w1.heap.size + 1 + 1) rr R' := H3'.out.fr hf4 (fun e => (H2.out.r2b _ e.symm).2 rfl) (fun k hk e => H2.out.r23 k e.symm hk)
          have b4 : Below w.heap.size w w4 := B3.out.trans (hf4.below B3.out.size GM.out)
          have H4 := Lib.hid h4; have B4 := Lib.hid b4
          clear h4 b4 hf4
          go_wp2_with (go_at_call 52; refine (CR.out _ H4.out).mono ?_)
          (first | rintro e w5 rfl hf5 | rintro e w5 ⟨rfl, hf5⟩)
          have b5 : Below w.heap.size w w5 := B4.out.trans (hf5.below B4.out.size GR.out)
          have B5 := Lib.hid b5
          clear b5 hf5
          go_wp2
          go_ret2
          rw [HR3.out]
          exact ⟨rfl, B5.out⟩
      · rw [if_neg hln] at h; cases h
    · rw [if_neg hsz] at h; cases h
  · rw [if_neg h0] at h
    obtain ⟨rfl, rfl⟩ := Prod.mk.inj (Option.some.inj h)
    clear h
    have hb0 : (e == 0) = false := by simpa using h0
    have hb1 : (e != 0) = true := by simpa using h0
    have HC := Lib.hid (fun W => align_given.calls k a0 a1 e W he)
    clear he
    go_enter Try.func24, Try.ntmps24
    go_wp2_with (go_at_call 41; refine (HC.out _).mono ?_; rintro e w1 ⟨rfl, hb⟩)
    go_ret2
    have hA : Below w.heap.size w ((w.alloc (.cells #[.string a0] 9)).alloc (.cells #[.string a1] 9)) := ((Below.refl _ _).alloc (Nat.le_refl _) _).alloc (by simp) _
    exact ⟨rfl, hA.trans (hb.mono (by simp; omega))⟩

end Go.Proofs.Ytnnonjjmlbemfaa.X
