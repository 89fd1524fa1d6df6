/- What strings.Builder's methods do in this translation: a builder in a block of its own, its bytes in another; what a call of its methods leaves alone. -/
import Derived.Test.YtdaooagikacboaaDoorProg
import Derived.Test.YtdaooagikacboaaDoorWMore
import Derived.Lib.Strings
import Derived.Lib.Slices
import Derived.Lib.Walk
import Derived.Lib.Builder
import Derived.Lib.AppendStr
import Derived.Lib.UnsafeStr
import Derived.Lib.Hide
import Derived.WalkKit
import Derived.RegionTactic
import Derived.Laws.Externs
import Derived.Laws.IdiomCopy
set_option linter.unusedVariables false
set_option linter.unusedSimpArgs false
namespace Go.Proofs.YtdaooagikacboaaDoor.Bld
open Go.RowKit Go.Proofs.YtdaooagikacboaaDoorW.PrintWords
/-! what stands but for the blocks of S -/
structure Fr (S : Nat → Prop) (w w' : World) : Prop where
  os : w'.os = w.os
  tape : w'.tape = w.tape
  output : w'.output = w.output
  size : w.heap.size ≤ w'.heap.size
  block : ∀ k, k < w.heap.size → ¬ S k → w'.heap[k]? = w.heap[k]?
theorem Fr.refl (S : Nat → Prop) (w : World) : Fr S w w := ⟨rfl, rfl, rfl, Nat.le_refl _, fun _ _ _ => rfl⟩
theorem Fr.trans {S S2 : Nat → Prop} {a b c : World} (h : Fr S a b) (k : Fr S2 b c) (hs : ∀ i, S2 i → S i ∨ a.heap.size ≤ i) : Fr S a c :=
  ⟨k.os.trans h.os, k.tape.trans h.tape, k.output.trans h.output, Nat.le_trans h.size k.size, fun i hi hn => (k.block i (Nat.lt_of_lt_of_le hi h.size) (fun h2 => (hs i h2).elim hn (fun h3 => by omega))).trans (h.block i hi hn)⟩
theorem Fr.mono {S S2 : Nat → Prop} {a b : World} (h : Fr S a b) (hs : ∀ i, S i → S2 i) : Fr S2 a b := ⟨h.os, h.tape, h.output, h.size, fun i hi hn => h.block i hi (fun h2 => hn (hs i h2))⟩
theorem Fr.of_below {w w' : World} (h : Below w.heap.size w w') (S : Nat → Prop) : Fr S w w' := ⟨h.os, h.tape, h.output, h.size, fun i hi _ => h.block i hi⟩
theorem Fr.below {S : Nat → Prop} {B : Nat} {w w' : World} (h : Fr S w w') (hB : B ≤ w.heap.size) (hs : ∀ k, S k → B ≤ k) : Below B w w' :=
  ⟨h.os, h.tape, h.output, h.size, fun k hk => h.block k (by omega) (fun h2 => by have := hs k h2; omega)⟩
theorem Fr.of_drawn {w w' : World} (h : Drawn0 w w') (S : Nat → Prop) : Fr S w w' := Fr.of_below h.below S
theorem Fr.drew {S : Nat → Prop} {a w : World} (h : Fr S a w) : Fr S a w.drew := ⟨h.os, h.tape, h.output, h.size, h.block⟩
theorem Fr.drewN {S : Nat → Prop} {a w : World} (h : Fr S a w) (n : Nat) : Fr S a (w.drewN n) := ⟨h.os, h.tape, h.output, h.size, h.block⟩
theorem Fr.alloc {S : Nat → Prop} {a w : World} (h : Fr S a w) (o : Obj) : Fr S a (w.alloc o) := h.trans (Fr.of_below (Below.refl _ _ |>.alloc (Nat.le_refl _) o) (fun _ => False)) (fun _ hk => hk.elim)
theorem Fr.setCell {S : Nat → Prop} {a w : World} (h : Fr S a w) {p : Addr} (hp : S p.block ∨ a.heap.size ≤ p.block) (u : Value) : Fr S a (w.setCell p u) :=
  h.trans (S2 := fun k => k = p.block) ⟨rfl, rfl, rfl, by simp [World.setCell], fun k _ hk => Below.heap_setCell _ _ _ _ hk⟩ (fun i hi => by rw [hi]; exact hp)
theorem Fr.grown {S : Nat → Prop} {a w w' : World} {row : Option Nat} (h : Fr S a w) (hg : w.grownBy w' row) (hr : ∀ k, row = some k → S k ∨ a.heap.size ≤ k) : Fr S a w' :=
  h.trans (S2 := fun k => row = some k) ⟨hg.os, hg.tape, hg.output, hg.size, fun k hk hn => hg.block k hk (fun e => hn e.symm)⟩ hr
theorem Fr.freeze {S : Nat → Prop} {a w : World} (h : Fr S a w) (p : Addr) (n : Nat) (hp : S p.block ∨ a.heap.size ≤ p.block) : Fr S a (w.freeze p n) := by
  refine h.trans (S2 := fun k => k = p.block) ?_ (fun i hi => by rw [hi]; exact hp)
  have hb := Lib.below_freeze (Below.refl 0 w) (p := p) (Nat.zero_le _) n
  refine ⟨hb.os, hb.tape, hb.output, hb.size, fun k hk hn => ?_⟩
  unfold World.freeze
  split
  · rfl
  · simp only [Array.getElem?_modify]
    rw [if_neg (fun e => hn e.symm)]
theorem Fr.heap {S : Nat → Prop} {w w' : World} {k : Nat} {o : Obj} (h : Fr S w w') (hk : w.heap[k]? = some o) (hn : ¬ S k) : w'.heap[k]? = some o := (h.block k (Array.getElem?_eq_some_iff.1 hk).1 hn).trans hk
/-- append(buf, s...), s a string: as Lib's law has it, and where the bytes then lie. -/
theorem run_append_string_at {P : Program} (w : World) (t u ty e : TypeId) (i : TypeInfo) (ht : P.underlying t = some (.slice e)) (hu : P.underlying u = some .string) (hi : P.info? e = some i) (hz : i.zero = some (.int .u8 0))
    (hsize : i.size = 1) (hby : i.bytes = 1) (v : Value) (n : Nat) (xs : List Value) (hown : w.ownsRow 0 e 1 v n xs) (s : ByteArray) (h63 : n + s.size ≤ maxLen) (hbytes : n + s.size ≤ 140737488355328) :
    ∃ v' w', (Builtin.append_ #[t, u] ty #[v, .string s]).run P w = .ok v' w' ∧ w'.ownsRow 0 e 1 v' (n + s.size) (xs ++ Lib.strCells s) ∧ w.grownBy w' v.ownBlock ∧ (v'.ownBlock = v.ownBlock ∨ ∃ k, v'.ownBlock = some k ∧ w.heap.size ≤ k) := by
  obtain ⟨v', w', hr, h2, h3, h4⟩ := Lib.run_append_own_string (P := P) w 0 t u ty e i ht hu hi hz hsize hby v n xs hown s h63 hbytes (Nat.zero_le _)
  refine ⟨v', w', hr, h2, h3, ?_⟩
  have hsmall : n + s.size ≤ 9223372036854775807 := by simp only [maxLen] at h63; omega
  rcases hown.2 with ⟨rfl, rfl⟩ | ⟨g, cap, cur, rfl, hbg, hg, hnc, hcm, hcs, htake⟩
  · by_cases hm : s.size = 0
    · rw [h4.2 ⟨rfl, hm⟩]; exact .inl rfl
    · have hr' := run_append_nil_string (P := P) w t u ty e i (.int .u8 0) ht hu hi hz s (by omega) (by omega) (by rw [hby]; omega)
      rw [hr'] at hr
      injection hr with hr _
      rw [← hr]
      exact .inr ⟨_, rfl, Nat.le_refl _⟩
  · by_cases hroom : n + s.size ≤ cap
    · have hcs' : cur.size = cap := by simpa using hcs
      have hr' := Lib.run_append_room_string (P := P) w t u ty e i ht hu hi hsize g n cap cur hg s hroom (by omega)
      rw [hr'] at hr
      injection hr with hr _
      rw [← hr]
      exact .inl rfl
    · have holds : ∀ j u, xs[j]? = some u → w.cell? ((⟨g, 0, none⟩ : Addr).add j) = some u := hown.cells (g := g) rfl
      have hr' := Lib.run_append_grow_string (P := P) w t u ty e i (.int .u8 0) ht hu hi hz ⟨g, 0, none⟩ n cap xs (by rw [hsize]; simpa using hown.1) holds s (by omega) (by omega) (by rw [hby]; exact growslice_fits (by omega) (by omega))
      rw [hr'] at hr
      injection hr with hr _
      rw [← hr]
      exact .inr ⟨_, rfl, Nat.le_refl _⟩
theorem append_string_at {P : Program} {W : World} {ops : Array Oper} {rest : List Oper} {o : Oper} {a : Act} {Q : Exit → Act → World → Prop} (hgd : o.guard = none) (sl x : Operand) (t u : TypeId)
    (ho : o.op = .call { callee := .builtin .append, args := #[sl, x], argTypes := #[t, u] })
    (e : TypeId) (i : TypeInfo) (ht : P.underlying t = some (.slice e)) (hu : P.underlying u = some .string) (hi : P.info? e = some i) (hz : i.zero = some (.int .u8 0))
    (hsize : i.size = 1) (hby : i.bytes = 1)
    (v : Value) (n : Nat) (xs : List Value) (hs : a.eval sl = v) (hown : W.ownsRow 0 e 1 v n xs) (s : ByteArray) (hx : a.eval x = .string s)
    (h63 : n + s.size ≤ maxLen) (hbytes : n + s.size ≤ 140737488355328)
    (h : ∀ v' w', w'.ownsRow 0 e 1 v' (n + s.size) (xs ++ Lib.strCells s) → W.grownBy w' v.ownBlock → (v'.ownBlock = v.ownBlock ∨ ∃ k, v'.ownBlock = some k ∧ W.heap.size ≤ k) → wpList P ops Q rest (a.put o.dst v') w') : wpList P ops Q (o :: rest) a W := by
  refine wpList_plain hgd fun K hK => ?_
  obtain ⟨v', w', hr, h2, h3, h4⟩ := run_append_string_at (P := P) W t u o.type e i ht hu hi hz hsize hby v n xs hown s h63 hbytes
  unfold Oper.wp execOp
  simp only [ho, resolve, invoke, builtin, Sem.run_bind, Sem.run_pure, Result.andThen_ok, List.map_toArray, List.map_cons, List.map_nil, hs, hx, hr]
  exact hK _ _ (h v' w' h2 h3 h4)
/-! a builder -/
/-- A builder in block b, whose bytes l lie in block r (none: it has none yet). -/
def Bd (W : World) (b : Nat) (r : Option Nat) (l : List UInt8) : Prop :=
  ∃ p v, (p = .pointer none ∨ p = .pointer (some ⟨b, 0, none⟩)) ∧ W.heap[b]? = some (.cells #[p, v] 53 (0, 0)) ∧ W.ownsRow 0 5 1 v l.length (Lib.byteCells l) ∧ v.ownBlock = r ∧ r ≠ some b
/-- What a write leaves: a builder that holds l2, its row the old one or a new one; nothing else has changed. -/
def Wrote (W : World) (b : Nat) (r : Option Nat) (l2 : List UInt8) (w' : World) : Prop := ∃ r', Bd w' b r' l2 ∧ (r' = r ∨ ∃ k, r' = some k ∧ W.heap.size ≤ k) ∧ Fr (fun k => k = b ∨ some k = r) W w'
theorem Bd.fr {S : Nat → Prop} {W W' : World} {b : Nat} {r : Option Nat} {l : List UInt8} (h : Bd W b r l) (hf : Fr S W W') (hb : ¬ S b) (hr : ∀ k, r = some k → ¬ S k) : Bd W' b r l := by
  obtain ⟨p, v, hp, hk, ho, hv, hne⟩ := h
  refine ⟨p, v, hp, hf.heap hk hb, ?_, hv, hne⟩
  obtain ⟨h1, h2⟩ := ho
  refine ⟨h1, h2.imp_right ?_⟩
  rintro ⟨g, cap, cur, rfl, hg, hh, rest⟩
  exact ⟨g, cap, cur, rfl, hg, hf.heap hh (hr g (by rw [← hv]; rfl)), rest⟩
theorem Bd.new (W : World) : Bd (W.alloc (.cells #[.pointer none, .slice none 0 0] 53)) W.heap.size none [] :=
  ⟨_, _, .inl rfl, heap_alloc_new W _, World.ownsRow_nil _ _ _ _, rfl, by simp⟩
theorem Bd.lt {W : World} {b : Nat} {r : Option Nat} {l : List UInt8} (h : Bd W b r l) : b < W.heap.size ∧ ∀ k, r = some k → k < W.heap.size := by
  obtain ⟨p, v, hp, hk, ho, hv, hne⟩ := h
  refine ⟨(Array.getElem?_eq_some_iff.1 hk).1, fun k e => ?_⟩
  rw [← hv] at e
  rcases ho.2 with ⟨rfl, _⟩ | ⟨g, cap, cur, rfl, _, hh, _⟩
  · simp [Value.ownBlock] at e
  · simp only [Value.ownBlock, Option.some.injEq] at e
    subst e
    exact (Array.getElem?_eq_some_iff.1 hh).1
theorem info_byte : (Tryd.prog.info? 5).map (fun i => (i.zero, i.size, i.bytes)) = some (some (.int .u8 0), 1, 1) := by kernel_rfl
theorem size_builder : (Tryd.prog.info? 53).map (·.size) = some 2 := by kernel_rfl
theorem lies_builder : liesAt Tryd.prog Tryd.prog.depth 53 (2 / Tryd.prog.cellsOf 53) 0 53 1 = true := by kernel_rfl
set_option maxHeartbeats 1000000 in
set_option maxRecDepth 100000 in
/-- copyCheck: the builder's own address is laid. -/
theorem check (W : World) (b : Nat) (p v : Value) (hp : p = .pointer none ∨ p = .pointer (some ⟨b, 0, none⟩)) (hk : W.heap[b]? = some (.cells #[p, v] 53 (0, 0))) :
    Calls Tryd.prog 32 #[.pointer (some ⟨b, 0, none⟩)] W fun e w' => e = .returned (.tuple #[]) ∧ w'.heap[b]? = some (.cells #[.pointer (some ⟨b, 0, none⟩), v] 53 (0, 0)) ∧ Fr (fun k => k = b) W w' := by
  obtain ⟨j, hj, hjs⟩ := Option.map_eq_some_iff.1 size_builder
  have hsh : W.shape? b = some (53, 2) := by simp [World.shape?, hk]
  have h0 : W.cell? ⟨b, 0, none⟩ = some p := by rw [Lib.cell_of_heap hk]; rfl
  have hfz : W.frozen? ⟨b, 0, none⟩ = false := Lib.frozen_of_heap hk 0
  rcases hp with rfl | rfl
  · go_enter Tryd.func32, Tryd.ntmps32
    go_wp2
    rw [Lib.run_to_unsafe W ⟨b, 0, none⟩ Tryd.underlying50 Tryd.underlying75 hj (by rw [hjs]; decide) hsh (Nat.zero_lt_succ 1)]
    simp only [Result.andThen]
    rw [Oper.upon_value]
    go_wp2
    rw [run_callFunc_extern Tryd.func47 (by kernel_rfl) (by kernel_rfl) (by kernel_rfl) (e := Extern.AbiNoEscape.same) (by kernel_rfl)]
    rw [Lib.run_noEscape]
    simp only [Result.andThen]
    rw [Oper.upon_value]
    go_wp2
    rw [Lib.run_from_unsafe W ⟨b, 0, none⟩ Tryd.underlying75 Tryd.underlying50 hj hsh lies_builder]
    simp only [Result.andThen]
    rw [Oper.upon_value]
    go_wp2
    go_end0
    exact ⟨rfl, by simp [World.setCell, Array.getElem?_modify, hk], (Fr.refl (fun k => k = b) _).setCell (p := ⟨b, 0, none⟩) (.inl rfl) _⟩
  · go_enter Tryd.func32, Tryd.ntmps32
    go_wp2
    rw [Lib.run_neq_ptr_same W _ Tryd.underlying50 hj]
    go_wp2
    go_end0
    exact ⟨rfl, hk, Fr.refl _ _⟩
theorem owns_kept {W W' : World} {v : Value} {n : Nat} {xs : List Value} {r : Option Nat} {S : Nat → Prop} (ho : W.ownsRow 0 5 1 v n xs) (hv : v.ownBlock = r) (hf : Fr S W W') (hr : ∀ k, r = some k → ¬ S k) : W'.ownsRow 0 5 1 v n xs := by
  obtain ⟨h1, h2⟩ := ho
  refine ⟨h1, h2.imp_right ?_⟩
  rintro ⟨g, cap, cur, rfl, hg, hh, rest⟩
  exact ⟨g, cap, cur, rfl, hg, hf.heap hh (hr g (by rw [← hv]; rfl)), rest⟩
theorem own_at_of {W : World} {v : Value} {n : Nat} {xs : List Value} (h : W.ownsRow 0 5 1 v n xs) : ∀ k, v.ownBlock = some k → k < W.heap.size := by
  intro k e
  rcases h.2 with ⟨rfl, _⟩ | ⟨g, cap, cur, rfl, _, hh, _⟩
  · simp [Value.ownBlock] at e
  · simp only [Value.ownBlock, Option.some.injEq] at e
    subst e
    exact (Array.getElem?_eq_some_iff.1 hh).1
/-- What an append to the builder's row leaves. -/
theorem put {W W1 w2 : World} {b : Nat} {r : Option Nat} {l2 : List UInt8} {v v' : Value} (hk : W.heap[b]? = some (.cells #[.pointer (some ⟨b, 0, none⟩), v] 53 (0, 0))) (hv : v.ownBlock = r) (hne : r ≠ some b)
    (hW : Fr (fun _ => False) W W1) (hg : W1.grownBy w2 v.ownBlock) (hat : v'.ownBlock = v.ownBlock ∨ ∃ k, v'.ownBlock = some k ∧ W.heap.size ≤ k) (hown : w2.ownsRow 0 5 1 v' l2.length (Lib.byteCells l2)) :
    ∃ r', Bd (w2.setCell ⟨b, 1, none⟩ v') b r' l2 ∧ (r' = r ∨ ∃ k, r' = some k ∧ W.heap.size ≤ k) ∧ Fr (fun k => k = b ∨ some k = r) W (w2.setCell ⟨b, 1, none⟩ v') := by
  have hlt : b < W.heap.size := (Array.getElem?_eq_some_iff.1 hk).1
  have hb2 : w2.heap[b]? = some (.cells #[.pointer (some ⟨b, 0, none⟩), v] 53 (0, 0)) := by
    rw [hg.block b (Nat.lt_of_lt_of_le hlt hW.size) (fun e => hne (by rw [← hv, e])), hW.block b hlt (fun h => h)]
    exact hk
  have hne' : v'.ownBlock ≠ some b := by
    rcases hat with h | ⟨k, h, hle⟩
    · rw [h, hv]; exact hne
    · rw [h]; simp; omega
  refine ⟨v'.ownBlock, ⟨_, v', .inr rfl, by simp [World.setCell, Array.getElem?_modify, hb2], ?_, rfl, hne'⟩, by rw [← hv]; exact hat, ?_⟩
  · refine owns_kept hown rfl (S := fun k => k = b) ((Fr.refl (fun k => k = b) _).setCell (p := ⟨b, 1, none⟩) (.inl rfl) _) (fun k e hkb => hne' (by rw [e, hkb]))
  · exact ((hW.mono (fun _ h => h.elim)).grown hg (fun k e => .inl (.inr (by rw [← hv, e])))).setCell (p := ⟨b, 1, none⟩) (.inl (.inl rfl)) _
set_option maxHeartbeats 2000000 in
set_option maxRecDepth 100000 in
theorem writeString (W : World) (b : Nat) (r : Option Nat) (l : List UInt8) (s : ByteArray) (h : Bd W b r l) (hl : l.length + s.size ≤ 140737488355328) :
    Calls Tryd.prog 21 #[.pointer (some ⟨b, 0, none⟩), .string s] W fun e w' => e = .returned (.tuple #[.int .i64 s.size, .nilIface]) ∧ Wrote W b r (l ++ s.data.toList) w' := by
  obtain ⟨i0, hi, hz0, hz1, hz2⟩ := info_parts info_byte
  obtain ⟨p, v, hp, hk, ho, hv, hne⟩ := h
  go_enter Tryd.func21, Tryd.ntmps21
  go_wp2_with (go_at_call 32; refine (check W b p v hp hk).mono ?_)
  rintro e w1 ⟨rfl, hk1, hf1⟩
  have hown := owns_kept ho hv hf1 (fun k e hkb => hne (by rw [e, hkb]))
  have c0 : w1.cell? ⟨b, 0, none⟩ = some (.pointer (some ⟨b, 0, none⟩)) := by rw [Lib.cell_of_heap hk1]; rfl
  have c1 : w1.cell? ⟨b, 1, none⟩ = some v := by rw [Lib.cell_of_heap hk1]; rfl
  have HV := Lib.hid hv; have HN := Lib.hid hne; clear hv hne
  go_wp2_with (at_builtin; refine append_string_at rfl _ _ 51 9 rfl 5 i0 Tryd.underlying51 Tryd.underlying9 hi hz0 hz1 hz2 _ _ _ rfl hown s rfl ?c3 ?c4 ?_)
  case c3 => unfold maxLen; omega
  case c4 => omega
  intro v' w2 hown' hgrow hat
  have hlt : b < w1.heap.size := (Array.getElem?_eq_some_iff.1 hk1).1
  have R := put (l2 := l ++ s.data.toList) hk1 HV.out HN.out (Fr.refl _ _) hgrow hat (by rw [show Lib.byteCells (l ++ s.data.toList) = Lib.byteCells l ++ Lib.strCells s by simp [Lib.byteCells, Lib.strCells], show (l ++ s.data.toList).length = l.length + s.size by simp]; exact hown')
  have hb2 : w2.heap[b]? = some (.cells #[.pointer (some ⟨b, 0, none⟩), v] 53 (0, 0)) := by
    rw [hgrow.block b hlt (fun e => HN.out (by rw [← HV.out, e]))]
    exact hk1
  have d0 : w2.cell? ⟨b, 0, none⟩ = some (.pointer (some ⟨b, 0, none⟩)) := by rw [Lib.cell_of_heap hb2]; rfl
  have d1 : w2.cell? ⟨b, 1, none⟩ = some v := by rw [Lib.cell_of_heap hb2]; rfl
  have f1 : w2.frozen? ⟨b, 1, none⟩ = false := Lib.frozen_of_heap hb2 1
  obtain ⟨ao, n', cap, rfl⟩ : ∃ ao n' cap, v' = .slice ao n' cap := by
    rcases hown'.2 with ⟨hv, _⟩ | ⟨g, cap, cur, hv, _⟩
    · exact ⟨_, _, _, hv⟩
    · exact ⟨_, _, _, hv⟩
  have HR := Lib.hid R; clear R hown' hgrow hat hown
  go_wp2
  go_ret2
  obtain ⟨r', h1, h2, h3⟩ := HR.out
  exact ⟨rfl, r', h1, h2.imp_right (fun ⟨k, e, hle⟩ => ⟨k, e, Nat.le_trans hf1.size hle⟩), (hf1.mono (fun k h => .inl h)).trans h3 (fun i hi => .inl hi)⟩
set_option maxHeartbeats 2000000 in
set_option maxRecDepth 100000 in
/-- String: the bytes; the row may be frozen. -/
theorem string_ (W : World) (b : Nat) (r : Option Nat) (l : List UInt8) (h : Bd W b r l) :
    Calls Tryd.prog 22 #[.pointer (some ⟨b, 0, none⟩)] W fun e w' => e = .returned (.string ⟨l.toArray⟩) ∧ Fr (fun k => some k = r) W w' := by
  obtain ⟨p, v, hp, hbk, hown, hv, hne⟩ := h
  by_cases hl0 : l.length = 0
  · obtain rfl := List.eq_nil_of_length_eq_zero hl0
    rcases hown.2 with ⟨rfl, _⟩ | ⟨g, cap, cur, rfl, hbg, hg, _, _, _, _⟩
    · have hUS := fun (W : World) (q : Option Addr) => Lib.run_unsafeString_none (P := Tryd.prog) W 67 3 9 q
      have c1 : W.drew.cell? ⟨b, 1, none⟩ = some (.slice none 0 0) := by
        have : W.drew.heap[b]? = some (.cells #[p, .slice none 0 0] 53 (0, 0)) := hbk
        rw [Lib.cell_of_heap this]; rfl
      have hSD : (Builtin.unsafeSliceData_ #[51] 67 #[.slice none 0 0]).run Tryd.prog W.drew = .ok (.pointer none) W.drew := rfl
      go_enter Tryd.func22, Tryd.ntmps22
      go_wp2
      go_region
      all_goals (go_wp2; go_ret; exact ⟨rfl, (Fr.refl _ _).drew⟩)
    · by_cases hc0 : cap = 0
      · subst hc0
        have hlt : b < W.heap.size := (Array.getElem?_eq_some_iff.1 hbk).1
        have hUS := fun (W : World) (q : Option Addr) => Lib.run_unsafeString_none (P := Tryd.prog) W 67 3 9 q
        have c1 : W.drew.cell? ⟨b, 1, none⟩ = some (.slice (some ⟨g, 0, none⟩) 0 0) := by
          have : W.drew.heap[b]? = some (.cells #[p, .slice (some ⟨g, 0, none⟩) 0 0] 53 (0, 0)) := hbk
          rw [Lib.cell_of_heap this]; rfl
        have hSD : (Builtin.unsafeSliceData_ #[51] 67 #[.slice (some ⟨g, 0, none⟩) 0 0]).run Tryd.prog W.drew = .ok (.pointer (some ⟨W.drew.heap.size, 0, none⟩)) (W.drew.alloc (.view ⟨g, 0, none⟩ 5)) :=
          Lib.run_unsafeSliceData_zero W.drew _ _ 5 Tryd.underlying67 ⟨g, 0, none⟩ 0 (5, cur.size) (by have hg' : W.drew.heap[g]? = some (.cells cur 5 (0, 0)) := hg; simp [World.shape?, hg'])
        have c2 : (W.drew.alloc (.view ⟨g, 0, none⟩ 5)).cell? ⟨b, 1, none⟩ = some (.slice (some ⟨g, 0, none⟩) 0 0) := by
          have : (W.drew.alloc (.view ⟨g, 0, none⟩ 5)).heap[b]? = _ := (Lib.alloc_old W.drew _ b hlt).trans hbk
          rw [Lib.cell_of_heap this]; rfl
        have c3 : (W.alloc (.view ⟨g, 0, none⟩ 5)).drew.cell? ⟨b, 1, none⟩ = some (.slice (some ⟨g, 0, none⟩) 0 0) := c2
        have c0 : W.cell? ⟨b, 1, none⟩ = some (.slice (some ⟨g, 0, none⟩) 0 0) := c1
        clear hp hv hne hown
        go_enter Tryd.func22, Tryd.ntmps22
        go_wp2
        go_region
        all_goals (go_wp2; go_ret; exact ⟨rfl, ((Fr.refl _ _).drew).alloc _⟩)
      · have hUS := fun (W : World) (q : Option Addr) => Lib.run_unsafeString_none (P := Tryd.prog) W 67 3 9 q
        have c1 : W.drew.cell? ⟨b, 1, none⟩ = some (.slice (some ⟨g, 0, none⟩) 0 cap) := by
          have : W.drew.heap[b]? = some (.cells #[p, .slice (some ⟨g, 0, none⟩) 0 cap] 53 (0, 0)) := hbk
          rw [Lib.cell_of_heap this]; rfl
        have hSD : (Builtin.unsafeSliceData_ #[51] 67 #[.slice (some ⟨g, 0, none⟩) 0 cap]).run Tryd.prog W.drew = .ok (.pointer (some ⟨g, 0, none⟩)) W.drew :=
          Lib.run_unsafeSliceData_row _ _ _ _ _ _ hc0
        clear hc0 hp hv hne hown
        go_enter Tryd.func22, Tryd.ntmps22
        go_wp2
        go_region
        all_goals (go_wp2; go_ret; exact ⟨rfl, (Fr.refl _ _).drew⟩)
  · have h0 : l ≠ [] := fun e => hl0 (by rw [e]; rfl)
    obtain ⟨g, cap, cur, rfl, hbg, hg, hnc, hcm, hcs, htake⟩ : ∃ g cap cur, v = .slice (some ⟨g, 0, none⟩) l.length cap ∧ 0 ≤ g ∧ W.heap[g]? = some (.cells cur 5 (0, 0)) ∧ l.length ≤ cap ∧ cap ≤ maxLen ∧ cur.size = cap * 1 ∧ cur.toList.take (l.length * 1) = Lib.byteCells l := by
      rcases hown.2 with ⟨_, hz⟩ | ⟨g, cap, cur, hv, r⟩
      · exact absurd hz hl0
      · exact ⟨g, cap, cur, hv, r⟩
    have hr : r = some g := by rw [← hv]; rfl
    subst hr
    have c1 : W.drew.cell? ⟨b, 1, none⟩ = some (.slice (some ⟨g, 0, none⟩) l.length cap) := by
      have : W.drew.heap[b]? = some (.cells #[p, .slice (some ⟨g, 0, none⟩) l.length cap] 53 (0, 0)) := hbk
      rw [Lib.cell_of_heap this]; rfl
    have hSD : (Builtin.unsafeSliceData_ #[51] 67 #[.slice (some ⟨g, 0, none⟩) l.length cap]).run Tryd.prog W.drew = .ok (.pointer (some ⟨g, 0, none⟩)) W.drew :=
      Lib.run_unsafeSliceData_row _ _ _ _ _ _ (by omega)
    have hUS : (Builtin.unsafeString_ #[67, 3] 9 #[.pointer (some ⟨g, 0, none⟩), .int .i64 l.length]).run Tryd.prog W.drew = .ok (.string ⟨l.toArray⟩) (W.drew.freeze ⟨g, 0, none⟩ l.length) := by
      refine Lib.run_unsafeString_row W.drew 67 3 9 5 Tryd.underlying67 (by kernel_rfl) g cur.size (by have hg' : W.drew.heap[g]? = some (.cells cur 5 (0, 0)) := hg; simp [World.shape?, hg']) l h0 (by omega) (by unfold maxLen at hcm; omega) ?_
      intro j x hx
      have := hown.cells (g := g) rfl j (.int .u8 x.toNat) (by simp [Lib.byteCells, hx])
      exact this
    clear hp hv hne hown hl0
    go_enter Tryd.func22, Tryd.ntmps22
    go_wp2
    go_region
    all_goals (go_wp2; go_ret; exact ⟨rfl, ((Fr.refl _ _).drew).freeze _ _ (.inl rfl)⟩)
/-- A builder of the call's own, carried on: what is below stays. -/
theorem carry {W W' : World} {B b : Nat} {r r' : Option Nat} (hB : B ≤ b) (hr : ∀ g, r = some g → B ≤ g) (hW : B ≤ W.heap.size) (h2 : r' = r ∨ ∃ k, r' = some k ∧ W.heap.size ≤ k) (hf : Fr (fun k => k = b ∨ some k = r) W W') :
    (∀ g, r' = some g → B ≤ g) ∧ Below B W W' := by
  refine ⟨fun g hg => ?_, hf.below hW (fun k hk => ?_)⟩
  · rcases h2 with rfl | ⟨k, h, hle⟩
    · exact hr g hg
    · rw [h] at hg; injection hg with hg; omega
  · rcases hk with rfl | hk
    · exact hB
    · exact hr k hk.symm
end Go.Proofs.YtdaooagikacboaaDoor.Bld
