-- cut down by this session's prune2.py to what the claims name; Lean checks it
/- Rows that '[]byte(s)' makes (their block bears a conversion's mark): a form B beside the print's own forms, of bytes alone. -/
import Derived.Lib.Hide
import Derived.Test.YtdaooagikacboaaWMore
import Derived.Lib.ConvBytes
import Derived.Lib.SliceRun
namespace Go.Proofs.YtdaooagikacboaaW.PrintWords
open Go.RowKit
theorem bl_eq : ∀ (x y : List UInt8), Op.bytesLess x y = decide (x < y)
  | x, [] => by cases x <;> simp [Op.bytesLess]
  | [], b :: y => by simp [Op.bytesLess]
  | a :: x, b :: y => by
    unfold Op.bytesLess
    rw [bl_eq x y]
    by_cases h1 : a < b <;> by_cases h2 : a = b <;> by_cases h3 : x < y <;> simp [List.cons_lt_cons_iff, h1, h2, h3]
theorem bl_tri (x y : List UInt8) : (!(Op.bytesLess x y || x == y)) = Op.bytesLess y x := by
  rw [bl_eq, bl_eq]
  by_cases h : y < x
  · have h1 : ¬ x < y := List.not_lt.2 (List.le_of_lt h)
    have h2 : x ≠ y := by rintro rfl; exact List.lt_irrefl _ h
    simp [h, h1, h2]
  · by_cases g : x < y
    · simp [h, g]
    · have : x = y := List.le_antisymm (List.not_lt.1 h) (List.not_lt.1 g)
      simp [this, List.lt_irrefl]
theorem bl_tri' (x y : List UInt8) : (Op.bytesLess x y || x == y) = !Op.bytesLess y x := by rw [← bl_tri x y, Bool.not_not]
theorem binOp_gtr_str (t : TypeId) (x y : ByteArray) : Go.binOp BinOp.gtr t (Value.string x) (Value.string y) = pure (.bool (Op.bytesLess y.toList x.toList)) := by
  rw [← bl_tri]; rfl
theorem binOp_leq_str (t : TypeId) (x y : ByteArray) : Go.binOp BinOp.leq t (Value.string x) (Value.string y) = pure (.bool (!Op.bytesLess y.toList x.toList)) := by
  rw [← bl_tri']; rfl
theorem binOp_geq_str (t : TypeId) (x y : ByteArray) : Go.binOp BinOp.geq t (Value.string x) (Value.string y) = pure (.bool (!Op.bytesLess x.toList y.toList)) := rfl
theorem isSome_setCell (w : World) (p q : Addr) (x : Value) : ((w.setCell p x).cell? q).isSome = (w.cell? q).isSome := by
  cases h : w.cell? q with
  | some v =>
    obtain ⟨v', hv⟩ := cell?_setCell_some (p := p) (x := x) h
    rw [hv]; rfl
  | none =>
    by_cases hb : p.block = q.block
    · unfold World.cell? World.setCell at *
      simp only at *
      rw [hb, Array.getElem?_modify, if_pos rfl]
      cases hh : w.heap[q.block]? with
      | none => rfl
      | some o =>
        rw [hh] at h
        cases o <;> simp_all
        split
        · simp_all
        · simp only [Array.size_setIfInBounds]; exact h
    · have : (w.setCell p x).cell? q = w.cell? q := World.cell?_of_block (Below.heap_setCell w p x q.block (fun e => hb e.symm))
      rw [this, h]
namespace Kd
def B (d : Kd Int) (e : Nat) (w : World) (base : Nat) (ok : Nat → Prop) (v : Value) (xs : List Int) : Prop :=
  ∃ g cap cur m, v = .slice (some ⟨g, 0, none⟩) xs.length cap ∧ ok g ∧ base ≤ g ∧ xs.length ≤ cap ∧ xs.length ≤ 9223372036854775807 ∧ w.heap[g]? = some (.cells cur e (m, m + 1)) ∧ cur.size ≤ m ∧ cur.toList.take xs.length = nums .u8 xs ∧ d = Kd.int .u8
section
variable {d : Kd Int} {e e' : Nat} {w w1 W : World} {base g N m : Nat} {ok ok' : Nat → Prop} {v u : Value} {xs : List Int}
theorem B_size {g : Nat} {cur : Array Value} {mk : Nat × Nat} {w : World} (h : w.heap[g]? = some (.cells cur e mk)) : g < w.heap.size := by
  rcases Nat.lt_or_ge g w.heap.size with h' | h'
  · exact h'
  · rw [Array.getElem?_eq_none h'] at h; cases h
theorem B_mono (h : d.B e w base ok v xs) (hok : ∀ k, ok k → ok' k) : d.B e w base ok' v xs := by
  obtain ⟨g, cap, cur, m, h1, h2, h3⟩ := h
  exact ⟨g, cap, cur, m, h1, hok g h2, h3⟩
theorem B_bound (h : d.B e w base ok v xs) : d.B e w base (fun k => ok k ∧ base ≤ k ∧ k < w.heap.size ∧ ∃ cells m, w.heap[k]? = some (.cells cells e (m, m + 1))) v xs := by
  obtain ⟨g, cap, cur, m, h1, h2, h3, h4, h5, h6, h7⟩ := h
  exact ⟨g, cap, cur, m, h1, ⟨h2, h3, B_size h6, cur, m, h6⟩, h3, h4, h5, h6, h7⟩
theorem B_move (h : d.B e w base ok v xs) (hm : ∀ k, ok k → w1.heap[k]? = w.heap[k]?) : d.B e w1 base ok v xs := by
  obtain ⟨g, cap, cur, m, h1, h2, h3, h4, h5, h6, h7⟩ := h
  exact ⟨g, cap, cur, m, h1, h2, h3, h4, h5, (hm g h2).trans h6, h7⟩
theorem B_lower {base' : Nat} (h : d.B e w base ok v xs) (hb : base' ≤ base) : d.B e w base' ok v xs := by
  obtain ⟨g, cap, cur, m, h1, h2, h3, h4⟩ := h
  exact ⟨g, cap, cur, m, h1, h2, Nat.le_trans hb h3, h4⟩
theorem B_step (h : d.B e w base ok v xs) (hm : ∀ k, ok k → k < w.heap.size → w1.heap[k]? = w.heap[k]?) : d.B e w1 base ok v xs := B_mono (B_move (B_bound h) (fun k hk => hm k hk.1 hk.2.2.1)) (fun _ hk => hk.1)
theorem B_below (h : d.B e w base ok v xs) (hb : Below w.heap.size w w1) : d.B e w1 base ok v xs := B_step h (fun k _ hk => hb.block k hk)
theorem B_alloc (h : d.B e w base ok v xs) (o : Obj) : d.B e (w.alloc o) base ok v xs := B_below h (below_alloc (Below.refl _ _) o)
theorem B_drew (h : d.B e w base ok v xs) : d.B e w.drew base ok v xs := B_below h (below_drew (Below.refl _ _))
theorem B_drewN (h : d.B e w base ok v xs) (m : Nat) : d.B e (w.drewN m) base ok v xs := B_below h (pw_below_drewN (Below.refl _ _) m)
theorem B_slice (h : d.B e w base ok v xs) : ∃ A c, v = .slice A xs.length c := by
  obtain ⟨g, cap, cur, m, rfl, _⟩ := h
  exact ⟨_, _, rfl⟩
theorem mark_ne {k : Nat} {cells cells' : Array Value} {q t m : Nat} (h : W.heap[k]? = some (.cells cells q (0, 0))) (h' : W.heap[k]? = some (.cells cells' t (m, m + 1))) : False := by
  rw [h] at h'
  injection h' with h'
  injection h' with _ _ h'
  injection h' with h1 h2
  omega
theorem B_over' (h : d.B e W base ok u xs) (hty : ∀ k, v.ownBlock = some k → ∃ cells, W.heap[k]? = some (.cells cells e' (0, 0))) (_ht : ∀ q, q ∈ e :: d.E → q ≠ e') (hg : W.grownBy w1 v.ownBlock) : d.B e w1 base ok u xs := by
  refine B_mono (B_move (B_bound h) (fun k hk => hg.block k hk.2.2.1 (fun he => ?_))) (fun _ hk => hk.1)
  obtain ⟨_, _, _, cells, m, hc⟩ := hk
  obtain ⟨cells', hc'⟩ := hty k he.symm
  exact mark_ne hc' hc
theorem B_getD {cur : Array Value} {n : Nat} (ht : cur.toList.take n = nums .u8 xs) (hl : xs.length = n) (j : Nat) (hj : j < n) : cur[j]? = some (.int .u8 (xs.getD j 0)) := by
  have h1 : (cur.toList.take n)[j]? = (nums .u8 xs)[j]? := by rw [ht]
  rw [List.getElem?_take, if_pos hj] at h1
  rw [← Array.getElem?_toList, h1, nums, List.getElem?_map, List.getD_eq_getElem?_getD, List.getElem?_eq_getElem (by omega)]
  rfl
theorem B_cellat (h : d.B e W base ok v xs) : ∃ g cap, v = .slice (some ⟨g, 0, none⟩) xs.length cap ∧ ∀ j, j < xs.length → W.cell? ⟨g, j, none⟩ = some (.int .u8 (xs.getD j 0)) ∧ W.frozen? ⟨g, j, none⟩ = false := by
  obtain ⟨g, cap, cur, m, h1, h2, h3, h4, h5, h6, h7, h8, rfl⟩ := h
  refine ⟨g, cap, h1, fun j hj => ?_⟩
  have hc := B_getD h8 rfl j hj
  have hjs : j < cur.size := by
    rcases Nat.lt_or_ge j cur.size with h' | h'
    · exact h'
    · rw [Array.getElem?_eq_none h'] at hc; cases hc
  constructor
  · simp [World.cell?, h6, hc]
  · simp only [World.frozen?, h6]
    simp
    omega
theorem B_reads' {A : Option Addr} {n c : Nat} (h : d.B e w base ok (.slice A n c) xs) : n = xs.length ∧ n ≤ c ∧ d.C w A xs.length xs := by
  have h0 := h
  obtain ⟨g, cap, cur, m, h1, h2, h3, h4, h5, h6, h7, h8, rfl⟩ := h
  injection h1 with h1 hn hc
  subst h1 hn hc
  refine ⟨rfl, h4, ?_⟩
  obtain ⟨g', cap', he, hcell⟩ := B_cellat h0
  injection he with he _ _
  injection he with he
  injection he with he _ _
  subst he
  refine C_of_reads (enc := Value.int .u8) (d := (0 : Int)) (h1 := fun _ => rfl) ⟨rfl, h5, fun _ => ⟨_, rfl, fun j hj => ?_⟩⟩
  have ha : (⟨g, 0, none⟩ : Addr).add j = ⟨g, 0 + j, none⟩ := by unfold Addr.add; split <;> simp_all
  rw [ha, Nat.zero_add]
  exact (hcell j hj).1
end
section
variable {P : Program} {ops : Array Oper} {rest : List Oper} {o : Oper} {a : Act} {Q : Exit → Act → World → Prop}
/-- '[]byte(s)': as if a call had made it. -/
theorem B_conv {w0 W : World} (base e : Nat) (hgd : o.guard = none) {N : Tmp} (_hd : o.dst = some N) (src t : TypeId) (x : Operand) (ho : o.op = .convert src t x) (s : ByteArray) (hx : a.eval x = .string s) {us : TypeDesc} (hs : P.underlying src = some us) (ht : P.underlying t = some (.slice e)) (he : P.underlying e = some (.int .u8))
    {ok : Nat → Prop} (hfresh : ok W.heap.size) (hl : s.size ≤ 9223372036854775807) (HB : Below base w0 W) (hbase : base ≤ W.heap.size)
    (h : ∀ v1 w1, Kd.B (Kd.int .u8) e w1 base ok v1 (bytesOf s) → Below base w0 w1 → W.grownBy w1 none → (∃ b, v1.ownBlock = some b ∧ W.heap.size ≤ b) → wpList P ops Q rest (a.put o.dst v1) w1) : wpList P ops Q (o :: rest) a W := by
  have hrun := Lib.run_convert_string_bytes (P := P) W src t e s hs ht he
  have hsz := Lib.bytesWorld_size W e s
  refine event_run hgd (v := .slice (some ⟨W.heap.size, 0, none⟩) s.size (grownCap W s.size 0 e)) (w1 := Lib.bytesWorld W e s) ?_ (h _ _ ?_ ?_ ?_ ⟨W.heap.size, rfl, Nat.le_refl _⟩)
  · simp [execOp, ho, hx, hrun]
  · refine ⟨W.heap.size, _, Lib.bytesCells W e s, (Lib.bytesCells W e s).size, by rw [bytesOf_length], hfresh, hbase, ?_, by rw [bytesOf_length]; exact hl, Lib.bytesWorld_at_new W e s, Nat.le_refl _, ?_, rfl⟩
    · rw [bytesOf_length]; exact grownCap_ge W s.size 0 e
    · rw [bytesOf_length, Lib.bytesCells, Array.toList_append, List.take_append_of_le_length (by simp), List.take_of_length_le (by simp)]
      simp [nums, bytesOf]
  · exact ⟨HB.os, HB.tape, HB.output, by rw [hsz]; have := HB.size; omega, fun k hk => (Lib.bytesWorld_at_old W e s k (by omega)).trans (HB.block k hk)⟩
  · exact ⟨rfl, rfl, rfl, by rw [hsz]; omega, fun k hk _ => Lib.bytesWorld_at_old W e s k hk⟩
end
end Kd
theorem Kd.C_none {α : Type} {d : Kd α} {w : World} {n : Nat} {xs : List α} (h : d.C w none n xs) : xs = [] := by
  obtain ⟨hl, hm, hc⟩ := h
  rcases Nat.eq_zero_or_pos n with h0 | h0
  · exact List.eq_nil_of_length_eq_zero (hl.trans h0)
  · obtain ⟨ad, e, _⟩ := hc h0; cases e
section
variable {P : Program} {ops : Array Oper} {rest : List Oper} {o : Oper} {a : Act} {Q : Exit → Act → World → Prop} {W : World}
/-- The operation is a call of what this place holds. -/
theorem gate_calltmp {t : Tmp} {as : Array Operand} {ts : Array TypeId} (_ho : o.op = .call { callee := .value (.tmp t), args := as, argTypes := ts }) (h : wpList P ops Q (o :: rest) a W) : wpList P ops Q (o :: rest) a W := h
/-- A call of a function value that is known (it captures nothing), in a plain region. -/
theorem goesV_ {w : World} (N : Option Tmp) (hd : o.dst = N) (hg : o.guard = none) {f : FuncId} {fn : Func} {as : Array Operand} {ts : Array TypeId} (hf : P.funcs[f]? = some fn) (hname : (fn.name == "runtime.NumGoroutine") = false) (hb : fn.body.isSome = true) (args : Array Value)
    (c : Operand) (hop : o.op = .call { callee := .value c, args := as, argTypes := ts }) (hv : a.eval c = .func (.func f) #[] #[]) (hargs : as.map a.eval = args)
    (h : Calls P f args w fun e w' => ∃ v, e = .returned v ∧ wpList P ops Q rest (a.put N v) w') : wpList P ops Q (o :: rest) a w := by
  refine wpList_plain hg fun K hK => ?_
  have he := Go.Proofs.YtdaooagikacboaaW.PrintLast.enters_ hf hname hb args w
  have hrun : (execOp a.eval o).run P w = .ok (.enter f args) w := by
    unfold execOp
    simp [hop, resolve, Deferred.ofValue, invoke, hv, hargs, he]
  unfold Oper.wp
  rw [hrun, Oper.upon_enter]
  refine h.mono fun e w'' hh => ?_
  obtain ⟨v, rfl, hk⟩ := hh
  subst hd
  exact hK _ _ hk
end
end Go.Proofs.YtdaooagikacboaaW.PrintWords
