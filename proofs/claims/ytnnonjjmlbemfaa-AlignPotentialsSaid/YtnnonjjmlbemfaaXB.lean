-- cut down by this session's prune2.py to what the claims name; Lean checks it
/- Rows that '[]byte(s)' makes (their block bears a conversion's mark): a form B beside the print's own forms, of bytes alone. -/
import Derived.Lib.Hide
import Derived.Test.YtnnonjjmlbemfaaWMore
import Derived.Lib.ConvBytes
import Derived.Lib.SliceRun
namespace Go.Proofs.YtnnonjjmlbemfaaW.PrintWords
open Go.RowKit
theorem bl_eq : ∀ (x y : List UInt8), Op.bytesLess x y = decide (x < y)
  | x, [] => by cases x <;> simp [Op.bytesLess]
  | [], b :: y => by simp [Op.bytesLess]
  | a :: x, b :: y => by
    unfold Op.bytesLess
    rw [bl_eq x y]
    by_cases h1 : a < b <;> by_cases h2 : a = b <;> by_cases h3 : x < y <;> simp [List.cons_lt_cons_iff, h1, h2, h3]
theorem bl_tri (x y : List UInt8) : (!(Op.bytesLess x y || x == y)) = Op.bytesLess y x := by
  rw [bl_eq, bl_eq]
  by_cases h : y < x
  · have h1 : ¬ x < y := List.not_lt.2 (List.le_of_lt h)
    have h2 : x ≠ y := by rintro rfl; exact List.lt_irrefl _ h
    simp [h, h1, h2]
  · by_cases g : x < y
    · simp [h, g]
    · have : x = y := List.le_antisymm (List.not_lt.1 h) (List.not_lt.1 g)
      simp [this, List.lt_irrefl]
theorem bl_tri' (x y : List UInt8) : (Op.bytesLess x y || x == y) = !Op.bytesLess y x := by rw [← bl_tri x y, Bool.not_not]
theorem binOp_gtr_str (t : TypeId) (x y : ByteArray) : Go.binOp BinOp.gtr t (Value.string x) (Value.string y) = pure (.bool (Op.bytesLess y.toList x.toList)) := by
  rw [← bl_tri]; rfl
theorem binOp_leq_str (t : TypeId) (x y : ByteArray) : Go.binOp BinOp.leq t (Value.string x) (Value.string y) = pure (.bool (!Op.bytesLess y.toList x.toList)) := by
  rw [← bl_tri']; rfl
theorem isSome_setCell (w : World) (p q : Addr) (x : Value) : ((w.setCell p x).cell? q).isSome = (w.cell? q).isSome := by
  cases h : w.cell? q with
  | some v =>
    obtain ⟨v', hv⟩ := cell?_setCell_some (p := p) (x := x) h
    rw [hv]; rfl
  | none =>
    by_cases hb : p.block = q.block
    · unfold World.cell? World.setCell at *
      simp only at *
      rw [hb, Array.getElem?_modify, if_pos rfl]
      cases hh : w.heap[q.block]? with
      | none => rfl
      | some o =>
        rw [hh] at h
        cases o <;> simp_all
        split
        · simp_all
        · simp only [Array.size_setIfInBounds]; exact h
    · have : (w.setCell p x).cell? q = w.cell? q := World.cell?_of_block (Below.heap_setCell w p x q.block (fun e => hb e.symm))
      rw [this, h]
namespace Kd
def B (d : Kd Int) (e : Nat) (w : World) (base : Nat) (ok : Nat → Prop) (v : Value) (xs : List Int) : Prop :=
  ∃ g cap cur m, v = .slice (some ⟨g, 0, none⟩) xs.length cap ∧ ok g ∧ base ≤ g ∧ xs.length ≤ cap ∧ xs.length ≤ 9223372036854775807 ∧ w.heap[g]? = some (.cells cur e (m, m + 1)) ∧ cur.size ≤ m ∧ cur.toList.take xs.length = nums .u8 xs ∧ d = Kd.int .u8
section
variable {d : Kd Int} {e e' : Nat} {w w1 W : World} {base g N m : Nat} {ok ok' : Nat → Prop} {v u : Value} {xs : List Int}
end
section
variable {P : Program} {ops : Array Oper} {rest : List Oper} {o : Oper} {a : Act} {Q : Exit → Act → World → Prop}
end
end Kd
theorem Kd.C_none {α : Type} {d : Kd α} {w : World} {n : Nat} {xs : List α} (h : d.C w none n xs) : xs = [] := by
  obtain ⟨hl, hm, hc⟩ := h
  rcases Nat.eq_zero_or_pos n with h0 | h0
  · exact List.eq_nil_of_length_eq_zero (hl.trans h0)
  · obtain ⟨ad, e, _⟩ := hc h0; cases e
section
variable {P : Program} {ops : Array Oper} {rest : List Oper} {o : Oper} {a : Act} {Q : Exit → Act → World → Prop} {W : World}
end
end Go.Proofs.YtnnonjjmlbemfaaW.PrintWords
