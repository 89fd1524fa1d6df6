-- and more
-- shortened
-- thinned
-- halved indents
-- printed by this session's xprint.py: out of the translation, by the kit's print with additions; Lean checks it
import Derived.Test.YtmjigfoldeekmaaXE
import Derived.Test.YtmjigfoldeekmaaXD
import Derived.Test.YtmjigfoldeekmaaWN
import Derived.Test.YtmjigfoldeekmaaWShare
import Derived.Test.YtmjigfoldeekmaaWRepsOne
import Derived.Test.YtmjigfoldeekmaaWGuard
import Derived.Test.YtmjigfoldeekmaaX0
import Derived.Test.YtmjigfoldeekmaaX3
import Derived.Test.YtmjigfoldeekmaaXA
namespace Go.Proofs.Ytmjigfoldeekmaa.X
open Go.RowKit Go.Proofs.YtmjigfoldeekmaaW.PrintWords Go.Proofs.YtmjigfoldeekmaaW.PrintLast Go.Proofs.YtmjigfoldeekmaaW.PrintMore
attribute [local go_sem] max2_int min2_int max_two min_two max_three min_three max_four min_four isSome_setCell binOp_gtr_str binOp_leq_str binOp_geq_str   -- for this text's walks alone
set_option linter.unusedVariables false
set_option linter.unusedSimpArgs false

/-! ### apparatus_Words: function 10 -/
def apparatus_Words.row (f : List ByteArray → Nat) (x : ByteArray) (n : Nat) : List ByteArray → Nat
 | [] => n + 1
 | y :: b => min (min (f b + (if x.toList = y.toList then 0 else 1)) (f (y :: b) + 1)) (apparatus_Words.row f x n b + 1)
def apparatus_Words.cost : List ByteArray → List ByteArray → Nat
 | [], b => b.length
 | x :: a, b => apparatus_Words.row (apparatus_Words.cost a) x a.length b
theorem apparatus_Words.cost_nil (b : List ByteArray) : apparatus_Words.cost [] b = b.length := rfl
theorem apparatus_Words.cost_end : ∀ a : List ByteArray, apparatus_Words.cost a [] = a.length
 | [] => rfl
 | _ :: _ => rfl
theorem apparatus_Words.cost_cons (x : ByteArray) (a : List ByteArray) (y : ByteArray) (b : List ByteArray) : apparatus_Words.cost (x :: a) (y :: b) = min (min (apparatus_Words.cost a b + (if x.toList = y.toList then 0 else 1)) (apparatus_Words.cost a (y :: b) + 1)) (apparatus_Words.cost (x :: a) b + 1) := rfl
theorem apparatus_Words.cost_le : ∀ a b : List ByteArray, apparatus_Words.cost a b ≤ a.length + b.length
 | [], b => by rw [apparatus_Words.cost_nil]; simp
 | x :: a, [] => by rw [apparatus_Words.cost_end]; simp
 | x :: a, y :: b => by
  have h := apparatus_Words.cost_le a (y :: b)
  rw [apparatus_Words.cost_cons]
  simp only [List.length_cons] at h ⊢
  omega
/-- The number at row q, column p, when the rows from lo on are made and row lo is filled behind column j. -/
def apparatus_Words.val (a b : List ByteArray) (lo : Nat) (j : Int) (q p : Nat) : Int := if q = lo ∧ (p : Int) ≤ j then 0 else (apparatus_Words.cost (a.drop q) (b.drop p) : Int)
def apparatus_Words.G (w : World) (base gC : Nat) (a b : List ByteArray) (lo : Nat) (j : Int) : Prop :=
 ∃ gs : Nat → Nat, w.heap[gC]? = some (.cells ((List.range (a.length + 1)).map (fun q => if lo ≤ q then Value.slice (some ⟨gs q, 0, none⟩) (b.length + 1) (b.length + 1) else .slice none 0 0)).toArray 52 (0, 0)) ∧
  ∀ q, lo ≤ q → q ≤ a.length → base ≤ gs q ∧ gs q ≠ gC ∧ w.heap[gs q]? = some (.cells ((List.range (b.length + 1)).map (fun p => Value.int .i64 (apparatus_Words.val a b lo j q p))).toArray 3 (0, 0)) ∧ ∀ q', lo ≤ q' → q' ≤ a.length → gs q = gs q' → q = q'
theorem apparatus_Words.G.below {w w1 : World} {base gC : Nat} {a b : List ByteArray} {lo : Nat} {j : Int} (h : apparatus_Words.G w base gC a b lo j) (hb : Below w.heap.size w w1) : apparatus_Words.G w1 base gC a b lo j := by
 obtain ⟨gs, h1, h2⟩ := h
 exact ⟨gs, blk_below h1 hb, fun q hq hl => ⟨(h2 q hq hl).1, (h2 q hq hl).2.1, blk_below (h2 q hq hl).2.2.1 hb, (h2 q hq hl).2.2.2⟩⟩
/-- What is read: a row, and a number of it. -/
theorem apparatus_Words.G.at_ {w : World} {base gC : Nat} {a b : List ByteArray} {lo : Nat} {j : Int} (h : apparatus_Words.G w base gC a b lo j) (q : Nat) (hq : lo ≤ q) (hl : q ≤ a.length) :
  ∃ g, base ≤ g ∧ w.cell? ⟨gC, q, none⟩ = some (.slice (some ⟨g, 0, none⟩) (b.length + 1) (b.length + 1)) ∧ ∀ p, p ≤ b.length → w.cell? ⟨g, p, none⟩ = some (.int .i64 (apparatus_Words.val a b lo j q p)) := by
 obtain ⟨gs, h1, h2⟩ := h
 obtain ⟨h3, h4, h5, h6⟩ := h2 q hq hl
 refine ⟨gs q, h3, ?_, fun p hp => ?_⟩
 ·rw [blk_cell h1 q]
  simp [List.getElem?_map, List.getElem?_range (show q < a.length + 1 by omega), hq]
 ·rw [blk_cell h5 p]
  simp [List.getElem?_map, List.getElem?_range (show p < b.length + 1 by omega)]
/-- A number is stored into the row that is being filled. -/
theorem apparatus_Words.G.put {w : World} {base gC : Nat} {a b : List ByteArray} {lo : Nat} {j : Int} (h : apparatus_Words.G w base gC a b lo j) (hl : lo ≤ a.length) (j0 : 0 ≤ j) (j1 : j ≤ b.length) :
  ∃ g, base ≤ g ∧ w.cell? ⟨gC, lo, none⟩ = some (.slice (some ⟨g, 0, none⟩) (b.length + 1) (b.length + 1)) ∧ (∃ v, w.cell? ⟨g, j.toNat, none⟩ = some v) ∧ w.frozen? ⟨g, j.toNat, none⟩ = false ∧
   (∀ q, lo < q → q ≤ a.length → ∃ g', base ≤ g' ∧ w.cell? ⟨gC, q, none⟩ = some (.slice (some ⟨g', 0, none⟩) (b.length + 1) (b.length + 1)) ∧ ∀ p, p ≤ b.length → w.cell? ⟨g', p, none⟩ = some (.int .i64 (apparatus_Words.val a b lo j q p))) ∧
   (∀ p, p ≤ b.length → w.cell? ⟨g, p, none⟩ = some (.int .i64 (apparatus_Words.val a b lo j lo p))) ∧
   apparatus_Words.G (w.setCell ⟨g, j.toNat, none⟩ (.int .i64 (apparatus_Words.cost (a.drop lo) (b.drop j.toNat) : Int))) base gC a b lo (j - 1) := by
 have hh := h
 obtain ⟨gs, h1, h2⟩ := h
 obtain ⟨h3, h4, h5, h6⟩ := h2 lo (Nat.le_refl _) hl
 have hat : ∀ p, p ≤ b.length → w.cell? ⟨gs lo, p, none⟩ = some (.int .i64 (apparatus_Words.val a b lo j lo p)) := fun p hp => by
  rw [blk_cell h5 p]
  simp [List.getElem?_map, List.getElem?_range (show p < b.length + 1 by omega)]
 refine ⟨gs lo, h3, ?_, ⟨_, hat j.toNat (by omega)⟩, blk_frozen h5 _, fun q hq hql => hh.at_ q (by omega) hql, hat, gs, ?_, ?_⟩
 ·rw [blk_cell h1 lo]
  simp [List.getElem?_map, List.getElem?_range (show lo < a.length + 1 by omega)]
 ·exact blk_far h1 (p := ⟨gs lo, j.toNat, none⟩) (Ne.symm h4) _
 ·intro q hq hql
  obtain ⟨k3, k4, k5, k6⟩ := h2 q hq hql
  refine ⟨k3, k4, ?_, k6⟩
  by_cases e : q = lo
  ·subst e
   refine blk_put k5 j.toNat _ ?_
   rw [List.setIfInBounds_toArray]
   congr 1
   refine List.ext_getElem (by simp) (fun p hp1 hp2 => ?_)
   simp only [List.length_set, List.length_map, List.length_range] at hp1
   rw [List.getElem_set]
   simp only [List.getElem_map, List.getElem_range]
   by_cases e : j.toNat = p
   ·subst e
    rw [if_pos rfl]
    unfold apparatus_Words.val
    rw [if_neg (by omega)]
   ·rw [if_neg e]
    congr 1
    unfold apparatus_Words.val
    by_cases c : (p : Int) ≤ j
    ·rw [if_pos ⟨rfl, c⟩, if_pos ⟨rfl, by omega⟩]
    ·rw [if_neg (fun h => c h.2), if_neg (fun h => c (by omega))]
  ·have hne : gs q ≠ gs lo := fun h => e (k6 lo (Nat.le_refl _) hl h)
   have k7 := blk_far k5 (p := ⟨gs lo, j.toNat, none⟩) hne (.int .i64 (apparatus_Words.cost (a.drop lo) (b.drop j.toNat) : Int))
   rw [k7]
   congr 4
   funext p
   unfold apparatus_Words.val
   rw [if_neg (fun h => e h.1), if_neg (fun h => e h.1)]
/-- A row is made and stored. -/
theorem apparatus_Words.G.new {w : World} {base gC : Nat} {a b : List ByteArray} {lo : Nat} (h : apparatus_Words.G w base gC a b (lo + 1) (-1)) (hl : lo ≤ a.length) (hb : base ≤ w.heap.size) :
  apparatus_Words.G ((w.alloc (.cells (madeCells #[.int .i64 0] (b.length + 1)) 3)).setCell ⟨gC, lo, none⟩ (.slice (some ⟨w.heap.size, 0, none⟩) (b.length + 1) (b.length + 1))) base gC a b lo b.length := by
 obtain ⟨gs, h1, h2⟩ := h
 have hlt := blk_lt h1
 have h1' := blk_below h1 (below_alloc (Below.refl _ _) (.cells (madeCells #[.int .i64 0] (b.length + 1)) 3))
 refine ⟨fun q => if q = lo then w.heap.size else gs q, ?_, ?_⟩
 ·refine blk_put h1' lo _ ?_
  rw [List.setIfInBounds_toArray]
  congr 1
  refine List.ext_getElem (by simp) (fun q hq1 hq2 => ?_)
  simp only [List.length_set, List.length_map, List.length_range] at hq1
  rw [List.getElem_set]
  simp only [List.getElem_map, List.getElem_range]
  by_cases e : lo = q
  ·subst e
   simp
  ·rw [if_neg e]
   by_cases c : lo + 1 ≤ q
   ·rw [if_pos c, if_pos (show lo ≤ q by omega), if_neg (show ¬ q = lo by omega)]
   ·rw [if_neg c, if_neg (show ¬ lo ≤ q by omega)]
 ·intro q hq hql
  by_cases e : q = lo
  ·subst e
   simp only [if_true]
   refine ⟨hb, by omega, ?_, fun q' hq' hql' he => ?_⟩
   ·rw [blk_far (blk_new w (.cells (madeCells #[.int .i64 0] (b.length + 1)) 3)) (p := ⟨gC, q, none⟩) (show w.heap.size ≠ gC by omega)]
    congr 2
    apply Array.ext'
    refine List.ext_getElem (by simp [madeCells]) (fun p hp1 hp2 => ?_)
    simp [madeCells] at hp1
    simp [madeCells, Nat.mod_one, apparatus_Words.val]
    omega
   ·by_cases e' : q' = q
    ·exact e'.symm
    ·rw [if_neg e'] at he
     have := blk_lt (h2 q' (by omega) hql').2.2.1
     omega
  ·obtain ⟨k3, k4, k5, k6⟩ := h2 q (by omega) hql
   simp only [if_neg e]
   refine ⟨k3, k4, ?_, fun q' hq' hql' he => ?_⟩
   ·rw [blk_far (blk_below k5 (below_alloc (Below.refl _ _) _)) (p := ⟨gC, lo, none⟩) k4]
    congr 4
    funext p
    unfold apparatus_Words.val
    rw [if_neg (fun h => by omega), if_neg (fun h => by omega)]
   ·by_cases e' : q' = lo
    ·rw [if_pos e'] at he
     have := blk_lt k5
     omega
    ·rw [if_neg e'] at he
     exact k6 q' (by omega) hql' he
/-- A row that is filled, seen as the end of the rows made. -/
theorem apparatus_Words.val_full (a b : List ByteArray) (lo : Nat) (q p : Nat) : apparatus_Words.val a b lo (-1) q p = (apparatus_Words.cost (a.drop q) (b.drop p) : Int) := by
 unfold apparatus_Words.val
 rw [if_neg (by omega)]
theorem apparatus_Words.val_of (a b : List ByteArray) {lo : Nat} {j : Int} {q p : Nat} (h : q ≠ lo ∨ j < (p : Int)) : apparatus_Words.val a b lo j q p = (apparatus_Words.cost (a.drop q) (b.drop p) : Int) := by
 unfold apparatus_Words.val
 rw [if_neg (by omega)]
/-- The rows, none of them made. -/
theorem apparatus_Words.G.none_ {w : World} {gC : Nat} (a b : List ByteArray) (base : Nat) (h : w.heap[gC]? = some (.cells (madeCells #[.slice none 0 0] (a.length + 1)) 52 (0, 0))) : apparatus_Words.G w base gC a b (a.length + 1) (-1) := by
 refine ⟨fun _ => 0, ?_, fun q hq hl => absurd hq (by omega)⟩
 rw [h]
 congr 2
 apply Array.ext'
 refine List.ext_getElem (by simp [madeCells]) (fun p hp1 hp2 => ?_)
 simp [madeCells] at hp1
 simp [madeCells, Nat.mod_one]
 omega
/-- The cell that the row goes into. -/
theorem apparatus_Words.G.slot {w : World} {base gC : Nat} {a b : List ByteArray} {lo : Nat} {j : Int} (h : apparatus_Words.G w base gC a b lo j) (q : Nat) (hq : q ≤ a.length) : (∃ v, w.cell? ⟨gC, q, none⟩ = some v) ∧ w.frozen? ⟨gC, q, none⟩ = false := by
 obtain ⟨gs, h1, h2⟩ := h
 refine ⟨?_, blk_frozen h1 _⟩
 rw [blk_cell h1 q]
 simp [List.getElem?_map, List.getElem?_range (show q < a.length + 1 by omega)]
def apparatus_Words.I (w : World) (base b6 b8 b9 gC : Nat) (A : Option Addr) (cA : Nat) (B : Option Addr) (cB : Nat) (a b : List ByteArray) (lo : Nat) (j : Int) : Prop :=
 (b6 < gC ∧ b8 < gC ∧ gC < b9 ∧ b9 < base) ∧ w.heap[b6]? = some (.cells #[.slice A a.length cA] 34 (0, 0)) ∧ w.heap[b8]? = some (.cells #[.slice B b.length cB] 34 (0, 0)) ∧ w.heap[b9]? = some (.cells #[.slice (some ⟨gC, 0, none⟩) (a.length + 1) (a.length + 1)] 68 (0, 0)) ∧ Kd.R Kd.string 9 w 0 (fun q => q < gC) (.slice A a.length cA) a ∧ Kd.R Kd.string 9 w 0 (fun q => q < gC) (.slice B b.length cB) b ∧ apparatus_Words.G w base gC a b lo j
theorem apparatus_Words.I.below {w w1 : World} {base b6 b8 b9 gC : Nat} {A : Option Addr} {cA : Nat} {B : Option Addr} {cB : Nat} {a b : List ByteArray} {lo : Nat} {j : Int} (h : apparatus_Words.I w base b6 b8 b9 gC A cA B cB a b lo j) (hb : Below w.heap.size w w1) : apparatus_Words.I w1 base b6 b8 b9 gC A cA B cB a b lo j := by
 obtain ⟨h0, h1, h2, h3, h4, h5, h6⟩ := h
 exact ⟨h0, blk_below h1 hb, blk_below h2 hb, blk_below h3 hb, Kd.R_below h4 hb, Kd.R_below h5 hb, h6.below hb⟩
theorem apparatus_Words.I.far {w : World} {base b6 b8 b9 gC : Nat} {A : Option Addr} {cA : Nat} {B : Option Addr} {cB : Nat} {a b : List ByteArray} {lo lo' : Nat} {j j' : Int} (h : apparatus_Words.I w base b6 b8 b9 gC A cA B cB a b lo j) {p : Addr} (hp : p.block = gC ∨ base ≤ p.block) (v : Value) (hG : apparatus_Words.G (w.setCell p v) base gC a b lo' j') : apparatus_Words.I (w.setCell p v) base b6 b8 b9 gC A cA B cB a b lo' j' := by
 obtain ⟨h0, h1, h2, h3, h4, h5, _⟩ := h
 exact ⟨h0, blk_far h1 (by omega) v, blk_far h2 (by omega) v, blk_far h3 (by omega) v, Kd.R_far h4 (fun k hk => by omega) v, Kd.R_far h5 (fun k hk => by omega) v, hG⟩
def apparatus_Words.pair (a b : List ByteArray) (i j : Nat) : Int := (apparatus_Words.cost (a.drop (i + 1)) (b.drop (j + 1)) : Int) + (if (rdOf ByteArray.empty a i).toList = (rdOf ByteArray.empty b j).toList then 0 else 1)
theorem apparatus_Words.step (i i1 : Nat) (e : (i : Int) + 1 = (i1 : Int)) (h : (i1 : Int) ≤ 5000000) : IntKind.i64.wrap ((i : Int) + 1) = (i1 : Int) ∧ wrap64 ((i : Int) + 1) = (i1 : Int) := by
 have h2 : wrap64 ((i : Int) + 1) = (i1 : Int) := by unfold wrap64; omega
 exact ⟨(i64_w _).trans h2, h2⟩
theorem apparatus_Words.step' (c : Nat) (h : (c : Int) + 1 ≤ 5000000) : IntKind.i64.wrap ((c : Int) + 1) = (c : Int) + 1 ∧ wrap64 ((c : Int) + 1) = (c : Int) + 1 := by
 have h2 : wrap64 ((c : Int) + 1) = (c : Int) + 1 := by unfold wrap64; omega
 exact ⟨(i64_w _).trans h2, h2⟩
theorem apparatus_Words.less (n p c : Nat) (e : (n : Int) - (p : Int) = (c : Int)) (h : (n : Int) ≤ 5000000) : IntKind.i64.wrap ((n : Int) - (p : Int)) = (c : Int) ∧ wrap64 ((n : Int) - (p : Int)) = (c : Int) := by
 have h2 : wrap64 ((n : Int) - (p : Int)) = (c : Int) := by unfold wrap64; omega
 exact ⟨(i64_w _).trans h2, h2⟩
theorem apparatus_Words.down (n : Nat) (h : (n : Int) ≤ 5000000) : wrap64 ((n : Int) - 1) = (n : Int) - 1 ∧ IntKind.i64.wrap ((n : Int) - 1) = (n : Int) - 1 := by
 have h2 : wrap64 ((n : Int) - 1) = (n : Int) - 1 := by unfold wrap64; omega
 exact ⟨h2, (i64_w _).trans h2⟩
theorem apparatus_Words.cost_at (a b : List ByteArray) {i p : Nat} (hi : i < a.length) (hp : p < b.length) : (apparatus_Words.cost (a.drop i) (b.drop p) : Int) = (if (apparatus_Words.cost (a.drop i) (b.drop (p + 1)) : Int) + 1 < (if (apparatus_Words.cost (a.drop (i + 1)) (b.drop p) : Int) + 1 < apparatus_Words.pair a b i p then (apparatus_Words.cost (a.drop (i + 1)) (b.drop p) : Int) + 1 else apparatus_Words.pair a b i p) then (apparatus_Words.cost (a.drop i) (b.drop (p + 1)) : Int) + 1 else (if (apparatus_Words.cost (a.drop (i + 1)) (b.drop p) : Int) + 1 < apparatus_Words.pair a b i p then (apparatus_Words.cost (a.drop (i + 1)) (b.drop p) : Int) + 1 else apparatus_Words.pair a b i p)) := by
 have ea : a.drop i = rdOf ByteArray.empty a (i : Int) :: a.drop (i + 1) := by
  rw [List.drop_eq_getElem_cons hi]
  simp [rdOf, List.getD_eq_getElem?_getD, hi]
 have eb : b.drop p = rdOf ByteArray.empty b (p : Int) :: b.drop (p + 1) := by
  rw [List.drop_eq_getElem_cons hp]
  simp [rdOf, List.getD_eq_getElem?_getD, hp]
 have h := apparatus_Words.cost_cons (rdOf ByteArray.empty a (i : Int)) (a.drop (i + 1)) (rdOf ByteArray.empty b (p : Int)) (b.drop (p + 1))
 rw [← ea, ← eb] at h
 rw [h]
 unfold apparatus_Words.pair
 split <;> split <;> split <;> omega
set_option maxHeartbeats 4000000 in
theorem apparatus_Words.other {w : World} {base b6 b8 b9 gC : Nat} {A : Option Addr} {cA : Nat} {B : Option Addr} {cB : Nat} {a b : List ByteArray} {lo : Nat} {j : Int} (h : apparatus_Words.I w base b6 b8 b9 gC A cA B cB a b lo j) (i p : Nat) (hi : i < a.length) (hp : p < b.length) (hlo : lo ≤ i + 1) (hv : i + 1 ≠ lo ∨ j < (p + 1 : Nat)) (hla : a.length ≤ 1000000) (hlb : b.length ≤ 1000000) :
  Calls Try.prog 37 #[.int .i64 i, .int .i64 p, .pointer (some ⟨b6, 0, none⟩), .pointer (some ⟨b8, 0, none⟩), .pointer (some ⟨b9, 0, none⟩)] w fun e w' => e = .returned (.int .i64 (apparatus_Words.pair a b i p)) ∧ Drawn0 w w' := by
 obtain ⟨_, h1, h2, h3, h4, h5, h6⟩ := h
 have hc6 := (blk_cell h1 0).trans (show _ = some (Value.slice A a.length cA) from rfl)
 have hc8 := (blk_cell h2 0).trans (show _ = some (Value.slice B b.length cB) from rfl)
 have hc9 := (blk_cell h3 0).trans (show _ = some (Value.slice (some ⟨gC, 0, none⟩) (a.length + 1) (a.length + 1)) from rfl)
 obtain ⟨aa, rfl, hxa⟩ := Kd.at_string (Kd.R_reads' h4).2.2 (i : Int) (by omega) (by omega)
 obtain ⟨ab, rfl, hxb⟩ := Kd.at_string (Kd.R_reads' h5).2.2 (p : Int) (by omega) (by omega)
 obtain ⟨g, _, hg1, hg2⟩ := h6.at_ (i + 1) hlo (by omega)
 have hg3 := hg2 (p + 1) (by omega)
 rw [apparatus_Words.val_of a b (show i + 1 ≠ lo ∨ j < ((p + 1 : Nat) : Int) from hv)] at hg3
 have hle := apparatus_Words.cost_le (a.drop (i + 1)) (b.drop (p + 1))
 rw [List.length_drop, List.length_drop] at hle
 obtain ⟨c, hc⟩ : ∃ c : Nat, apparatus_Words.cost (a.drop (i + 1)) (b.drop (p + 1)) = c := ⟨_, rfl⟩
 have hpair : apparatus_Words.pair a b i p = (c : Int) + (if (rdOf ByteArray.empty a i).toList = (rdOf ByteArray.empty b p).toList then 0 else 1) := by unfold apparatus_Words.pair; rw [hc]
 rw [hc] at hg3 hle
 rw [hpair]
 obtain ⟨i1, hi1⟩ : ∃ i1 : Nat, i + 1 = i1 := ⟨_, rfl⟩
 obtain ⟨p1, hp1⟩ : ∃ p1 : Nat, p + 1 = p1 := ⟨_, rfl⟩
 obtain ⟨n1, hn1⟩ : ∃ n1 : Nat, a.length + 1 = n1 := ⟨_, rfl⟩
 obtain ⟨m1, hm1⟩ : ∃ m1 : Nat, b.length + 1 = m1 := ⟨_, rfl⟩
 rw [hi1, hm1] at hg1
 rw [hp1] at hg3
 rw [hn1] at hc9
 have q1 := eq_true (show (i : Int) < (a.length : Int) by omega)
 have q2 := eq_true (show (p : Int) < (b.length : Int) by omega)
 have q3 := eq_true (show (i1 : Int) < (n1 : Int) by omega)
 have q4 := eq_true (show (p1 : Int) < (m1 : Int) by omega)
 have r1 := eq_true (show i < a.length by omega)
 have r2 := eq_true (show p < b.length by omega)
 have r3 := eq_true (show i1 < n1 by omega)
 have r4 := eq_true (show p1 < m1 by omega)
 have e1 : (i : Int) + 1 = (i1 : Int) := by omega
 have e2 : (p : Int) + 1 = (p1 : Int) := by omega
 have f1 : (i1 : Int) ≤ 5000000 := by omega
 have f2 : (p1 : Int) ≤ 5000000 := by omega
 have f3 : (c : Int) + 1 ≤ 5000000 := by omega
 have w1 := apparatus_Words.step i i1 e1 f1
 have w2 := apparatus_Words.step p p1 e2 f2
 have w3 := apparatus_Words.step' c f3
 clear e1 e2 f1 f2 f3
 obtain ⟨w1, v1⟩ := w1
 obtain ⟨w2, v2⟩ := w2
 obtain ⟨w3, v3⟩ := w3
 rw [Int.toNat_natCast] at hxa hxb
 clear h1 h2 h3 h4 h5 h6 hg2 hpair hc hle hlo hv hi1 hp1 hn1 hm1
 by_cases ce : (rdOf ByteArray.empty a i).toList = (rdOf ByteArray.empty b p).toList
 ·rw [if_pos ce]
  have ce' : ((rdOf ByteArray.empty a i).toList == (rdOf ByteArray.empty b p).toList) = true := beq_iff_eq.2 ce
  clear ce
  go_enter Try.func37, Try.ntmps37
  go_wp2_with (fail)
  go_quiet (fail)
  go_wp2_with (fail)
  go_ret
  exact ⟨by simp, ⟨_, rfl⟩⟩
 ·rw [if_neg ce]
  have ce' : ((rdOf ByteArray.empty a i).toList == (rdOf ByteArray.empty b p).toList) = false := beq_eq_false_iff_ne.2 ce
  clear ce
  go_enter Try.func37, Try.ntmps37
  go_wp2_with (fail)
  go_quiet (fail)
  go_wp2_with (fail)
  go_ret
  exact ⟨rfl, ⟨_, rfl⟩⟩

def apparatus_Words.path : Nat → List ByteArray → List ByteArray → Int → Int → List S29 → Option (List S29)
 | 0, _, _, _, _, _ => none
 | k + 1, [], [], _, _, acc => some acc
 | k + 1, _ :: a, [], i, j, acc => apparatus_Words.path k a [] (wrap64 (i + 1)) j (acc ++ [⟨i, -1⟩])
 | k + 1, [], _ :: b, i, j, acc => apparatus_Words.path k [] b i (wrap64 (j + 1)) (acc ++ [⟨-1, j⟩])
 | k + 1, x :: a, y :: b, i, j, acc =>
  if apparatus_Words.cost (x :: a) (y :: b) = apparatus_Words.cost a b + (if x.toList = y.toList then 0 else 1) then apparatus_Words.path k a b (wrap64 (i + 1)) (wrap64 (j + 1)) (acc ++ [⟨i, j⟩])
  else if apparatus_Words.cost (x :: a) (y :: b) = apparatus_Words.cost a (y :: b) + 1 then apparatus_Words.path k a (y :: b) (wrap64 (i + 1)) j (acc ++ [⟨i, -1⟩])
  else apparatus_Words.path k (x :: a) b i (wrap64 (j + 1)) (acc ++ [⟨-1, j⟩])
def apparatus_Words.f (k : Nat) (x y : ByteArray) : Option (List S29 × Int) := (apparatus_folded.f k x).bind fun t => if t.2 = 0 then ((apparatus_folded.f k y).bind fun u => if u.2 = 0 then (if t.1.length ≤ 1000000 ∧ u.1.length ≤ 1000000 then ((apparatus_Words.path k t.1 u.1 0 0 []).bind fun l => some (l, 0)) else none) else some ([], u.2)) else some ([], t.2)
theorem apparatus_Words.mono_p : ∀ k y0 y1 y2 y3 y4, LeO (apparatus_Words.path k y0 y1 y2 y3 y4) (apparatus_Words.path (k + 1) y0 y1 y2 y3 y4)
 | 0 => fun _ _ _ _ _ r h => by simp [apparatus_Words.path] at h
 | k + 1 => by
  have ih := apparatus_Words.mono_p k
  intro y0 y1 y2 y3 y4
  match y0, y1 with
  | [], [] => exact LeO.refl _
  | _ :: _, [] => exact ih _ _ _ _ _
  | [], _ :: _ => exact ih _ _ _ _ _
  | _ :: _, _ :: _ =>
   rw [apparatus_Words.path, apparatus_Words.path]
   exact LeO.ite (ih _ _ _ _ _) (LeO.ite (ih _ _ _ _ _) (ih _ _ _ _ _))
theorem apparatus_Words.drop_at (a : List ByteArray) {i : Nat} (hi : i < a.length) : a.drop i = rdOf ByteArray.empty a (i : Int) :: a.drop (i + 1) := by
 rw [List.drop_eq_getElem_cons hi]
 simp [rdOf, List.getD_eq_getElem?_getD, hi]
theorem apparatus_Words.path_both (k : Nat) (a b : List ByteArray) {i j : Nat} (x y : Int) (acc : List S29) (hi : i < a.length) (hj : j < b.length) : apparatus_Words.path (k + 1) (a.drop i) (b.drop j) x y acc = (if (apparatus_Words.cost (a.drop i) (b.drop j) : Int) = apparatus_Words.pair a b i j then apparatus_Words.path k (a.drop (i + 1)) (b.drop (j + 1)) (wrap64 (x + 1)) (wrap64 (y + 1)) (acc ++ [⟨x, y⟩]) else if (apparatus_Words.cost (a.drop i) (b.drop j) : Int) = (apparatus_Words.cost (a.drop (i + 1)) (b.drop j) : Int) + 1 then apparatus_Words.path k (a.drop (i + 1)) (b.drop j) (wrap64 (x + 1)) y (acc ++ [⟨x, -1⟩]) else apparatus_Words.path k (a.drop i) (b.drop (j + 1)) x (wrap64 (y + 1)) (acc ++ [⟨-1, y⟩])) := by
 have ea := apparatus_Words.drop_at a hi
 have eb := apparatus_Words.drop_at b hj
 have hp : ((apparatus_Words.cost (a.drop i) (b.drop j) : Int) = apparatus_Words.pair a b i j) ↔ (apparatus_Words.cost (a.drop i) (b.drop j) = apparatus_Words.cost (a.drop (i + 1)) (b.drop (j + 1)) + (if (rdOf ByteArray.empty a (i : Int)).toList = (rdOf ByteArray.empty b (j : Int)).toList then 0 else 1)) := by
  unfold apparatus_Words.pair
  split <;> omega
 have hq : ((apparatus_Words.cost (a.drop i) (b.drop j) : Int) = (apparatus_Words.cost (a.drop (i + 1)) (b.drop j) : Int) + 1) ↔ (apparatus_Words.cost (a.drop i) (b.drop j) = apparatus_Words.cost (a.drop (i + 1)) (b.drop j) + 1) := by omega
 simp only [hp, hq]
 rw [ea, eb, apparatus_Words.path, ← ea, ← eb]
theorem apparatus_Words.path_left (k : Nat) (a : List ByteArray) {i : Nat} (x y : Int) (acc : List S29) (hi : i < a.length) : apparatus_Words.path (k + 1) (a.drop i) [] x y acc = apparatus_Words.path k (a.drop (i + 1)) [] (wrap64 (x + 1)) y (acc ++ [⟨x, -1⟩]) := by
 rw [apparatus_Words.drop_at a hi, apparatus_Words.path]
theorem apparatus_Words.path_right (k : Nat) (b : List ByteArray) {j : Nat} (x y : Int) (acc : List S29) (hj : j < b.length) : apparatus_Words.path (k + 1) [] (b.drop j) x y acc = apparatus_Words.path k [] (b.drop (j + 1)) x (wrap64 (y + 1)) (acc ++ [⟨-1, y⟩]) := by
 rw [apparatus_Words.drop_at b hj, apparatus_Words.path]
theorem apparatus_Words.mono : ∀ a0 a1 k, LeO (apparatus_Words.f k a0 a1) (apparatus_Words.f (k + 1) a0 a1) := by
 intro a0 a1 k
 unfold apparatus_Words.f
 exact LeO.bind (apparatus_folded.mono _ _) fun _ => LeO.ite (LeO.bind (apparatus_folded.mono _ _) fun _ => LeO.ite (LeO.ite (LeO.bind (apparatus_Words.mono_p _ _ _ _ _ _) fun _ => LeO.refl _) (LeO.refl _)) (LeO.refl _)) (LeO.refl _)
set_option maxHeartbeats 4000000 in
set_option maxRecDepth 100000 in
theorem apparatus_Words.calls (k : Nat) (x y : ByteArray) (r1 : List (S29)) (r2 : Int) (w : World) (h : apparatus_Words.f k x y = some (r1, r2)) :
  Calls Try.prog 10 #[.string x, .string y] w fun e w' => ∃ v0_ : Value, e = .returned (.tuple #[v0_, .int .i64 r2]) ∧ Kd.R k29 29 w' w.heap.size (fun _ => True) v0_ r1 ∧ Below w.heap.size w w' := by
 unfold apparatus_Words.f at h
 obtain ⟨⟨a, e0⟩, he, h1⟩ := Option.bind_eq_some_iff.1 h
 have HV := Lib.hid he
 clear he h
 go_enter Try.func10, Try.ntmps10
 go_wp2_with (fail)
 refine (apparatus_folded.calls k x a e0 _ HV.out).mono ?_
 rintro e w1 ⟨v1, rfl, hr1, hb1⟩
 obtain ⟨A, cA, rfl⟩ := Kd.R_slice hr1
 have R1 := Lib.hid hr1; have B1 := Lib.hid hb1
 clear hr1 hb1
 by_cases c0 : e0 = 0
 ·subst c0
  rw [if_pos rfl] at h1
  obtain ⟨⟨b, e1⟩, he, h2⟩ := Option.bind_eq_some_iff.1 h1
  have HV2 := Lib.hid he; have H2 := Lib.hid h2
  clear h1 he h2
  go_wp2_with (first | ((with_reducible refine gate_dst (N := 6) rfl ?_); (try (refine gate_guard (by rfl) ?_; dsimp only)); refine bX 6 #[.slice none 0 0] 34 ?_; intro b6 hb6 w2 hbox hbb; have P2 := Lib.hid hbox; have B2 := Lib.hid (B1.out.trans (hbb.mono B1.out.size)); have Z6 := Lib.hid hbb; have L6 := Lib.hid (show w1.heap.size ≤ b6 from Nat.le_of_eq hb6.symm); have N6 := Lib.hid (show w.heap.size ≤ b6 from by have := B1.out.size; omega); clear hb6 hbox hbb; have hc60 := (blk_cell P2.out 0).trans (show _ = some (Value.slice none 0 0) from rfl); have hf60 := blk_frozen P2.out 0))
  have P3 := Lib.hid (show (w2.setCell ⟨b6, 0, none⟩ (.slice A a.length cA)).heap[b6]? = some (.cells #[.slice A a.length cA] 34 (0, 0)) from blk_put (cs := #[.slice none 0 0]) P2.out 0 (.slice A a.length cA) rfl)
  have B3 := Lib.hid (below_set B2.out N6.out (j := 0) (v := .slice A a.length cA))
  have R3 := Lib.hid (Kd.R_far (Kd.R_below (Kd.R_mono (Kd.R_bound R1.out) (ok' := fun q => q < b6) (fun q hq => by have := hq.2.2.1; have := L6.out; omega)) Z6.out) (p := ⟨b6, 0, none⟩) (fun q hq => Nat.ne_of_lt hq) (.slice A a.length cA))
  clear hc60 hf60 P2 R1 Z6 L6
  generalize (w2.setCell ⟨b6, 0, none⟩ (.slice A a.length cA)) = w3 at P3 B3 R3 ⊢
  refine (apparatus_folded.calls k y b e1 _ HV2.out).mono ?_
  rintro e w4 ⟨v4, rfl, hr4, hb4⟩
  obtain ⟨B, cB, rfl⟩ := Kd.R_slice hr4
  have R4 := Lib.hid hr4; have B4 := Lib.hid (B3.out.trans (hb4.mono B3.out.size)); have P4 := Lib.hid (blk_below P3.out hb4); have RA4 := Lib.hid (Kd.R_below R3.out hb4)
  clear hr4 hb4 P3 R3 B3
  have h2 := H2.out
  clear H2
  by_cases c1 : e1 = 0
  ·subst c1
   rw [if_pos rfl] at h2
   by_cases c2 : a.length ≤ 1000000 ∧ b.length ≤ 1000000
   ·rw [if_pos c2] at h2
    obtain ⟨l, hl, h3⟩ := Option.bind_eq_some_iff.1 h2
    obtain ⟨rfl, rfl⟩ := Prod.mk.inj (Option.some.inj h3)
    have HL := Lib.hid hl; have C2 := Lib.hid c2
    have s1 := apparatus_Words.step a.length (a.length + 1) (by omega) (by omega)
    have s2 := apparatus_Words.step b.length (b.length + 1) (by omega) (by omega)
    obtain ⟨N1, hN1⟩ : ∃ N1 : Nat, a.length + 1 = N1 := ⟨_, rfl⟩
    obtain ⟨M1, hM1⟩ : ∃ M1 : Nat, b.length + 1 = M1 := ⟨_, rfl⟩
    have hmk := print_make_of (P := Try.prog) 68 52 (.slice none 0 0) 24 Try.underlying68 info52 rfl (by decide) N1 (by omega)
    rw [hN1] at s1
    obtain ⟨s1w, s1v⟩ := s1
    clear h2 h3 hl c2
    go_wp2_with (first | ((with_reducible refine gate_dst (N := 8) rfl ?_); (try (refine gate_guard (by rfl) ?_; dsimp only)); refine bX 8 #[.slice none 0 0] 34 ?_; intro b8 hb8 w5 hbox hbb; have P5 := Lib.hid hbox; have BZ8 := Lib.hid (B4.out.trans (hbb.mono B4.out.size)); have Z8 := Lib.hid hbb; have L8 := Lib.hid (show w4.heap.size = b8 from hb8.symm); have N8 := Lib.hid (show w.heap.size ≤ b8 from by have := B4.out.size; omega); clear hb8 hbox hbb; have hc80 := (blk_cell P5.out 0).trans (show _ = some (Value.slice none 0 0) from rfl); have hf80 := blk_frozen P5.out 0; have hc6 : (w5.setCell ⟨b8, 0, none⟩ (.slice B b.length cB)).cell? ⟨b6, 0, none⟩ = some (.slice A a.length cA) := (blk_cell (blk_far (blk_below P4.out Z8.out) (p := ⟨b8, 0, none⟩) (by have := blk_lt P4.out; have := L8.out; show b6 ≠ b8; omega) (.slice B b.length cB)) 0).trans rfl) | ((with_reducible refine gate_dst (N := 9) rfl ?_); (try (refine gate_guard (by rfl) ?_; dsimp only)); refine bX 9 #[.slice none 0 0] 68 ?_; intro b9 hb9 w6 hbox hbb; have P6 := Lib.hid hbox; have Z9 := Lib.hid hbb; have L9 := Lib.hid (show b9 = w5.heap.size + 1 from hb9.trans (by simp [World.setCell])); clear hb9 hbox hbb; have hc90 := (blk_cell P6.out 0).trans (show _ = some (Value.slice none 0 0) from rfl); have hf90 := blk_frozen P6.out 0; have hc6 : (w6.setCell ⟨b9, 0, none⟩ (.slice (some ⟨w5.heap.size, 0, none⟩) N1 N1)).cell? ⟨b6, 0, none⟩ = some (.slice A a.length cA) := (blk_cell (blk_far (blk_below (blk_below (blk_far (blk_below P4.out Z8.out) (p := ⟨b8, 0, none⟩) (by have := blk_lt P4.out; have := L8.out; show b6 ≠ b8; omega) (.slice B b.length cB)) (below_alloc (Below.refl _ _) _)) Z9.out) (p := ⟨b9, 0, none⟩) (by have := blk_lt P4.out; have := L8.out; have := blk_lt P5.out; have := L9.out; show b6 ≠ b9; omega) (.slice (some ⟨w5.heap.size, 0, none⟩) N1 N1)) 0).trans rfl))
    have l4 := blk_lt P4.out
    have l8 := L8.out
    have l5 := blk_lt P5.out
    have l9 := L9.out
    have I7 := Lib.hid (show apparatus_Words.I (w6.setCell ⟨b9, 0, none⟩ (.slice (some ⟨w5.heap.size, 0, none⟩) N1 N1)) (b9 + 1) b6 b8 b9 w5.heap.size A cA B cB a b N1 (-1) from by
     have k6 := blk_far (blk_below (blk_below (blk_far (blk_below P4.out Z8.out) (p := ⟨b8, 0, none⟩) (show b6 ≠ b8 by omega) (.slice B b.length cB)) (below_alloc (Below.refl _ _) _)) Z9.out) (p := ⟨b9, 0, none⟩) (show b6 ≠ b9 by omega) (.slice (some ⟨w5.heap.size, 0, none⟩) N1 N1)
     have k8 := blk_far (blk_below (blk_below (blk_put (cs := #[.slice none 0 0]) P5.out 0 (.slice B b.length cB) rfl) (below_alloc (Below.refl _ _) _)) Z9.out) (p := ⟨b9, 0, none⟩) (show b8 ≠ b9 by omega) (.slice (some ⟨w5.heap.size, 0, none⟩) N1 N1)
     have k9 := blk_put (cs := #[.slice none 0 0]) P6.out 0 (.slice (some ⟨w5.heap.size, 0, none⟩) N1 N1) rfl
     have kA := Kd.R_far (Kd.R_below (Kd.R_below (Kd.R_far (Kd.R_below (Kd.R_mono (Kd.R_bound RA4.out) (ok' := fun q => q < b6) (fun q hq => hq.1)) Z8.out) (p := ⟨b8, 0, none⟩) (fun q hq => by show q ≠ b8; omega) (.slice B b.length cB)) (below_alloc (Below.refl _ _) _)) Z9.out) (p := ⟨b9, 0, none⟩) (fun q hq => by show q ≠ b9; omega) (.slice (some ⟨w5.heap.size, 0, none⟩) N1 N1)
     have kB := Kd.R_far (Kd.R_below (Kd.R_below (Kd.R_far (Kd.R_below (Kd.R_mono (Kd.R_bound R4.out) (ok' := fun q => q < b8) (fun q hq => by have := hq.2.2.1; omega)) Z8.out) (p := ⟨b8, 0, none⟩) (fun q hq => by show q ≠ b8; omega) (.slice B b.length cB)) (below_alloc (Below.refl _ _) _)) Z9.out) (p := ⟨b9, 0, none⟩) (fun q hq => by show q ≠ b9; omega) (.slice (some ⟨w5.heap.size, 0, none⟩) N1 N1)
     have hn := blk_new (w5.setCell ⟨b8, 0, none⟩ (.slice B b.length cB)) (.cells (madeCells #[.slice none 0 0] N1) 52)
     rw [show (w5.setCell ⟨b8, 0, none⟩ (.slice B b.length cB)).heap.size = w5.heap.size from by simp [World.setCell]] at hn
     have kG := blk_far (blk_below hn Z9.out) (p := ⟨b9, 0, none⟩) (show w5.heap.size ≠ b9 by omega) (.slice (some ⟨w5.heap.size, 0, none⟩) N1 N1)
     subst hN1
     exact ⟨⟨by omega, by omega, by omega, by omega⟩, k6, k8, k9, Kd.R_lower (Kd.R_mono kA (fun q hq => by omega)) (Nat.zero_le _), Kd.R_lower (Kd.R_mono kB (fun q hq => by omega)) (Nat.zero_le _), apparatus_Words.G.none_ a b _ kG⟩)
    have B7 := Lib.hid (show Below w.heap.size w (w6.setCell ⟨b9, 0, none⟩ (.slice (some ⟨w5.heap.size, 0, none⟩) N1 N1)) from below_set ((below_alloc (below_set BZ8.out N8.out (j := 0) (v := .slice B b.length cB)) _).trans (Z9.out.mono (by have := BZ8.out.size; simp [World.setCell]; omega))) (show w.heap.size ≤ b9 by have := N8.out; omega))
    clear hc6 hc90 hf90 hc80 hf80 hmk s1w s1v P4 P5 P6 Z8 Z9 BZ8 L8 R4 RA4 B4
    generalize (w6.setCell ⟨b9, 0, none⟩ (.slice (some ⟨w5.heap.size, 0, none⟩) N1 N1)) = w7 at I7 B7 ⊢
    generalize w5.heap.size = gC at I7 l5 l9 L9 ⊢
    obtain ⟨s2w, s2v⟩ := s2
    rw [hM1] at s2w s2v
    clear l4 l8 l5 l9
    go_loopg [11] N1 (fun kq v11 wr => v11 = .int .i64 ((kq : Int) - 1) ∧ Hid (kq ≤ N1) ∧ Hid (apparatus_Words.I wr (b9 + 1) b6 b8 b9 gC A cA B cB a b kq (-1)) ∧ Hid (Below w.heap.size w wr))
    case atStart => exact ⟨by rw [show ((N1 : Int) - 1) = (a.length : Int) by omega], Lib.hid (Nat.le_refl _), I7, B7⟩
    case round =>
     clear I7 B7
     obtain ⟨rfl, HK, HI, HB⟩ := hrel
     cases gk with
     | zero =>
      have d0 : decide ((0 : Int) ≤ ((0 : Nat) : Int) - 1) = false := by decide
      have hc6 := (blk_cell HI.out.2.1 0).trans (show _ = some (Value.slice A a.length cA) from rfl)
      have hc8 := (blk_cell HI.out.2.2.1 0).trans (show _ = some (Value.slice B b.length cB) from rfl)
      go_wp2_with (fail)
      clear hc6 hc8
      obtain ⟨wh, rfl⟩ : ∃ x, x = wr := ⟨_, rfl⟩
      go_loopg [14, 15, 13] k (fun kq v14 v15 v13 wz => ∃ (i j : Nat) (acc : List S29), v14 = .int .i64 (i : Int) ∧ v15 = .int .i64 (j : Int) ∧ Hid (i ≤ a.length ∧ j ≤ b.length ∧ acc.length ≤ i + j) ∧ Hid (apparatus_Words.path kq (a.drop i) (b.drop j) (i : Int) (j : Int) acc = some l) ∧ Hid (kq ≤ k) ∧ Hid (Below wh.heap.size wh wz) ∧ Hid (Kd.R k29 29 wz wh.heap.size (fun _ => True) v13 acc))
      case atStart => exact ⟨0, 0, [], rfl, rfl, Lib.hid ⟨Nat.zero_le _, Nat.zero_le _, Nat.zero_le _⟩, HL, Lib.hid (Nat.le_refl _), Lib.hid (Below.refl _ _), Lib.hid (Kd.R_nil _ _ _ _ _)⟩
      case round =>
       clear HL HK
       obtain ⟨i, j, acc, rfl, rfl, HIJ, HP, HKq, HZ, HR⟩ := hrel
       obtain ⟨AR, cR, rfl⟩ := Kd.R_slice HR.out
       have IZ := Lib.hid (HI.out.below HZ.out)
       have hc6 := (blk_cell IZ.out.2.1 0).trans (show _ = some (Value.slice A a.length cA) from rfl)
       have hc8 := (blk_cell IZ.out.2.2.1 0).trans (show _ = some (Value.slice B b.length cB) from rfl)
       have hc9 := (blk_cell IZ.out.2.2.2.1 0).trans (show _ = some (Value.slice (some ⟨gC, 0, none⟩) (a.length + 1) (a.length + 1)) from rfl)
       rw [hN1] at hc9
       cases gk with
       | zero => exact absurd HP.out (by simp [apparatus_Words.path])
       | succ kp =>
        have H := HP.out
        clear HP
        by_cases ci : i < a.length
        ·have di : decide ((i : Int) < (a.length : Int)) = true := decide_eq_true (by omega)
         have di' : decide (i < a.length) = true := decide_eq_true ci
         obtain ⟨g, _, hg1, hg2⟩ := IZ.out.2.2.2.2.2.2.at_ i (Nat.zero_le _) (by omega)
         obtain ⟨g', _, hg1', hg2'⟩ := IZ.out.2.2.2.2.2.2.at_ (i + 1) (Nat.zero_le _) (by omega)
         have hn0 := hg2 j HIJ.out.2.1
         have hn1 := hg2' j HIJ.out.2.1
         rw [apparatus_Words.val_full] at hn0 hn1
         rw [hM1] at hg1 hg1'
         obtain ⟨i2, hi2⟩ : ∃ i2 : Nat, i + 1 = i2 := ⟨_, rfl⟩
         have q1 := eq_true (show (i : Int) < (N1 : Int) by omega)
         have q1' := eq_true (show i < N1 by omega)
         have q2 := eq_true (show (i2 : Int) < (N1 : Int) by omega)
         have q2' := eq_true (show i2 < N1 by omega)
         have q3 := eq_true (show (j : Int) < (M1 : Int) by have := HIJ.out.2.1; omega)
         have q3' := eq_true (show j < M1 by have := HIJ.out.2.1; omega)
         have hl1 := apparatus_Words.cost_le (a.drop (i + 1)) (b.drop j)
         rw [List.length_drop, List.length_drop] at hl1
         have T1 := Lib.hid (apparatus_Words.step' (apparatus_Words.cost (a.drop (i + 1)) (b.drop j)) (by have := C2.out; omega))
         have T3 := Lib.hid (apparatus_Words.step i i2 (by omega) (by have := C2.out; omega))
         rw [hi2] at hg1'
         have HI2 := Lib.hid hi2
         have CI := Lib.hid ci
         have HD1 := Lib.hid hg1'
         by_cases cj : j < b.length
         ·have dj : decide ((j : Int) < (b.length : Int)) = true := decide_eq_true (by omega)
          have dj' : decide (j < b.length) = true := decide_eq_true cj
          rw [apparatus_Words.path_both kp a b _ _ _ ci cj] at H
          have T5 := Lib.hid (apparatus_Words.step j (j + 1) (by omega) (by have := C2.out; omega))
          have CJ := Lib.hid cj
          obtain ⟨c, hc⟩ : ∃ c : Nat, apparatus_Words.cost (a.drop i) (b.drop j) = c := ⟨_, rfl⟩
          obtain ⟨c1, hc1⟩ : ∃ c1 : Nat, apparatus_Words.cost (a.drop (i + 1)) (b.drop j) = c1 := ⟨_, rfl⟩
          obtain ⟨pv, hpv⟩ : ∃ pv, apparatus_Words.pair a b i j = pv := ⟨_, rfl⟩
          rw [hc, hc1, hpv] at H
          rw [hc] at hn0
          rw [hc1] at hn1 T1
          have HPV := Lib.hid hpv; have HH := Lib.hid H; have HN1 := Lib.hid hn1
          clear hc hc1 hpv H hl1 hi2 ci cj hg2 hg2' hg1' hn1
          by_cases e : (c : Int) = pv
          ·have h := HH.out
           rw [if_pos e] at h
           have H := Lib.hid h
           have be : ((c : Int) == pv) = true := beq_iff_eq.2 e
           clear HH h e
           go_wp2_with (fail)
           go_quiet (first | (refine (apparatus_Words.other (IZ.out.below (pw_below_drewN (Below.refl _ _) _)) i j CI.out CJ.out (Nat.zero_le _) (Or.inl (Nat.succ_ne_zero _)) C2.out.1 C2.out.2).mono ?_; rintro e w' ⟨rfl, ⟨nd, rfl⟩⟩; rw [HPV.out]; exact ⟨rfl, _, World.drewN_drewN _ _ _⟩))
           go_wp2_with (first | ((with_reducible refine gate_builtin (b := .append) (xs := #[.tmp 157, .tmp 161]) rfl ?_); at_builtin; refine Kd.R_append k29 (w0 := wh) wh.heap.size rfl (.tmp 157) (.tmp 161) 23 29 (.agg #[.int .i64 0, .int .i64 0]) 16 rfl Try.underlying23 info29 rfl (by decide) (by omega) (.slice AR acc.length cR) acc (⟨(i : Int), (j : Int)⟩ : S29) [.int .i64 (i : Int), .int .i64 (j : Int)] (fun _ => True) (fun _ => False) rfl rfl ?aP (fun _ hk => hk.elim) ?aF ?aO ?aB ?aS ?aL ?_; (case aP => exact k29_mkM _ _ _ (⟨(i : Int), (j : Int)⟩ : S29)); (case aB => exact (by repeat (first | (with_reducible first | exact HZ.out | apply below_alloc | apply pw_below_drewN | apply below_drew1) | exact HZ.out))); (case aF => exact (fun _ _ => trivial)); (case aO => exact (by (with_reducible repeat (first | apply Kd.R_alloc | apply Kd.R_drewN | apply Kd.R_drew)); exact HR.out)); (case aS => exact (below_size (by repeat (first | (with_reducible first | exact HZ.out | apply below_alloc | apply pw_below_drewN | apply below_drew1) | exact HZ.out)))); (case aL => have := HIJ.out.2.2; have := HIJ.out; have := C2.out; omega); intro v1 w13 ho hb hg hat; have RN := Lib.hid ho; have BN := Lib.hid hb; clear ho hb hg hat))
           go_roundg kp
           case measure => have := HKq.out; omega
           case rel => exact ⟨i2, j + 1, acc ++ [⟨(i : Int), (j : Int)⟩], by rw [T3.out.2], by rw [T5.out.2], Lib.hid (by have := HIJ.out; rw [List.length_append]; simp only [List.length_cons, List.length_nil]; have := HI2.out; have := CI.out; have := CJ.out; omega), Lib.hid (by have h := H.out; rw [T3.out.2] at h; rw [T5.out.2] at h; rw [HI2.out] at h; exact h), Lib.hid (by have := HKq.out; omega), BN, RN⟩
          ·have h := HH.out
           rw [if_neg e] at h
           have be : ((c : Int) == pv) = false := beq_eq_false_iff_ne.2 e
           clear HH e
           by_cases e2 : (c : Int) = (c1 : Int) + 1
           ·rw [if_pos e2] at h
            have H := Lib.hid h
            have be2 : ((c : Int) == (c1 : Int) + 1) = true := beq_iff_eq.2 e2
            clear h e2
            go_wp2_with (fail)
            go_quiet (first | (refine (apparatus_Words.other (IZ.out.below (pw_below_drewN (Below.refl _ _) _)) i j CI.out CJ.out (Nat.zero_le _) (Or.inl (Nat.succ_ne_zero _)) C2.out.1 C2.out.2).mono ?_; rintro e w' ⟨rfl, ⟨nd, rfl⟩⟩; rw [HPV.out]; exact ⟨rfl, _, World.drewN_drewN _ _ _⟩))
            go_wp2_with (fail)
            have hg1' := HD1.out
            have hn1 := HN1.out
            have t1 := T1.out.1
            have t3 := T3.out.1
            go_quiet (fail)
            clear t1 t3 hg1' hn1
            go_wp2_with (first | ((with_reducible refine gate_builtin (b := .append) (xs := #[.tmp 191, .tmp 194]) rfl ?_); at_builtin; refine Kd.R_append k29 (w0 := wh) wh.heap.size rfl (.tmp 191) (.tmp 194) 23 29 (.agg #[.int .i64 0, .int .i64 0]) 16 rfl Try.underlying23 info29 rfl (by decide) (by omega) (.slice AR acc.length cR) acc (⟨(i : Int), (-1)⟩ : S29) [.int .i64 (i : Int), .int .i64 (-1)] (fun _ => True) (fun _ => False) rfl rfl ?aP (fun _ hk => hk.elim) ?aF ?aO ?aB ?aS ?aL ?_; (case aP => exact k29_mkM _ _ _ (⟨(i : Int), (-1)⟩ : S29)); (case aB => exact (by repeat (first | (with_reducible first | exact HZ.out | apply below_alloc | apply pw_below_drewN | apply below_drew1) | exact HZ.out))); (case aF => exact (fun _ _ => trivial)); (case aO => exact (by (with_reducible repeat (first | apply Kd.R_alloc | apply Kd.R_drewN | apply Kd.R_drew)); exact HR.out)); (case aS => exact (below_size (by repeat (first | (with_reducible first | exact HZ.out | apply below_alloc | apply pw_below_drewN | apply below_drew1) | exact HZ.out)))); (case aL => have := HIJ.out.2.2; have := HIJ.out; have := C2.out; omega); intro v1 w13 ho hb hg hat; have RN := Lib.hid ho; have BN := Lib.hid hb; clear ho hb hg hat))
            go_roundg kp
            case measure => have := HKq.out; omega
            case rel => exact ⟨i2, j, acc ++ [⟨(i : Int), (-1)⟩], by rw [T3.out.2], rfl, Lib.hid (by have := HIJ.out; rw [List.length_append]; simp only [List.length_cons, List.length_nil]; have := HI2.out; have := CI.out; omega), Lib.hid (by have h := H.out; rw [T3.out.2] at h; rw [HI2.out] at h; exact h), Lib.hid (by have := HKq.out; omega), BN, RN⟩
           ·rw [if_neg e2] at h
            have H := Lib.hid h
            have be2 : ((c : Int) == (c1 : Int) + 1) = false := beq_eq_false_iff_ne.2 e2
            clear h e2
            go_wp2_with (fail)
            go_quiet (first | (refine (apparatus_Words.other (IZ.out.below (pw_below_drewN (Below.refl _ _) _)) i j CI.out CJ.out (Nat.zero_le _) (Or.inl (Nat.succ_ne_zero _)) C2.out.1 C2.out.2).mono ?_; rintro e w' ⟨rfl, ⟨nd, rfl⟩⟩; rw [HPV.out]; exact ⟨rfl, _, World.drewN_drewN _ _ _⟩))
            go_wp2_with (fail)
            have hg1' := HD1.out
            have hn1 := HN1.out
            have t1 := T1.out.1
            have t3 := T3.out.1
            go_quiet (fail)
            clear t1 t3 hg1' hn1
            go_wp2_with (first | ((with_reducible refine gate_builtin (b := .append) (xs := #[.tmp 125, .tmp 128]) rfl ?_); at_builtin; refine Kd.R_append k29 (w0 := wh) wh.heap.size rfl (.tmp 125) (.tmp 128) 23 29 (.agg #[.int .i64 0, .int .i64 0]) 16 rfl Try.underlying23 info29 rfl (by decide) (by omega) (.slice AR acc.length cR) acc (⟨(-1), (j : Int)⟩ : S29) [.int .i64 (-1), .int .i64 (j : Int)] (fun _ => True) (fun _ => False) rfl rfl ?aP (fun _ hk => hk.elim) ?aF ?aO ?aB ?aS ?aL ?_; (case aP => exact k29_mkM _ _ _ (⟨(-1), (j : Int)⟩ : S29)); (case aB => exact (by repeat (first | (with_reducible first | exact HZ.out | apply below_alloc | apply pw_below_drewN | apply below_drew1) | exact HZ.out))); (case aF => exact (fun _ _ => trivial)); (case aO => exact (by (with_reducible repeat (first | apply Kd.R_alloc | apply Kd.R_drewN | apply Kd.R_drew)); exact HR.out)); (case aS => exact (below_size (by repeat (first | (with_reducible first | exact HZ.out | apply below_alloc | apply pw_below_drewN | apply below_drew1) | exact HZ.out)))); (case aL => have := HIJ.out.2.2; have := HIJ.out; have := C2.out; omega); intro v1 w13 ho hb hg hat; have RN := Lib.hid ho; have BN := Lib.hid hb; clear ho hb hg hat))
            go_roundg kp
            case measure => have := HKq.out; omega
            case rel => exact ⟨i, j + 1, acc ++ [⟨(-1), (j : Int)⟩], rfl, by rw [T5.out.2], Lib.hid (by have := HIJ.out; rw [List.length_append]; simp only [List.length_cons, List.length_nil]; have := CJ.out; omega), Lib.hid (by have h := H.out; rw [T5.out.2] at h; exact h), Lib.hid (by have := HKq.out; omega), BN, RN⟩
         ·have hj : j = b.length := by have := HIJ.out.2.1; omega
          have dj : decide ((j : Int) < (b.length : Int)) = false := decide_eq_false (by omega)
          have dj' : decide (j < b.length) = false := decide_eq_false cj
          have eb : b.drop j = [] := by rw [hj, List.drop_length]
          rw [eb, apparatus_Words.path_left kp a _ _ _ ci] at H
          rw [← eb] at H
          have H := Lib.hid H
          rw [eb, apparatus_Words.cost_end, List.length_drop] at hn0 hn1
          have T1 := Lib.hid (apparatus_Words.step' (a.length - (i + 1)) (by have := C2.out; omega))
          obtain ⟨c1, hc1⟩ : ∃ c1 : Nat, a.length - (i + 1) = c1 := ⟨_, rfl⟩
          obtain ⟨c, hc⟩ : ∃ c : Nat, a.length - i = c := ⟨_, rfl⟩
          have be2 : ((c : Int) == (c1 : Int) + 1) = true := beq_iff_eq.2 (by omega)
          rw [hc] at hn0
          rw [hc1] at hn1 T1
          have HN1 := Lib.hid hn1
          clear hg1' hn1 hc hc1 hl1 hi2 ci cj hj eb hg2 hg2'
          go_wp2_with (fail)
          go_quiet (fail)
          go_wp2_with (fail)
          have hg1' := HD1.out
          have hn1 := HN1.out
          have t1 := T1.out.1
          have t3 := T3.out.1
          go_quiet (fail)
          clear t1 t3 hg1' hn1
          go_wp2_with (first | ((with_reducible refine gate_builtin (b := .append) (xs := #[.tmp 191, .tmp 194]) rfl ?_); at_builtin; refine Kd.R_append k29 (w0 := wh) wh.heap.size rfl (.tmp 191) (.tmp 194) 23 29 (.agg #[.int .i64 0, .int .i64 0]) 16 rfl Try.underlying23 info29 rfl (by decide) (by omega) (.slice AR acc.length cR) acc (⟨(i : Int), (-1)⟩ : S29) [.int .i64 (i : Int), .int .i64 (-1)] (fun _ => True) (fun _ => False) rfl rfl ?aP (fun _ hk => hk.elim) ?aF ?aO ?aB ?aS ?aL ?_; (case aP => exact k29_mkM _ _ _ (⟨(i : Int), (-1)⟩ : S29)); (case aB => exact (by repeat (first | (with_reducible first | exact HZ.out | apply below_alloc | apply pw_below_drewN | apply below_drew1) | exact HZ.out))); (case aF => exact (fun _ _ => trivial)); (case aO => exact (by (with_reducible repeat (first | apply Kd.R_alloc | apply Kd.R_drewN | apply Kd.R_drew)); exact HR.out)); (case aS => exact (below_size (by repeat (first | (with_reducible first | exact HZ.out | apply below_alloc | apply pw_below_drewN | apply below_drew1) | exact HZ.out)))); (case aL => have := HIJ.out.2.2; have := HIJ.out; have := C2.out; omega); intro v1 w13 ho hb hg hat; have RN := Lib.hid ho; have BN := Lib.hid hb; clear ho hb hg hat))
          go_roundg kp
          case measure => have := HKq.out; omega
          case rel => exact ⟨i2, j, acc ++ [⟨(i : Int), (-1)⟩], by rw [T3.out.2], rfl, Lib.hid (by have := HIJ.out; rw [List.length_append]; simp only [List.length_cons, List.length_nil]; have := HI2.out; have := CI.out; omega), Lib.hid (by have h := H.out; rw [T3.out.2] at h; rw [HI2.out] at h; exact h), Lib.hid (by have := HKq.out; omega), BN, RN⟩
        ·have hi : i = a.length := by have := HIJ.out.1; omega
         have di : decide ((i : Int) < (a.length : Int)) = false := decide_eq_false (by omega)
         have di' : decide (i < a.length) = false := decide_eq_false ci
         have ea : a.drop i = [] := by rw [hi, List.drop_length]
         clear hi ci
         by_cases cj : j < b.length
         ·have dj : decide ((j : Int) < (b.length : Int)) = true := decide_eq_true (by omega)
          have dj' : decide (j < b.length) = true := decide_eq_true cj
          rw [ea, apparatus_Words.path_right kp b _ _ _ cj] at H
          rw [← ea] at H
          have T5 := Lib.hid (apparatus_Words.step j (j + 1) (by omega) (by have := C2.out; omega))
          have CJ := Lib.hid cj; have H := Lib.hid H
          clear cj ea
          go_wp2_with (fail)
          go_quiet (fail)
          go_wp2_with (fail)
          go_quiet (fail)
          go_wp2_with (first | ((with_reducible refine gate_builtin (b := .append) (xs := #[.tmp 125, .tmp 128]) rfl ?_); at_builtin; refine Kd.R_append k29 (w0 := wh) wh.heap.size rfl (.tmp 125) (.tmp 128) 23 29 (.agg #[.int .i64 0, .int .i64 0]) 16 rfl Try.underlying23 info29 rfl (by decide) (by omega) (.slice AR acc.length cR) acc (⟨(-1), (j : Int)⟩ : S29) [.int .i64 (-1), .int .i64 (j : Int)] (fun _ => True) (fun _ => False) rfl rfl ?aP (fun _ hk => hk.elim) ?aF ?aO ?aB ?aS ?aL ?_; (case aP => exact k29_mkM _ _ _ (⟨(-1), (j : Int)⟩ : S29)); (case aB => exact (by repeat (first | (with_reducible first | exact HZ.out | apply below_alloc | apply pw_below_drewN | apply below_drew1) | exact HZ.out))); (case aF => exact (fun _ _ => trivial)); (case aO => exact (by (with_reducible repeat (first | apply Kd.R_alloc | apply Kd.R_drewN | apply Kd.R_drew)); exact HR.out)); (case aS => exact (below_size (by repeat (first | (with_reducible first | exact HZ.out | apply below_alloc | apply pw_below_drewN | apply below_drew1) | exact HZ.out)))); (case aL => have := HIJ.out.2.2; have := HIJ.out; have := C2.out; omega); intro v1 w13 ho hb hg hat; have RN := Lib.hid ho; have BN := Lib.hid hb; clear ho hb hg hat))
          go_roundg kp
          case measure => have := HKq.out; omega
          case rel => exact ⟨i, j + 1, acc ++ [⟨(-1), (j : Int)⟩], rfl, by rw [T5.out.2], Lib.hid (by have := HIJ.out; rw [List.length_append]; simp only [List.length_cons, List.length_nil]; have := CJ.out; omega), Lib.hid (by have h := H.out; rw [T5.out.2] at h; exact h), Lib.hid (by have := HKq.out; omega), BN, RN⟩
         ·have dj : decide ((j : Int) < (b.length : Int)) = false := decide_eq_false (by omega)
          have dj' : decide (j < b.length) = false := decide_eq_false cj
          have eb : b.drop j = [] := List.drop_of_length_le (by omega)
          rw [ea, eb, apparatus_Words.path] at H
          obtain rfl := Option.some.inj H
          clear H cj ea eb
          go_wp2_with (fail)
          go_ret2
          exact ⟨_, rfl, Kd.R_mono (Kd.R_lower HR.out HB.out.size) (fun _ _ => trivial), HB.out.trans (HZ.out.mono HB.out.size)⟩
     | succ k1 =>
      rw [show ((k1 + 1 : Nat) : Int) - 1 = (k1 : Int) by omega]
      have hc8 := (blk_cell HI.out.2.2.1 0).trans (show _ = some (Value.slice B b.length cB) from rfl)
      have hc9 := (blk_cell HI.out.2.2.2.1 0).trans (show _ = some (Value.slice (some ⟨gC, 0, none⟩) (a.length + 1) (a.length + 1)) from rfl)
      rw [hN1] at hc9
      have q1 := eq_true (show (k1 : Int) < (N1 : Int) by have := HK.out; omega)
      have q1' := eq_true (show k1 < N1 by have := HK.out; omega)
      have hmk := print_make_of (P := Try.prog) 52 3 (.int .i64 0) 8 Try.underlying52 info3 rfl (by decide) M1 (by have := C2.out.2; omega)
      go_wp2_with (fail)
      refine start_ (n := 8) (S := fun w' => w'.cell? ⟨b9, 0, none⟩ = some (.slice (some ⟨gC, 0, none⟩) N1 N1) ∧ w'.cell? ⟨b8, 0, none⟩ = some (.slice B b.length cB)) (ds := [7]) #[false, false, false, false, false, false, false, false] (by kernel_rfl) rfl rfl ⟨hc9, hc8⟩ (fun hHeld => ?_)
      have I8 := Lib.hid (HI.out.below (below_drew (Below.refl _ _))); have B8 := Lib.hid (below_drew1 HB.out)
      clear HI HB hc8 hc9
      generalize wr.drew = w8 at I8 B8 hHeld ⊢
      refine th_ 0 (some 43) hHeld ?_
      refine ph_ 1 (some 44) ?_
      refine th_ 2 (some 45) hHeld ?_
      refine ph_ 3 (some 46) ?_
      refine ph_ 4 (some 47) ?_
      refine one_ (i := 5) (N := (some 48)) #[true, true, true, true, true, true, false, false] rfl rfl (by kernel_rfl) (by decide) (fun K hK => ?_)
      refine value_ (w1 := ?_) (v := ?_) (by rfl) rfl ?_ ?_
      rotate_left 2
      ·go_simp
       constructor
       ·rfl
       ·rfl
      refine hK.out _ _ ⟨(World.cell?_alloc_lt _ _ _ (World.block_lt_of_cell? _ _ hHeld.1)).trans hHeld.1, (World.cell?_alloc_lt _ _ _ (World.block_lt_of_cell? _ _ hHeld.2)).trans hHeld.2⟩ (fun hHeld => ?_)
      clear hK K
      refine norm_ (a' := ?_) ?_ ?_
      rotate_left
      ·show Act.put _ (some 48) _ = _
       simp only [Act.put, List.setIfInBounds_toArray, List.set_cons_zero, List.set_cons_succ, i64_w, i32_w]
       rfl
      have I9 := Lib.hid (I8.out.below (below_alloc (Below.refl _ _) (.cells (madeCells #[.int .i64 0] M1) 3)))
      have B9 := Lib.hid (below_alloc B8.out (.cells (madeCells #[.int .i64 0] M1) 3))
      obtain ⟨⟨vs, hs0⟩, hs1⟩ := I9.out.2.2.2.2.2.2.slot k1 (by have := HK.out; omega)
      refine ph_ 6 (some 49) ?_
      refine last_ (i := 7) (N := none) #[true, true, true, true, true, true, true, true] rfl rfl (by kernel_rfl) (by decide) (fun K hK => ?_)
      refine skip_ (w1 := ?_) (by rfl) rfl ?_ ?_
      rotate_left
      ·go_simp
       rfl
      refine hK.out _ _ ?_
      clear hK K
      refine done_ (by kernel_rfl) ?_
      have IA := Lib.hid (show apparatus_Words.I ((w8.alloc (.cells (madeCells #[.int .i64 0] M1) 3)).setCell ⟨gC, k1, none⟩ (.slice (some ⟨w8.heap.size, 0, none⟩) M1 M1)) (b9 + 1) b6 b8 b9 gC A cA B cB a b k1 b.length from by
       subst hM1
       exact I9.out.far (p := ⟨gC, k1, none⟩) (Or.inl rfl) _ (apparatus_Words.G.new I8.out.2.2.2.2.2.2 (by have := HK.out; omega) (by have := blk_lt I8.out.2.2.2.1; omega)))
      have BA := Lib.hid (below_set B9.out (show w.heap.size ≤ gC by have := I9.out.1; have := N8.out; omega) (j := k1) (v := .slice (some ⟨w8.heap.size, 0, none⟩) M1 M1))
      clear hs0 hs1 I8 B8 I9 B9 hHeld
      generalize ((w8.alloc (.cells (madeCells #[.int .i64 0] M1) 3)).setCell ⟨gC, k1, none⟩ (.slice (some ⟨w8.heap.size, 0, none⟩) M1 M1)) = wA at IA BA ⊢
      have hc8 := (blk_cell IA.out.2.2.1 0).trans (show _ = some (Value.slice B b.length cB) from rfl)
      go_wp2_with (fail)
      clear hc8 s2w s2v
      go_loopg [12] M1 (fun kj v12 wr => v12 = .int .i64 ((kj : Int) - 1) ∧ Hid (kj ≤ M1) ∧ Hid (apparatus_Words.I wr (b9 + 1) b6 b8 b9 gC A cA B cB a b k1 ((kj : Int) - 1)) ∧ Hid (Below w.heap.size w wr))
      case atStart => exact ⟨by rw [show ((M1 : Int) - 1) = (b.length : Int) by omega], Lib.hid (Nat.le_refl _), by rw [show ((M1 : Int) - 1) = (b.length : Int) by omega]; exact IA, BA⟩
      case round =>
       clear IA BA
       obtain ⟨rfl, HKj, HI, HB⟩ := hrel
       cases gk with
       | zero =>
        have d0 : decide ((0 : Int) ≤ ((0 : Nat) : Int) - 1) = false := by decide
        have hd := Lib.hid (apparatus_Words.down k1 (by have := HK.out; have := C2.out.1; omega))
        go_wp2_with (fail)
        go_roundg k1
        case measure => omega
        case rel =>
         exact ⟨by first | rw [hd.out.1] | with_reducible rfl, Lib.hid (by have := HK.out; omega), HI, HB⟩
       | succ p1 =>
        rw [show ((p1 + 1 : Nat) : Int) - 1 = (p1 : Int) by omega] at HI ⊢
        obtain ⟨g, hg0, hg1, ⟨vo, hg2⟩, hg3, hrest, hsame, hput⟩ := HI.out.2.2.2.2.2.2.put (by have := HK.out; omega) (by omega) (by have := HKj.out; omega)
        rw [Int.toNat_natCast] at hg2 hg3 hput
        rw [hM1] at hg1
        have hc6 := (blk_cell HI.out.2.1 0).trans (show _ = some (Value.slice A a.length cA) from rfl)
        have hc8 := (blk_cell HI.out.2.2.1 0).trans (show _ = some (Value.slice B b.length cB) from rfl)
        have hc9 := (blk_cell HI.out.2.2.2.1 0).trans (show _ = some (Value.slice (some ⟨gC, 0, none⟩) (a.length + 1) (a.length + 1)) from rfl)
        rw [hN1] at hc9
        have I5 := Lib.hid (HI.out.far (p := ⟨g, p1, none⟩) (Or.inr hg0) _ hput)
        have B5 := Lib.hid (below_set HB.out (show w.heap.size ≤ g by have := HI.out.1; have := N8.out; omega) (j := p1) (v := .int .i64 (apparatus_Words.cost (a.drop k1) (b.drop p1) : Int)))
        have HP := Lib.hid hput; have HRS := Lib.hid hrest; have HSM := Lib.hid hsame
        have hle := apparatus_Words.cost_le (a.drop k1) (b.drop p1)
        rw [List.length_drop, List.length_drop] at hle
        have r1 := eq_true (show (p1 : Int) < (M1 : Int) by have := HKj.out; omega)
        have r1' := eq_true (show p1 < M1 by have := HKj.out; omega)
        clear hput hrest hsame
        by_cases e1 : k1 = a.length
        ·have ec : (b.length : Int) - (p1 : Int) = (apparatus_Words.cost (a.drop k1) (b.drop p1) : Int) := by
          rw [e1, List.drop_length, apparatus_Words.cost_nil, List.length_drop]
          have := HKj.out
          omega
         obtain ⟨cc, hcc⟩ : ∃ cc : Nat, apparatus_Words.cost (a.drop k1) (b.drop p1) = cc := ⟨_, rfl⟩
         rw [hcc] at ec I5 B5
         have b1 : ((k1 : Int) == (a.length : Int)) = true := beq_iff_eq.2 (by omega)
         have b2 : (k1 == a.length) = true := beq_iff_eq.2 e1
         have hsub := apparatus_Words.less b.length p1 cc ec (by have := C2.out.2; omega)
         clear ec hle HP hcc e1
         obtain ⟨u1, u2⟩ := hsub
         go_wp2_with (fail)
         refine start_ (n := 11) (S := fun w' => w'.cell? ⟨b9, 0, none⟩ = some (.slice (some ⟨gC, 0, none⟩) N1 N1) ∧ w'.cell? ⟨gC, k1, none⟩ = some (.slice (some ⟨g, 0, none⟩) M1 M1) ∧ w'.cell? ⟨b8, 0, none⟩ = some (.slice B b.length cB)) (ds := [10]) #[false, false, false, false, false, false, false, false, false, false, false] (by kernel_rfl) rfl rfl ⟨hc9, hg1, hc8⟩ (fun hHeld => ?_)
         refine th_ 0 (some 90) hHeld ?_
         refine ph_ 1 (some 91) ?_
         refine ph_ 2 (some 92) ?_
         refine th_ 3 (some 93) hHeld ?_
         refine ph_ 4 (some 94) ?_
         refine th_ 5 (some 95) hHeld ?_
         refine ph_ 6 (some 96) ?_
         refine ph_ 7 (some 97) ?_
         refine ph_ 8 (some 98) ?_
         refine ph_ 9 (some 99) ?_
         refine last_ (i := 10) (N := none) #[true, true, true, true, true, true, true, true, true, true, true] rfl rfl (by kernel_rfl) (by decide) (fun K hK => ?_)
         refine skip_ (w1 := ?_) (by rfl) rfl ?_ ?_
         rotate_left
         ·go_simp
          rfl
         refine hK.out _ _ ?_
         clear hK K
         refine done_ (by kernel_rfl) ?_
         go_wp2_with (fail)
         clear u1 u2
         have hd := Lib.hid (apparatus_Words.down p1 (by have := HKj.out; have := C2.out.2; omega))
         go_roundg p1
         case measure => omega
         case rel => exact ⟨by first | rw [hd.out.1] | with_reducible rfl, Lib.hid (by have := HKj.out; omega), Lib.hid (by exact I5.out), Lib.hid (by first | exact B5.out | exact below_drew1 B5.out | exact pw_below_drewN B5.out _ | exact pw_below_drewN (below_drew1 B5.out) _)⟩
        ·have b1 : ((k1 : Int) == (a.length : Int)) = false := beq_eq_false_iff_ne.2 (by omega)
         have b2 : (k1 == a.length) = false := beq_eq_false_iff_ne.2 e1
         have HE1 := Lib.hid e1
         clear e1
         by_cases e2 : p1 = b.length
         ·have ec : (a.length : Int) - (k1 : Int) = (apparatus_Words.cost (a.drop k1) (b.drop p1) : Int) := by
           rw [e2, List.drop_length, apparatus_Words.cost_end, List.length_drop]
           have := HK.out
           omega
          obtain ⟨cc, hcc⟩ : ∃ cc : Nat, apparatus_Words.cost (a.drop k1) (b.drop p1) = cc := ⟨_, rfl⟩
          rw [hcc] at ec I5 B5
          have b3 : ((p1 : Int) == (b.length : Int)) = true := beq_iff_eq.2 (by omega)
          have b4 : (p1 == b.length) = true := beq_iff_eq.2 e2
          have hsub := apparatus_Words.less a.length k1 cc ec (by have := C2.out.1; omega)
          clear ec hle HP hcc e2
          obtain ⟨u1, u2⟩ := hsub
          go_wp2_with (fail)
          refine start_ (n := 11) (S := fun w' => w'.cell? ⟨b9, 0, none⟩ = some (.slice (some ⟨gC, 0, none⟩) N1 N1) ∧ w'.cell? ⟨gC, k1, none⟩ = some (.slice (some ⟨g, 0, none⟩) M1 M1) ∧ w'.cell? ⟨b6, 0, none⟩ = some (.slice A a.length cA)) (ds := [10]) #[false, false, false, false, false, false, false, false, false, false, false] (by kernel_rfl) rfl rfl ⟨hc9, hg1, hc6⟩ (fun hHeld => ?_)
          refine th_ 0 (some 105) hHeld ?_
          refine ph_ 1 (some 106) ?_
          refine ph_ 2 (some 107) ?_
          refine th_ 3 (some 108) hHeld ?_
          refine ph_ 4 (some 109) ?_
          refine th_ 5 (some 110) hHeld ?_
          refine ph_ 6 (some 111) ?_
          refine ph_ 7 (some 112) ?_
          refine ph_ 8 (some 113) ?_
          refine ph_ 9 (some 114) ?_
          refine last_ (i := 10) (N := none) #[true, true, true, true, true, true, true, true, true, true, true] rfl rfl (by kernel_rfl) (by decide) (fun K hK => ?_)
          refine skip_ (w1 := ?_) (by rfl) rfl ?_ ?_
          rotate_left
          ·go_simp
           rfl
          refine hK.out _ _ ?_
          clear hK K
          refine done_ (by kernel_rfl) ?_
          go_wp2_with (fail)
          clear u1 u2
          have hd := Lib.hid (apparatus_Words.down p1 (by have := HKj.out; have := C2.out.2; omega))
          go_roundg p1
          case measure => omega
          case rel => exact ⟨by first | rw [hd.out.1] | with_reducible rfl, Lib.hid (by have := HKj.out; omega), Lib.hid (by exact I5.out), Lib.hid (by first | exact B5.out | exact below_drew1 B5.out | exact pw_below_drewN B5.out _ | exact pw_below_drewN (below_drew1 B5.out) _)⟩
         ·have b3 : ((p1 : Int) == (b.length : Int)) = false := beq_eq_false_iff_ne.2 (by omega)
          have b4 : (p1 == b.length) = false := beq_eq_false_iff_ne.2 e2
          have HE2 := Lib.hid e2
          clear e2
          have lk : k1 < a.length := by have := HE1.out; have := HK.out; omega
          have lp : p1 < b.length := by have := HE2.out; have := HKj.out; omega
          obtain ⟨x0, hx0⟩ : ∃ x0, rdOf ByteArray.empty a k1 = x0 := ⟨_, rfl⟩
          obtain ⟨y0, hy0⟩ : ∃ y0, rdOf ByteArray.empty b p1 = y0 := ⟨_, rfl⟩
          have ec : (apparatus_Words.cost (a.drop k1) (b.drop p1) : Int) = (if (apparatus_Words.cost (a.drop k1) (b.drop (p1 + 1)) : Int) + 1 < (if (apparatus_Words.cost (a.drop (k1 + 1)) (b.drop p1) : Int) + 1 < apparatus_Words.pair a b k1 p1 then (apparatus_Words.cost (a.drop (k1 + 1)) (b.drop p1) : Int) + 1 else apparatus_Words.pair a b k1 p1) then (apparatus_Words.cost (a.drop k1) (b.drop (p1 + 1)) : Int) + 1 else (if (apparatus_Words.cost (a.drop (k1 + 1)) (b.drop p1) : Int) + 1 < apparatus_Words.pair a b k1 p1 then (apparatus_Words.cost (a.drop (k1 + 1)) (b.drop p1) : Int) + 1 else apparatus_Words.pair a b k1 p1)) := apparatus_Words.cost_at a b lk lp
          obtain ⟨g', hg0', hg1', hsm'⟩ := HRS.out (k1 + 1) (by omega) (by omega)
          have hn1 := hsm' p1 (by omega)
          have hn2 := HSM.out (p1 + 1) (by omega)
          rw [apparatus_Words.val_of a b (Or.inl (by omega))] at hn1
          rw [apparatus_Words.val_of a b (Or.inr (by omega))] at hn2
          have hl1 := apparatus_Words.cost_le (a.drop (k1 + 1)) (b.drop p1)
          have hl2 := apparatus_Words.cost_le (a.drop k1) (b.drop (p1 + 1))
          rw [List.length_drop, List.length_drop] at hl1 hl2
          obtain ⟨c1, hc1⟩ : ∃ c1 : Nat, apparatus_Words.cost (a.drop (k1 + 1)) (b.drop p1) = c1 := ⟨_, rfl⟩
          obtain ⟨c2, hc2⟩ : ∃ c2 : Nat, apparatus_Words.cost (a.drop k1) (b.drop (p1 + 1)) = c2 := ⟨_, rfl⟩
          obtain ⟨k2, hk2⟩ : ∃ k2 : Nat, k1 + 1 = k2 := ⟨_, rfl⟩
          obtain ⟨p2, hp2⟩ : ∃ p2 : Nat, p1 + 1 = p2 := ⟨_, rfl⟩
          have m1 := eq_true (show (k2 : Int) < (N1 : Int) by have := HK.out; omega)
          have m2 := eq_true (show (p2 : Int) < (M1 : Int) by have := HKj.out; omega)
          have m1' := eq_true (show k2 < N1 by have := HK.out; omega)
          have m2' := eq_true (show p2 < M1 by have := HKj.out; omega)
          have T1 := Lib.hid (apparatus_Words.step' c1 (by have := C2.out; omega))
          have T2 := Lib.hid (apparatus_Words.step' c2 (by have := C2.out; omega))
          have T3 := Lib.hid (apparatus_Words.step k1 k2 (by omega) (by have := C2.out; omega))
          have T4 := Lib.hid (apparatus_Words.step p1 p2 (by omega) (by have := C2.out; omega))
          rw [hc1] at hn1 ec
          rw [hc2] at hn2 ec
          rw [hk2, hM1] at hg1'
          rw [hp2] at hn2
          rw [ec] at I5 B5
          have LKP := Lib.hid (And.intro lk lp)
          obtain ⟨pv, hpv⟩ : ∃ pv, apparatus_Words.pair a b k1 p1 = pv := ⟨_, rfl⟩
          rw [hpv] at I5 B5
          have HPV := Lib.hid hpv
          clear ec hc1 hc2 hk2 hp2 hl1 hl2 hle HP lk lp hsm' hx0 hy0 hpv
          have HKP := Lib.hid (show 0 = 0 from rfl)
          have t1 := T1.out.1
          have t2 := T2.out.1
          have t3 := T3.out.1
          have t4 := T4.out.1
          clear T1 T2 T3 T4
          go_wp2_with (fail)
          refine start_ (n := 30) (S := fun w' => w'.cell? ⟨b9, 0, none⟩ = some (.slice (some ⟨gC, 0, none⟩) N1 N1) ∧ w'.cell? ⟨gC, k1, none⟩ = some (.slice (some ⟨g, 0, none⟩) M1 M1) ∧ w'.cell? ⟨gC, k2, none⟩ = some (.slice (some ⟨g', 0, none⟩) M1 M1) ∧ w'.cell? ⟨g', p1, none⟩ = some (.int .i64 (c1 : Int)) ∧ w'.cell? ⟨g, p2, none⟩ = some (.int .i64 (c2 : Int)) ∧ Hid (apparatus_Words.I w' (b9 + 1) b6 b8 b9 gC A cA B cB a b k1 (p1 : Int) ∧ w'.cell? ⟨g, p1, none⟩ = some vo ∧ w'.frozen? ⟨g, p1, none⟩ = false ∧ ∃ n, w' = wr.drewN n)) (ds := [29]) #[false, false, false, false, false, false, false, false, false, false, false, false, false, false, false, false, false, false, false, false, false, false, false, false, false, false, false, false, false, false] (by kernel_rfl) rfl rfl ⟨hc9, hg1, hg1', hn1, hn2, Lib.hid ⟨HI.out.below (below_drew (Below.refl _ _)), hg2, hg3, 1, rfl⟩⟩ (fun hHeld => ?_)
          refine th_ 0 (some 56) hHeld ?_
          refine ph_ 1 (some 57) ?_
          refine ph_ 2 (some 58) ?_
          refine th_ 3 (some 59) hHeld ?_
          refine ph_ 4 (some 60) ?_
          refine ph_ 5 (some 61) ?_
          refine ph_ 6 (some 62) ?_
          refine ph_ 7 (some 63) ?_
          refine th_ 9 (some 65) hHeld ?_
          refine ph_ 10 (some 66) ?_
          refine ph_ 11 (some 67) ?_
          refine ph_ 12 (some 68) ?_
          refine th_ 13 (some 69) hHeld ?_
          refine ph_ 14 (some 70) ?_
          refine ph_ 15 (some 71) ?_
          refine th_ 16 (some 72) hHeld ?_
          refine ph_ 17 (some 73) ?_
          refine th_ 18 (some 74) hHeld ?_
          refine ph_ 19 (some 75) ?_
          refine ph_ 20 (some 76) ?_
          refine th_ 21 (some 77) hHeld ?_
          refine ph_ 22 (some 78) ?_
          refine ph_ 23 (some 79) ?_
          refine ph_ 24 (some 80) ?_
          refine th_ 25 (some 81) hHeld ?_
          refine ph_ 26 (some 82) ?_
          refine one_ (i := 8) (N := (some 64)) #[true, true, true, true, true, true, true, true, true, true, true, true, true, true, true, true, true, true, true, true, true, true, true, true, true, true, true, false, false, false] rfl rfl (by kernel_rfl) (by decide) (fun K hK => ?_)
          refine call_ 37 #[.int .i64 k1, .int .i64 p1, .pointer (some ⟨b6, 0, none⟩), .pointer (some ⟨b8, 0, none⟩), .pointer (some ⟨b9, 0, none⟩)] (by rfl) rfl (by have he := enters_ Try.func37 (by kernel_rfl) rfl #[.int .i64 k1, .int .i64 p1, .pointer (some ⟨b6, 0, none⟩), .pointer (some ⟨b8, 0, none⟩), .pointer (some ⟨b9, 0, none⟩)] wr.drew; unfold execOp; simp [resolve, Deferred.ofValue, invoke, Act.eval, he]) ?_
          refine (apparatus_Words.other hHeld.2.2.2.2.2.out.1 k1 p1 LKP.out.1 LKP.out.2 (by omega) (Or.inl (by omega)) C2.out.1 C2.out.2).mono ?_
          rintro e wq ⟨rfl, ⟨nd, rfl⟩⟩
          rw [HPV.out]
          refine ⟨_, rfl, ?_⟩
          refine hK.out _ _ ⟨hHeld.1, hHeld.2.1, hHeld.2.2.1, hHeld.2.2.2.1, hHeld.2.2.2.2.1, Lib.hid ⟨hHeld.2.2.2.2.2.out.1.below (pw_below_drewN (Below.refl _ _) _), hHeld.2.2.2.2.2.out.2.1, hHeld.2.2.2.2.2.out.2.2.1, _, World.drewN_drewN wr 1 nd⟩⟩ (fun hHeld => ?_)
          clear hK K
          refine norm_ (a' := ?_) ?_ ?_
          rotate_left
          ·show Act.put _ (some 64) _ = _
           simp only [Act.put, List.setIfInBounds_toArray, List.set_cons_zero, List.set_cons_succ, i64_w, i32_w]
           rfl
          refine ph_ 27 (some 83) ?_
          refine ph_ 28 (some 84) ?_
          refine last_ (i := 29) (N := none) #[true, true, true, true, true, true, true, true, true, true, true, true, true, true, true, true, true, true, true, true, true, true, true, true, true, true, true, true, true, true] rfl rfl (by kernel_rfl) (by decide) (fun K hK => ?_)
          refine skip_ (w1 := ?_) (by rfl) rfl ?_ ?_
          rotate_left
          ·go_simp
           rfl
          refine hK.out _ _ ?_
          clear hK K
          refine done_ (by kernel_rfl) ?_
          obtain ⟨zz, hzz⟩ : ∃ zz : Int, (if (c2 : Int) + 1 < (if (c1 : Int) + 1 < pv then (c1 : Int) + 1 else pv) then (c2 : Int) + 1 else (if (c1 : Int) + 1 < pv then (c1 : Int) + 1 else pv)) = zz := ⟨_, rfl⟩
          rw [hzz] at I5 B5 ⊢
          clear hzz hHeld
          go_wp2_with (fail)
          clear t1 t2 t3 t4
          have hd := Lib.hid (apparatus_Words.down p1 (by have := HKj.out; have := C2.out.2; omega))
          go_roundg p1
          case measure => omega
          case rel => exact ⟨by first | rw [hd.out.1] | with_reducible rfl, Lib.hid (by have := HKj.out; omega), Lib.hid (by exact I5.out), Lib.hid (by first | exact B5.out | exact below_drew1 B5.out | exact pw_below_drewN B5.out _ | exact pw_below_drewN (below_drew1 B5.out) _)⟩
   ·rw [if_neg c2] at h2; cases h2
  ·rw [if_neg c1] at h2
   obtain ⟨rfl, rfl⟩ := Prod.mk.inj (Option.some.inj h2)
   have g1 : (e1 != 0) = true := by simpa using c1
   have g2 : (e1 == 0) = false := by simpa using c1
   clear h2 c1
   go_wp2_with (first | ((with_reducible refine gate_dst (N := 8) rfl ?_); (try (refine gate_guard (by rfl) ?_; dsimp only)); refine bX 8 #[.slice none 0 0] 34 ?_; intro b8 hb8 w5 hbox hbb; have P5 := Lib.hid hbox; have BZ8 := Lib.hid (B4.out.trans (hbb.mono B4.out.size)); have Z8 := Lib.hid hbb; have L8 := Lib.hid (show w4.heap.size = b8 from hb8.symm); have N8 := Lib.hid (show w.heap.size ≤ b8 from by have := B4.out.size; omega); clear hb8 hbox hbb; have hc80 := (blk_cell P5.out 0).trans (show _ = some (Value.slice none 0 0) from rfl); have hf80 := blk_frozen P5.out 0; have hc6 : (w5.setCell ⟨b8, 0, none⟩ (.slice B b.length cB)).cell? ⟨b6, 0, none⟩ = some (.slice A a.length cA) := (blk_cell (blk_far (blk_below P4.out Z8.out) (p := ⟨b8, 0, none⟩) (by have := blk_lt P4.out; have := L8.out; show b6 ≠ b8; omega) (.slice B b.length cB)) 0).trans rfl))
   go_ret2
   exact ⟨_, rfl, Kd.R_nil _ _ _ _ _, below_set BZ8.out N8.out⟩
 ·rw [if_neg c0] at h1
  obtain ⟨rfl, rfl⟩ := Prod.mk.inj (Option.some.inj h1)
  have g1 : (e0 != 0) = true := by simpa using c0
  have g2 : (e0 == 0) = false := by simpa using c0
  clear h1 c0
  go_wp2_with (first | ((with_reducible refine gate_dst (N := 6) rfl ?_); (try (refine gate_guard (by rfl) ?_; dsimp only)); refine bX 6 #[.slice none 0 0] 34 ?_; intro b6 hb6 w2 hbox hbb; have P2 := Lib.hid hbox; have B2 := Lib.hid (B1.out.trans (hbb.mono B1.out.size)); have Z6 := Lib.hid hbb; have L6 := Lib.hid (show w1.heap.size ≤ b6 from Nat.le_of_eq hb6.symm); have N6 := Lib.hid (show w.heap.size ≤ b6 from by have := B1.out.size; omega); clear hb6 hbox hbb; have hc60 := (blk_cell P2.out 0).trans (show _ = some (Value.slice none 0 0) from rfl); have hf60 := blk_frozen P2.out 0))
  go_ret2
  exact ⟨_, rfl, Kd.R_nil _ _ _ _ _, below_set B2.out N6.out⟩

end Go.Proofs.Ytmjigfoldeekmaa.X
