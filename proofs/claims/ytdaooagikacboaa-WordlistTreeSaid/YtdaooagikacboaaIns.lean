/- slices.Insert and slices.Delete at []string, of a row of the caller's own: out of the shelf's theorems. -/
import Derived.Test.YtdaooagikacboaaProg
import Derived.Test.YtdaooagikacboaaWMore
import Derived.Test.YtdaooagikacboaaWLast
import Derived.Lib.LazyBuf
import Derived.Shelf.Slices.Cells
import Derived.Shelf.Spec.SlicesInsert
import Derived.Shelf.Spec.SlicesInsertGrow
set_option linter.unusedVariables false
namespace Go.Proofs.Ytdaooagikacboaa.Ins
open Go.RowKit Go.Proofs.YtdaooagikacboaaW.PrintWords Go.Proofs.YtdaooagikacboaaW.PrintLast
def ren : Go.Shelf.Ren := ⟨fun | 17 => 85 | 22 => 47 | 29 => 66 | 30 => 67 | 36 => 79 | n => n, fun | 24 => 24 | 9 => 9 | 3 => 3 | 4 => 4 | 0 => 0 | n => n, fun | n => n⟩
theorem lays : Go.Proofs.Lays2.n22 Try.prog ren := {
  mixed := by kernel_rfl
  f17 := Try.func85.trans (congrArg some (by kernel_rfl))
  f22 := Try.func47.trans (congrArg some (by kernel_rfl))
  f29 := Try.func66.trans (congrArg some (by kernel_rfl))
  f30 := Try.func67.trans (congrArg some (by kernel_rfl))
  f36 := Try.func79.trans (congrArg some (by kernel_rfl))
  t0 := Try.underlying0
  a0 := Try.isAgg0
  z0 := Try.sizeOf0
  v0 := Try.zeroValue0
  t3 := Try.underlying3
  a3 := Try.isAgg3
  z3 := Try.sizeOf3
  v3 := Try.zeroValue3
  t4 := Try.underlying4
  a4 := Try.isAgg4
  z4 := Try.sizeOf4
  v4 := Try.zeroValue4
  t9 := Try.underlying9
  a9 := Try.isAgg9
  z9 := Try.sizeOf9
  v9 := Try.zeroValue9
  t24 := Try.underlying24
  a24 := Try.isAgg24
  z24 := Try.sizeOf24
  v24 := Try.zeroValue24
  i9 := by kernel_rfl }
abbrev E : List ByteArray → List Value := encs Value.string
theorem E_at (l : List ByteArray) (j : Nat) (v : Value) (h : (E l)[j]? = some v) : ∃ x, v = .string x := by
  rw [show E l = l.map Value.string from rfl, List.getElem?_map] at h
  cases hj : l[j]? with
  | none => rw [hj] at h; cases h
  | some x => rw [hj] at h; exact ⟨x, (Option.some.inj h).symm⟩
theorem E_one (l : List ByteArray) : ∀ v ∈ E l, v.oneCell' = true := by
  intro v hv
  obtain ⟨x, _, rfl⟩ := List.mem_map.1 hv
  rfl
/-- what stands in a block whose cells are set -/
theorem heap_sets (g : Nat) (e : TypeId) : ∀ (vs : List Value) (o : Nat) (w : World) (cur : Array Value), w.heap[g]? = some (.cells cur e (0, 0)) → o + vs.length ≤ cur.size → ∃ cur' : Array Value, (w.setCells g o vs).heap[g]? = some (.cells cur' e (0, 0)) ∧ cur'.toList = cur.toList.take o ++ vs ++ cur.toList.drop (o + vs.length)
  | [], o, w, cur, h, ho => ⟨cur, h, by rw [List.append_nil, List.length_nil, Nat.add_zero, List.take_append_drop]⟩
  | v :: r, o, w, cur, h, ho => by
    rw [List.length_cons] at ho
    have hl : o < cur.toList.length := by rw [Array.length_toList]; omega
    obtain ⟨cur', h1, h2⟩ := heap_sets g e r (o + 1) (w.setCell ⟨g, o, none⟩ v) (cur.setIfInBounds o v) (blk_set h o v) (by rw [Array.size_setIfInBounds]; omega)
    refine ⟨cur', h1, ?_⟩
    rw [h2, Array.toList_setIfInBounds, List.set_eq_take_append_cons_drop, if_pos hl]
    have hT : (cur.toList.take o ++ [v]).length = o + 1 := by rw [List.length_append, List.length_take, List.length_singleton]; omega
    rw [show cur.toList.take o ++ v :: cur.toList.drop (o + 1) = (cur.toList.take o ++ [v]) ++ cur.toList.drop (o + 1) by rw [List.append_assoc]; rfl]
    rw [List.take_left' hT, ← List.drop_drop (i := r.length) (j := o + 1), List.drop_left' hT, List.drop_drop, List.length_cons, show o + 1 + r.length = o + (r.length + 1) by omega]
    simp only [List.append_assoc, List.cons_append, List.nil_append]
theorem below_sets {B b : Nat} (hb : B ≤ b) (vs : List Value) (o : Nat) (w : World) : Below B w (w.setCells b o vs) := Go.below_setCells hb vs o w (Below.refl _ _)
theorem own_of {w : World} {base g cap n : Nat} {e : TypeId} {cur : Array Value} {xs : List Value} (hb : base ≤ g) (h : w.heap[g]? = some (.cells cur e (0, 0))) (hn : n ≤ cap) (hc : cap ≤ maxLen) (hs : cur.size = cap) (hx : xs.length = n) (ht : cur.toList.take n = xs) : w.ownsRow base e 1 (.slice (some ⟨g, 0, none⟩) n cap) n xs :=
  ⟨by omega, .inr ⟨g, cap, cur, rfl, hb, h, hn, hc, by omega, by rw [Nat.mul_one]; exact ht⟩⟩
theorem toList_size {a : Array Value} {l : List Value} (h : a.toList = l) : a.size = l.length := by rw [← h, Array.length_toList]
/-- slices.Insert of one string into a row of one's own -/
theorem insert (w : World) (base : Nat) (ok : Nat → Prop) (v : Value) (l : List ByteArray) (i : Nat) (x : ByteArray) (vb : Nat) (hR : Kd.R Kd.string 9 w base ok v l) (hvb : w.heap[vb]? = some (.cells #[.string x] 9 (0, 0))) (hne : v.ownBlock ≠ some vb) (hi : i ≤ l.length) (hl : l.length ≤ 1000000) (hbase : base ≤ w.heap.size) :
    Calls Try.prog 47 #[v, .int .i64 i, .slice (some ⟨vb, 0, none⟩) 1 1] w fun e w' => ∃ v', e = .returned v' ∧ Kd.R Kd.string 9 w' base (fun _ => True) v' (l.take i ++ [x] ++ l.drop i) ∧ Below base w w' := by
  have hO := Kd.own_of_R hR
  have hvs : ∀ j u, ([Value.string x] : List Value)[j]? = some u → w.cell? ⟨vb, 0 + j, none⟩ = some u := by
    intro j u hj
    rw [Nat.zero_add, blk_cell hvb]
    rw [← hj, ← Array.getElem?_toList]
  have h1v : ∀ u ∈ ([Value.string x] : List Value), u.oneCell' = true := by intro u hu; rw [List.mem_singleton] at hu; rw [hu]; rfl
  have hm63 : maxLen = 9223372036854775807 := rfl
  have hEl : (E l).length = l.length := encs_length l
  have hres : E (l.take i ++ [x] ++ l.drop i) = (E l).take i ++ [.string x] ++ (E l).drop i := by
    unfold E encs
    rw [List.map_append, List.map_append, List.map_take, List.map_drop]; rfl
  have hrl : (l.take i ++ [x] ++ l.drop i).length = l.length + 1 := by simp only [List.length_append, List.length_take, List.length_drop, List.length_singleton]; omega
  have hrE : ((E l).take i ++ [Value.string x] ++ (E l).drop i).length = l.length + 1 := by rw [← hres]; unfold E; rw [encs_length, hrl]
  have fin : ∀ (W : World) (g cap : Nat) (cur : Array Value) (z : List Value), base ≤ g → W.heap[g]? = some (.cells cur 9 (0, 0)) → l.length + 1 ≤ cap → cap ≤ maxLen → cur.size = cap → cur.toList = ((E l).take i ++ [.string x] ++ (E l).drop i) ++ z →
      Kd.R Kd.string 9 W base (fun _ => True) (.slice (some ⟨g, 0, none⟩) (l.length + 1) cap) (l.take i ++ [x] ++ l.drop i) := by
    intro W g cap cur z hb hh hc hcm hs ht
    refine Kd.R_of_own (enc := Value.string) ?_ (fun _ _ => trivial)
    rw [hrl, show encs Value.string (l.take i ++ [x] ++ l.drop i) = _ from hres]
    exact own_of hb hh hc hcm hs hrE (by rw [ht, List.take_left' hrE])
  rcases hO.2 with ⟨rfl, hn0⟩ | ⟨g, cap, cur, rfl, hbg, hg, hnc, hcm, hcs, htk⟩
  · obtain rfl : l = [] := List.eq_nil_of_length_eq_zero hn0
    obtain rfl : i = 0 := by simpa using hi
    refine (Any2.slices_Insert_string_end_grow lays none 0 0 vb 0 1 1 [] [.string x] w (by omega) (by omega) (by omega) (by omega) rfl rfl (fun _ => rfl) (fun a ha => by cases ha) hvs h1v).mono ?_
    rintro e w' ⟨rfl, rfl⟩
    refine ⟨_, rfl, ?_, (Below.refl _ _).drew.alloc hbase _⟩
    have h1 := grownCap_ge w (0 + 1) 0 (ren.t 9)
    have h2 := grownCap_le_maxLen w (0 + 1) 0 (ren.t 9) (by omega)
    exact fin _ _ _ _ (Builtin.zeroCells (Value.string ⟨#[]⟩).cells (grownCap w (0 + 1) 0 (ren.t 9) - (0 + 1))).toList hbase (blk_new _ _) h1 h2 (by
      have h3 := size_zeroCells (Value.string ⟨#[]⟩).cells (grownCap w (0 + 1) 0 (ren.t 9) - (0 + 1))
      have h4 : (Value.string ⟨#[]⟩).cells.size = 1 := rfl
      rw [Array.size_append, h3, h4]
      show 1 + _ = _
      omega) (by simp [E, encs])
  · rw [Nat.mul_one] at hcs htk
    rw [show encs Value.string l = E l from rfl] at htk
    have hcl : cur.toList.length = cap := by rw [Array.length_toList, hcs]
    have hgv : vb ≠ g := fun h => hne (by rw [h]; rfl)
    have hcell : ∀ j u, (E l)[j]? = some u → w.cell? ⟨g, 0 + j, none⟩ = some u := by
      intro j u hj
      rw [Nat.zero_add, blk_cell hg, ← Array.getElem?_toList]
      have hjl : j < (E l).length := (List.getElem?_eq_some_iff.1 hj).1
      rw [← htk, List.getElem?_take_of_lt (by omega)] at hj
      exact hj
    by_cases hroom : l.length + 1 ≤ cap
    · have hsp : ∀ j, j < l.length + 1 → (w.cell? ⟨g, 0 + j, none⟩).isSome = true := by
        intro j hj
        rw [Nat.zero_add, blk_cell hg, Array.getElem?_eq_getElem (by omega)]; rfl
      by_cases hin : i < l.length
      · refine (Any2.slices_Insert_string_shift lays g 0 l.length cap i vb 0 1 1 (E l) [.string x] w hin (by omega) hroom (by omega) hgv hEl rfl hcell hsp (fun j _ => blk_frozen hg _) hvs (E_one l) h1v 9 9 1 cap
          (by simp [World.shape?, hvb]) (by simp [World.shape?, hg, hcs]) (by omega) (blk_frozen hvb _) (blk_frozen hvb _)).mono ?_
        rintro e w' ⟨rfl, rfl⟩
        have hdl : ((E l).drop i).length = l.length - i := by rw [List.length_drop, hEl]
        obtain ⟨c1, hh1, ht1⟩ := heap_sets g 9 ((E l).drop i) (0 + (i + 1)) w.drew cur (blk_drew hg) (by rw [hdl]; omega)
        obtain ⟨c2, hh2, ht2⟩ := heap_sets g 9 [.string x] (0 + i) _ c1 hh1 (by rw [toList_size ht1]; simp only [List.length_append, List.length_take, List.length_drop, List.length_singleton]; omega)
        refine ⟨_, rfl, fin _ g cap c2 (cur.toList.drop (0 + (i + 1) + ((E l).drop i).length)) hbg hh2 hroom hcm ?_ ?_, ?_⟩
        · rw [toList_size ht2, ht1]; simp only [List.length_append, List.length_take, List.length_drop, List.length_singleton]; omega
        · rw [ht2, ht1]
          have hp : (cur.toList.take (0 + (i + 1))).length = i + 1 := by rw [List.length_take]; omega
          have e1 : ((cur.toList.take (0 + (i + 1)) ++ (E l).drop i) ++ cur.toList.drop (0 + (i + 1) + ((E l).drop i).length)).take (0 + i) = (E l).take i := by
            rw [List.append_assoc, List.take_append_of_le_length (by rw [hp]; omega), List.take_take, ← htk, List.take_take]
            congr 1
            omega
          have e2 : ((cur.toList.take (0 + (i + 1)) ++ (E l).drop i) ++ cur.toList.drop (0 + (i + 1) + ((E l).drop i).length)).drop (0 + i + [Value.string x].length) = (E l).drop i ++ cur.toList.drop (0 + (i + 1) + ((E l).drop i).length) := by
            rw [List.append_assoc, List.drop_left' (by rw [hp]; show i + 1 = 0 + i + 1; omega)]
          rw [e1, e2]
          simp only [List.append_assoc]
        · exact ((Below.refl base w).drew.trans ((below_sets hbg _ _ _))).trans (below_sets hbg _ _ _)
      · obtain rfl : i = l.length := by omega
        refine (Any2.slices_Insert_string_end_room lays g 0 l.length cap vb 0 1 1 [.string x] w (by omega) hroom (by omega) rfl (fun j hj => by rw [show 0 + l.length + j = 0 + (l.length + j) by omega]; exact hsp _ (by omega)) (fun j _ => blk_frozen hg _) hvs h1v).mono ?_
        rintro e w' ⟨rfl, rfl⟩
        obtain ⟨c1, hh1, ht1⟩ := heap_sets g 9 [.string x] (0 + l.length) w cur hg (by show 0 + l.length + 1 ≤ _; omega)
        refine ⟨_, rfl, fin _ g cap c1 (cur.toList.drop (0 + l.length + 1)) hbg hh1 hroom hcm ?_ ?_, below_sets hbg _ _ _⟩
        · rw [toList_size ht1]; simp only [List.length_append, List.length_take, List.length_drop, List.length_singleton]; omega
        · rw [ht1, Nat.zero_add, htk, List.drop_of_length_le (by omega : (E l).length ≤ l.length), List.append_nil, List.take_of_length_le (by omega : (E l).length ≤ l.length)]; rfl
    · have h1 := grownCap_ge w (l.length + 1) cap (ren.t 9)
      have h2 := grownCap_le_maxLen w (l.length + 1) cap (ren.t 9) (by omega)
      have h4 : (Value.string ⟨#[]⟩).cells.size = 1 := rfl
      by_cases hin : i < l.length
      · refine (Any2.slices_Insert_string_grow lays g 0 l.length cap i vb 0 1 1 (E l) [.string x] w hin (by omega) hnc (by omega) (by omega) hEl rfl hcell hvs (E_one l) h1v).mono ?_
        rintro e w' ⟨rfl, rfl⟩
        have hdl : ((E l).drop i).length = l.length - i := by rw [List.length_drop, hEl]
        have htl : ((E l).take i).length = i := by rw [List.length_take]; omega
        obtain ⟨c0, hc0, hs0, ht0⟩ : ∃ c0 : Array Value, c0 = ((E l).take i).toArray ++ Builtin.zeroCells (Value.string ⟨#[]⟩).cells (l.length + 1 - i) ++ Builtin.zeroCells (Value.string ⟨#[]⟩).cells (grownCap w (l.length + 1) cap (ren.t 9) - (l.length + 1)) ∧ c0.size = grownCap w (l.length + 1) cap (ren.t 9) ∧ c0.toList.take i = (E l).take i := by
          refine ⟨_, rfl, ?_, ?_⟩
          · rw [Array.size_append, Array.size_append, size_zeroCells, size_zeroCells, h4, List.size_toArray, htl]; omega
          · rw [Array.toList_append, Array.toList_append, List.append_assoc, List.take_left' (by exact htl)]
        rw [← hc0]
        have hc0l : c0.toList.length = grownCap w (l.length + 1) cap (ren.t 9) := by rw [Array.length_toList, hs0]
        obtain ⟨c1, hh1, ht1⟩ := heap_sets w.heap.size (ren.t 9) [.string x] i (w.alloc (.cells c0 (ren.t 9))).drew c0 (blk_drew (blk_new _ _)) (by show i + 1 ≤ _; omega)
        have hs1 := toList_size ht1
        simp only [List.length_append, List.length_take, List.length_drop, List.length_singleton] at hs1
        obtain ⟨c2, hh2, ht2⟩ := heap_sets w.heap.size (ren.t 9) ((E l).drop i) (i + 1) _ c1 (blk_drew hh1) (by omega)
        refine ⟨_, rfl, fin _ w.heap.size (grownCap w (l.length + 1) cap (ren.t 9)) c2 (c1.toList.drop (i + 1 + ((E l).drop i).length)) hbase hh2 h1 h2 ?_ ?_, ?_⟩
        · rw [toList_size ht2]; simp only [List.length_append, List.length_take, List.length_drop, Array.length_toList]; omega
        · rw [ht2]
          have e1 : c1.toList.take (i + 1) = (E l).take i ++ [.string x] := by
            rw [ht1, ht0, List.take_left' (by rw [List.length_append, htl]; rfl)]
          rw [e1]
        · exact ((((Below.refl base w).alloc hbase _).drew.trans (below_sets hbase _ _ _)).drew).trans (below_sets hbase _ _ _)
      · obtain rfl : i = l.length := by omega
        refine (Any2.slices_Insert_string_end_grow lays (some ⟨g, 0, none⟩) l.length cap vb 0 1 1 (E l) [.string x] w (by omega) hnc (by omega) (by omega) hEl rfl (fun h => by cases h) (fun a ha => by injection ha with ha; subst ha; intro j u hj; rw [Addr.add_lit]; exact hcell j u hj) hvs h1v).mono ?_
        rintro e w' ⟨rfl, rfl⟩
        refine ⟨_, rfl, ?_, (Below.refl _ _).drew.alloc hbase _⟩
        exact fin _ _ _ _ (Builtin.zeroCells (Value.string ⟨#[]⟩).cells (grownCap w (l.length + 1) cap (ren.t 9) - (l.length + 1))).toList hbase (blk_new _ _) h1 h2 (by
          rw [Array.size_append, size_zeroCells, h4, List.size_toArray, List.length_append, hEl]
          show l.length + 1 + _ = _
          omega) (by rw [Array.toList_append, List.drop_of_length_le (by omega : (E l).length ≤ l.length), List.append_nil, List.take_of_length_le (by omega : (E l).length ≤ l.length)])
def ren24 : Go.Shelf.Ren := ⟨fun | 24 => 49 | n => n, fun | 24 => 24 | 9 => 9 | 3 => 3 | 4 => 4 | 0 => 0 | n => n, fun | n => n⟩
theorem lays24 : Go.Proofs.Lays2.n24 Try.prog ren24 := {
  mixed := by kernel_rfl
  f24 := Try.func49.trans (congrArg some (by kernel_rfl))
  t0 := Try.underlying0
  a0 := Try.isAgg0
  z0 := Try.sizeOf0
  v0 := Try.zeroValue0
  t3 := Try.underlying3
  a3 := Try.isAgg3
  z3 := Try.sizeOf3
  v3 := Try.zeroValue3
  t4 := Try.underlying4
  a4 := Try.isAgg4
  z4 := Try.sizeOf4
  v4 := Try.zeroValue4
  t9 := Try.underlying9
  a9 := Try.isAgg9
  z9 := Try.sizeOf9
  v9 := Try.zeroValue9
  t24 := Try.underlying24
  a24 := Try.isAgg24
  z24 := Try.sizeOf24
  v24 := Try.zeroValue24
  i9 := by kernel_rfl }
theorem strs (l : List ByteArray) : Lib.strsOf (fun j => l.getD j ByteArray.empty) l.length = l.map (fun s => s.data.toList) := by
  unfold Lib.strsOf
  apply List.ext_getElem?
  intro j
  rcases Nat.lt_or_ge j l.length with h | h
  · rw [List.getElem?_map, List.getElem?_map, List.getElem?_range h, List.getElem?_eq_getElem h]
    simp [List.getElem?_eq_getElem h]
  · rw [List.getElem?_eq_none (by simpa using h), List.getElem?_eq_none (by simpa using h)]
/-- slices.Delete of one string from a row of one's own -/
theorem delete (w : World) (base : Nat) (ok : Nat → Prop) (v : Value) (l : List ByteArray) (i : Nat) (hR : Kd.R Kd.string 9 w base ok v l) (hi : i < l.length) (hbase : base ≤ w.heap.size) :
    Calls Try.prog 49 #[v, .int .i64 i, .int .i64 ((i + 1 : Nat) : Int)] w fun e w' => ∃ v', e = .returned v' ∧ Kd.R Kd.string 9 w' base (fun _ => True) v' (l.take i ++ l.drop (i + 1)) ∧ Below base w w' := by
  have hO := Kd.own_of_R hR
  have hEl : (E l).length = l.length := encs_length l
  rcases hO.2 with ⟨rfl, hn0⟩ | ⟨g, cap, cur, rfl, hbg, hg, hnc, hcm, hcs, htk⟩
  · omega
  · rw [Nat.mul_one] at hcs htk
    rw [show encs Value.string l = E l from rfl] at htk
    have hcl : cur.toList.length = cap := by rw [Array.length_toList, hcs]
    have hcell : ∀ j, j < l.length → w.cell? ⟨g, 0 + j, none⟩ = some (.string (l.getD j ByteArray.empty)) := by
      intro j hj
      rw [Nat.zero_add, blk_cell hg, ← Array.getElem?_toList, ← List.getElem?_take_of_lt hj, htk]
      show (l.map Value.string)[j]? = _
      rw [List.getElem?_map, List.getElem?_eq_getElem hj, List.getD_eq_getElem?_getD, List.getElem?_eq_getElem hj]; rfl
    refine (Any.slices_Delete_string_cells lays24 g 0 l.length cap i (i + 1) (fun j => l.getD j ByteArray.empty) w hnc hcm (by omega) (by omega) hcell (fun j _ => blk_frozen hg _)).mono ?_
    rintro e w' ⟨rfl, q, rfl⟩
    rw [strs]
    have hv : ((l.map (fun s : ByteArray => s.data.toList)).take i ++ (l.map (fun s : ByteArray => s.data.toList)).drop (i + 1) ++ List.replicate (i + 1 - i) []).map encStr = E (l.take i ++ l.drop (i + 1)) ++ [.string ⟨#[]⟩] := by
      rw [show i + 1 - i = 1 by omega, ← List.map_take, ← List.map_drop, ← List.map_append, List.map_append, List.map_map]; rfl
    rw [hv]
    have hrl : (l.take i ++ l.drop (i + 1)).length = l.length - 1 := by simp only [List.length_append, List.length_take, List.length_drop]; omega
    have hrE : (E (l.take i ++ l.drop (i + 1))).length = l.length - 1 := by unfold E; rw [encs_length, hrl]
    obtain ⟨c1, hh1, ht1⟩ := heap_sets g 9 (E (l.take i ++ l.drop (i + 1)) ++ [.string ⟨#[]⟩]) 0 (w.drewN q) cur (blk_drewN hg q) (by rw [List.length_append, hrE]; show 0 + (l.length - 1 + 1) ≤ _; omega)
    refine ⟨_, rfl, Kd.R_of_own (enc := Value.string) ?_ (fun _ _ => trivial), (pw_below_drewN (Below.refl base w) q).trans (below_sets hbg _ _ _)⟩
    rw [hrl, show l.length - (i + 1 - i) = l.length - 1 by omega]
    refine own_of hbg hh1 (by omega) hcm ?_ hrE ?_
    · rw [toList_size ht1]; simp only [List.length_append, List.length_take, List.length_drop, List.length_singleton, hrE]; omega
    · rw [ht1, List.take_zero, List.nil_append, List.append_assoc, List.take_left' hrE]
end Go.Proofs.Ytdaooagikacboaa.Ins
