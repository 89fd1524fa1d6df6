-- printed by this session's xprint.py: out of the translation, by the kit's print with additions; Lean checks it
import Derived.Test.YtdaooagikacboaaWN
import Derived.Test.YtdaooagikacboaaWShare
import Derived.Test.YtdaooagikacboaaWRepsOne
import Derived.Test.YtdaooagikacboaaWGuard
import Derived.Test.YtdaooagikacboaaX0
import Derived.Test.YtdaooagikacboaaX5
import Derived.Test.YtdaooagikacboaaX6
import Derived.Test.YtdaooagikacboaaX8
import Derived.Test.YtdaooagikacboaaX9
import Derived.Test.YtdaooagikacboaaX10
namespace Go.Proofs.Ytdaooagikacboaa.X
open Go.RowKit Go.Proofs.YtdaooagikacboaaW.PrintWords Go.Proofs.YtdaooagikacboaaW.PrintLast Go.Proofs.YtdaooagikacboaaW.PrintMore
attribute [local go_sem] max2_int min2_int max_two min_two max_three min_three max_four min_four isSome_setCell binOp_gtr_str binOp_leq_str binOp_geq_str   -- for this text's walks alone
set_option linter.unusedVariables false
set_option linter.unusedSimpArgs false

/-! ### ancepslaw54_WordlistTree: function 5 -/
/-- a map of strings: its keys, each once -/
def ancepslaw54_WordlistTree.Mp (w : World) (b : Nat) (ks : List ByteArray) : Prop := ∃ (es : Array MapEntry) (clock : Nat), w.heap[b]? = some (.map es clock) ∧ es.toList.map (·.key) = ks.map Value.string
def ancepslaw54_WordlistTree.has (ks : List ByteArray) (s : ByteArray) : Bool := ks.any (fun q => q.toList == s.toList)
def ancepslaw54_WordlistTree.add (ks : List ByteArray) (s : ByteArray) : List ByteArray := if ancepslaw54_WordlistTree.has ks s = true then ks else ks ++ [s]
def ancepslaw54_WordlistTree.prefs (s : ByteArray) : List ByteArray := (List.range s.size).map (fun i => s.extract 0 (i + 1))
def ancepslaw54_WordlistTree.all (ws : List ByteArray) : List ByteArray := ws.foldl (fun ks s => (ancepslaw54_WordlistTree.prefs s).foldl ancepslaw54_WordlistTree.add ks) [⟨#[]⟩]
theorem ancepslaw54_WordlistTree.Mp.below {w w' : World} {b : Nat} {ks : List ByteArray} (h : ancepslaw54_WordlistTree.Mp w b ks) (hb : Below w.heap.size w w') : ancepslaw54_WordlistTree.Mp w' b ks := by
  obtain ⟨es, clock, h1, h2⟩ := h
  exact ⟨es, clock, blk_below h1 hb, h2⟩
theorem ancepslaw54_WordlistTree.Mp.keep {w w' : World} {b : Nat} {ks : List ByteArray} (h : ancepslaw54_WordlistTree.Mp w b ks) (hb : w'.heap[b]? = w.heap[b]?) : ancepslaw54_WordlistTree.Mp w' b ks := by
  obtain ⟨es, clock, h1, h2⟩ := h
  exact ⟨es, clock, hb.trans h1, h2⟩
theorem ancepslaw54_WordlistTree.Mp.lt {w : World} {b : Nat} {ks : List ByteArray} (h : ancepslaw54_WordlistTree.Mp w b ks) : b < w.heap.size := by
  obtain ⟨es, clock, h1, h2⟩ := h
  exact (Array.getElem?_eq_some_iff.1 h1).1
theorem ancepslaw54_WordlistTree.Mp_new (w : World) : ancepslaw54_WordlistTree.Mp (w.alloc (.map #[] 0)) w.heap.size [] := ⟨#[], 0, blk_new w _, rfl⟩
theorem ancepslaw54_WordlistTree.has_iff (ks : List ByteArray) (s : ByteArray) : ancepslaw54_WordlistTree.has ks s = true ↔ s ∈ ks := by
  unfold ancepslaw54_WordlistTree.has
  rw [List.any_eq_true]
  constructor
  · rintro ⟨q, hq, he⟩
    have he' : q.toList = s.toList := by simpa using he
    have : q = s := by
      rw [Lib.toList_data, Lib.toList_data] at he'
      cases q; cases s
      congr 1
      exact Array.toList_inj.1 he'
    exact this ▸ hq
  · intro h
    exact ⟨s, h, by simp⟩
theorem ancepslaw54_WordlistTree.set {w : World} {b : Nat} {ks : List ByteArray} (h : ancepslaw54_WordlistTree.Mp w b ks) (s : ByteArray) : ∃ w', (Instr.mapUpdate 42 (.map (some b)) (.string s) (.bool true)).run Try.prog w = .ok () w' ∧ ancepslaw54_WordlistTree.Mp w' b (ancepslaw54_WordlistTree.add ks s) ∧ (∀ B w0, B ≤ b → Below B w0 w → Below B w0 w') ∧ ∀ k, k ≠ b → w'.heap[k]? = w.heap[k]? := by
  have hlt := h.lt
  obtain ⟨es, clock, hb, hk⟩ := h
  have hd := Try.underlying9
  have hm := Try.underlying42
  have hK : MapKept.IsKey .string (.string s) := by simp [MapKept.IsKey]
  have hKs : ∀ x ∈ es.toList, MapKept.IsKey .string x.key := by
    intro x hx
    have : x.key ∈ es.toList.map (·.key) := List.mem_map_of_mem hx
    rw [hk] at this
    obtain ⟨q, _, hq⟩ := List.mem_map.1 this
    rw [← hq]; simp [MapKept.IsKey]
  have rest : ∀ o : Obj, (∀ B w0, B ≤ b → Below B w0 w → Below B w0 { w with heap := w.heap.setIfInBounds b o }) ∧ ∀ k, k ≠ b → ({ w with heap := w.heap.setIfInBounds b o } : World).heap[k]? = w.heap[k]? := by
    intro o
    refine ⟨fun B w0 hB hb => ⟨hb.os, hb.tape, hb.output, by have := hb.size; simpa using this, fun k hk => ?_⟩, fun k hk => ?_⟩
    · show (w.heap.setIfInBounds b o)[k]? = _
      rw [Array.getElem?_setIfInBounds, if_neg (by omega)]
      exact hb.block k hk
    · show (w.heap.setIfInBounds b o)[k]? = _
      rw [Array.getElem?_setIfInBounds, if_neg (by omega)]
  rcases MapKept.findNow_spec hK es.toList 0 hKs with ⟨h1, h2⟩ | ⟨j, e, h1, h2, h3⟩
  · have hno : ¬ s ∈ ks := by
      intro hs
      have : Value.string s ∈ es.toList.map (·.key) := by rw [hk]; exact List.mem_map_of_mem hs
      obtain ⟨x, hx, hxe⟩ := List.mem_map.1 this
      exact h2 x hx hxe
    refine ⟨_, ?_, ?_, rest (.map (es.push { key := .string s, val := .bool true, born := clock }) (clock + 1))⟩
    · simp [Instr.mapUpdate, run_underlying hm, MapKept.run_getObj_map hb, MapKept.run_checkKey hd hK, MapKept.run_findKey hd h1, MapKept.run_setObj_map _ hb, Result.andThen]
    · refine ⟨es.push { key := .string s, val := .bool true, born := clock }, clock + 1, by simp [Array.getElem?_setIfInBounds, hlt], ?_⟩
      unfold ancepslaw54_WordlistTree.add
      rw [if_neg (fun hh => hno ((ancepslaw54_WordlistTree.has_iff ks s).1 hh)), Array.toList_push, List.map_append, hk, List.map_append]; rfl
  · have hj : es[j]? = some e := by simpa using h2
    have hyes : s ∈ ks := by
      have : e.key ∈ es.toList.map (·.key) := List.mem_map_of_mem (List.mem_of_getElem? h2)
      rw [hk, h3] at this
      obtain ⟨q, hq, hqe⟩ := List.mem_map.1 this
      have : q = s := by simpa using hqe
      exact this ▸ hq
    refine ⟨_, ?_, ?_, rest (.map (es.modify j (fun x => { x with key := .string s, val := .bool true })) clock)⟩
    · simp [Instr.mapUpdate, run_underlying hm, MapKept.run_getObj_map hb, MapKept.run_checkKey hd hK, MapKept.run_findKey hd h1, hj, h3, MapKept.run_keyThatStays hK, MapKept.run_setObj_map _ hb, Result.andThen]
    · refine ⟨es.modify j (fun x => { x with key := .string s, val := .bool true }), clock, by simp [Array.getElem?_setIfInBounds, hlt], ?_⟩
      unfold ancepslaw54_WordlistTree.add
      rw [if_pos ((ancepslaw54_WordlistTree.has_iff ks s).2 hyes), ← hk]
      refine List.ext_getElem (by simp) (fun p hp1 hp2 => ?_)
      simp only [List.getElem_map, Array.getElem_toList, Array.getElem_modify]
      split
      · rename_i hjp
        subst hjp
        have := (Array.getElem?_eq_some_iff.1 hj).2
        rw [this]
        exact h3.symm
      · rfl
/-- what the iterator of a range over a string becomes -/
def ancepslaw54_WordlistTree.turn (w : World) (X : Nat) (s : ByteArray) (pos : Nat) : World := { w with heap := w.heap.setIfInBounds X (.stringIter s pos) }
theorem ancepslaw54_WordlistTree.next_at {P : Program} (w : World) (X : Nat) (s : ByteArray) (pos : Nat) (ty : TypeId) (hX : w.heap[X]? = some (.stringIter s pos)) (h : pos < s.size) (ha : (s[pos]'h).toNat < 128) :
    (Instr.next (.pointer (some ⟨X, 0, none⟩)) true ty).run P w = .ok (.tuple #[.bool true, .int .i64 pos, .int .i32 (s[pos]'h).toNat]) (ancepslaw54_WordlistTree.turn w X s (pos + 1)) := by
  simp only [Instr.next, getObj, setObj, Sem.run_bind, Sem.run, hX, Result.andThen, h, if_true, decode_ascii s pos h ha]
  simp [goInt, Sem.run, hX, ancepslaw54_WordlistTree.turn]
theorem ancepslaw54_WordlistTree.next_end {P : Program} (w : World) (X : Nat) (s : ByteArray) (pos : Nat) (ty : TypeId) (hX : w.heap[X]? = some (.stringIter s pos)) (h : ¬ pos < s.size) :
    (Instr.next (.pointer (some ⟨X, 0, none⟩)) true ty).run P w = .ok (.tuple #[.bool false]) w := by
  simp [Instr.next, getObj, Sem.run, hX, h]
theorem ancepslaw54_WordlistTree.turn_heap {w : World} {X : Nat} {s : ByteArray} {pos p2 : Nat} (hX : w.heap[X]? = some (.stringIter s pos)) : (ancepslaw54_WordlistTree.turn w X s p2).heap[X]? = some (.stringIter s p2) := by
  have h := (Array.getElem?_eq_some_iff.1 hX).1
  unfold ancepslaw54_WordlistTree.turn
  simp [Array.getElem?_setIfInBounds, h]
theorem ancepslaw54_WordlistTree.turn_other {w : World} {X k : Nat} {s : ByteArray} {p2 : Nat} (hk : k ≠ X) : (ancepslaw54_WordlistTree.turn w X s p2).heap[k]? = w.heap[k]? := by
  unfold ancepslaw54_WordlistTree.turn
  rw [Array.getElem?_setIfInBounds, if_neg (by omega)]
theorem ancepslaw54_WordlistTree.turn_below {w0 w : World} {B X : Nat} {s : ByteArray} {p2 : Nat} (h : Below B w0 w) (hX : B ≤ X) : Below B w0 (ancepslaw54_WordlistTree.turn w X s p2) := by
  refine ⟨h.os, h.tape, h.output, by have := h.size; unfold ancepslaw54_WordlistTree.turn; simp; exact this, fun k hk => ?_⟩
  rw [ancepslaw54_WordlistTree.turn_other (by omega)]
  exact h.block k hk
def ancepslaw54_WordlistTree.low (ws : List ByteArray) : Bool := ws.all (fun s => decide (s.size ≤ 1000000) && s.data.toList.all (fun c => decide (c.toNat < 128)))
def ancepslaw54_WordlistTree.f (k : Nat) (ws : List ByteArray) : Option Bool :=
  (ancepslaw54_awake.f k).bind fun a => if a = true then ((ancepsref54_Few.f k ws).bind fun b => if b = true then ((ancepslaw54_copied.f ws).bind fun cw => (wordlist_Tree.f k cw).bind fun t => (ancepsref54_Tree.f k ws).bind fun u => if t.2 = u.2 then ((ancepsref54_SameTree.f k t.1 u.1).bind fun s => if s = true then (if t.2 = 0 then (if (ws.length ≤ 1000000 ∧ t.1.length ≤ 1000000) ∧ ancepslaw54_WordlistTree.low ws = true then (if (t.1.length : Int) = ((ancepslaw54_WordlistTree.all ws).length : Int) then wordlist_CheckTree.f k ws t.1 else none) else none) else ancepsref54_SameTree.f k t.1 u.1) else none) else none) else ancepslaw54_awake.f k) else none
def ancepslaw54_WordlistTree.Pure : Prop := ∀ (l0_0 : List ByteArray), l0_0.length ≤ maxLen → l0_0.length * 16 ≤ 140737488351232 → (∀ x ∈ l0_0, x.size ≤ 140737488351232) → ∃ k, ancepslaw54_WordlistTree.f k l0_0 = some true
theorem ancepslaw54_WordlistTree.mono : ∀ a0 k, LeO (ancepslaw54_WordlistTree.f k a0) (ancepslaw54_WordlistTree.f (k + 1) a0) := by
  intro a0 k
  unfold ancepslaw54_WordlistTree.f
  exact LeO.bind (ancepslaw54_awake.mono _) fun _ => LeO.ite (LeO.bind (ancepsref54_Few.mono _ _) fun _ => LeO.ite (LeO.bind (LeO.refl _) fun _ => LeO.bind (wordlist_Tree.mono _ _) fun _ => LeO.bind (ancepsref54_Tree.mono _ _) fun _ => LeO.ite (LeO.bind (ancepsref54_SameTree.mono _ _ _) fun _ => LeO.ite (LeO.ite (LeO.ite (LeO.ite (wordlist_CheckTree.mono _ _ _) (LeO.refl _)) (LeO.refl _)) (ancepsref54_SameTree.mono _ _ _)) (LeO.refl _)) (LeO.refl _)) (ancepslaw54_awake.mono _)) (LeO.refl _)
set_option maxHeartbeats 4000000 in
set_option maxRecDepth 100000 in
theorem ancepslaw54_WordlistTree.calls (k : Nat) (A0_0 : Option Addr) (c0_0 : Nat) (l0_0 : List ByteArray) (r : Bool) (w : World) (hr0_0 : Kd.C Kd.string w A0_0 l0_0.length l0_0) (hc0_0 : l0_0.length ≤ c0_0) (h : ancepslaw54_WordlistTree.f k l0_0 = some r) :
    Calls Try.prog 5 #[.agg #[.slice A0_0 l0_0.length c0_0]] w fun e w' => e = .returned (.bool r) ∧ Below w.heap.size w w' := by
  have hu26 := Try.underlying26
  unfold ancepslaw54_WordlistTree.f at h
  obtain ⟨a0, ha, h1⟩ := Option.bind_eq_some_iff.1 h
  by_cases e0 : a0 = true
  · subst e0
    rw [if_pos rfl] at h1
    obtain ⟨b0, hb0, h2⟩ := Option.bind_eq_some_iff.1 h1
    have HA := Lib.hid ha; have HF := Lib.hid hb0; have H2 := Lib.hid h2; have HR := Lib.hid hr0_0; have HC := Lib.hid hc0_0
    clear h h1 h2 ha hb0 hr0_0 hc0_0
    go_enter Try.func5, Try.ntmps5
    go_wp2_with (first | ((with_reducible refine gate_dst (N := 1) rfl ?_); (try (refine gate_guard (by rfl) ?_; dsimp only)); refine box_event ?hg (N := 1) ?hd (cs := #[.slice A0_0 l0_0.length c0_0]) (t := 26) ?hr ?_; (case hd => rfl); (case hg => rfl); (case hr => first | (go_simp; done) | (go_simp; rfl)); intro b1 hb1 w1 hbox hbb; have Q1 := Lib.hid hbox; have B1 := Lib.hid hbb; clear hb1 hbox hbb; have hcx := (blk_cell Q1.out 0).trans (show _ = some (Value.slice A0_0 l0_0.length c0_0) from rfl)))
    refine (ancepslaw54_awake.calls k true _ HA.out).mono ?_
    rintro e w2 ⟨rfl, hb⟩
    have B2 := Lib.hid (B1.out.trans (hb.mono B1.out.size))
    have Q2 := Lib.hid (blk_below Q1.out hb)
    clear hb hcx Q1 B1
    have hcx := (blk_cell Q2.out 0).trans (show _ = some (Value.slice A0_0 l0_0.length c0_0) from rfl)
    go_wp2_with (fail)
    refine (ancepsref54_Few.calls k A0_0 c0_0 l0_0 b0 _ (Kd.C_below HR.out B2.out) HC.out HF.out).mono ?_
    rintro e w3 ⟨rfl, hb⟩
    have B3 := Lib.hid (B2.out.trans (hb.mono B2.out.size))
    have Q3 := Lib.hid (blk_below Q2.out hb)
    clear hb hcx Q2 B2 HF
    have h2 := H2.out
    clear H2
    cases b0 with
    | false =>
      rw [if_neg Bool.false_ne_true] at h2
      have H3 := Lib.hid h2
      clear h2
      go_wp2_with (fail)
      refine (ancepslaw54_awake.calls k r _ H3.out).mono ?_
      rintro e w4 ⟨rfl, hb⟩
      have B4 := Lib.hid (B3.out.trans (hb.mono B3.out.size))
      clear hb
      go_wp2_with (fail)
      go_ret
      exact ⟨rfl, B4.out⟩
    | true =>
      rw [if_pos rfl] at h2
      obtain ⟨cw, hcw, h3⟩ := Option.bind_eq_some_iff.1 h2
      obtain ⟨⟨T1, e1⟩, ht, h4⟩ := Option.bind_eq_some_iff.1 h3
      obtain ⟨⟨U1, e2⟩, hu, h5⟩ := Option.bind_eq_some_iff.1 h4
      dsimp only at h5
      have HCW := Lib.hid hcw; have HT := Lib.hid ht; have HU := Lib.hid hu; have H5 := Lib.hid h5
      clear h2 h3 h4 h5 hcw ht hu HA
      have hcx := (blk_cell Q3.out 0).trans (show _ = some (Value.slice A0_0 l0_0.length c0_0) from rfl)
      go_wp2_with (fail)
      refine (ancepslaw54_copied.calls A0_0 c0_0 l0_0 cw _ (Kd.C_below HR.out B3.out) HC.out HCW.out).mono ?_
      rintro e w4 ⟨v4, rfl, r4, hb⟩
      obtain ⟨A4, c4, rfl⟩ := Kd.R_slice r4
      have R4 := Lib.hid (Kd.R_reads' r4)
      have B4 := Lib.hid (B3.out.trans (hb.mono B3.out.size))
      have Q4 := Lib.hid (blk_below Q3.out hb)
      clear hb hcx Q3 B3 r4
      go_wp2_with (fail)
      refine (wordlist_Tree.calls k A4 c4 cw T1 e1 _ R4.out.2.2 R4.out.2.1 HT.out).mono ?_
      rintro e w5 ⟨v5, rfl, s5, hb⟩
      obtain ⟨A5, c5, rfl⟩ := Kd.S_slice s5
      have S5 := Lib.hid (Kd.S_reads' s5)
      have B5 := Lib.hid (B4.out.trans (hb.mono B4.out.size))
      have Q5 := Lib.hid (blk_below Q4.out hb)
      clear hb Q4 B4 s5 R4
      have hcx := (blk_cell Q5.out 0).trans (show _ = some (Value.slice A0_0 l0_0.length c0_0) from rfl)
      go_wp2_with (fail)
      refine (ancepsref54_Tree.calls k A0_0 c0_0 l0_0 U1 e2 _ (Kd.C_below HR.out B5.out) HC.out HU.out).mono ?_
      rintro e w6 ⟨v6, rfl, s6, hb⟩
      obtain ⟨A6, c6, rfl⟩ := Kd.S_slice s6
      have S6 := Lib.hid (Kd.S_reads' s6)
      have T6 := Lib.hid (show Kd.C k46 w6 A5 T1.length T1 from Kd.C_below S5.out.2.2 hb)
      have T6c := Lib.hid S5.out.2.1
      have B6 := Lib.hid (B5.out.trans (hb.mono B5.out.size))
      have Q6 := Lib.hid (blk_below Q5.out hb)
      clear hb Q5 B5 s6 S5 hcx
      have h5 := H5.out
      clear H5
      by_cases g1 : e1 = e2
      · subst g1
        rw [if_pos rfl] at h5
        obtain ⟨s, hs, h6⟩ := Option.bind_eq_some_iff.1 h5
        cases s with
        | true =>
          rw [if_pos rfl] at h6
          have HS := Lib.hid hs; have H6 := Lib.hid h6
          clear h5 h6 hs
          go_wp2_with (fail)
          refine (ancepsref54_SameTree.calls k A5 c5 T1 A6 c6 U1 true _ T6.out T6c.out S6.out.2.2 S6.out.2.1 HS.out).mono ?_
          rintro e w7 ⟨rfl, n7, rfl⟩
          have h6 := H6.out
          clear H6
          by_cases g2 : e1 = 0
          · subst g2
            rw [if_pos rfl] at h6
            split at h6
            · rename_i g3
              obtain ⟨⟨g4, g5⟩, g6⟩ := g3
              split at h6
              · rename_i g7
                have HK := Lib.hid h6; have G4 := Lib.hid g4; have G5 := Lib.hid g5; have G6 := Lib.hid g6; have G7 := Lib.hid g7
                clear h6 g4 g5 g6 g7 HS HT HU HCW
                have B7 := Lib.hid (pw_below_drewN B6.out n7)
                have Q7 := Lib.hid (blk_drewN Q6.out n7)
                have T7 := Lib.hid (Kd.C_below T6.out (pw_below_drewN (Below.refl _ _) n7))
                clear B6 Q6 T6 S6
                generalize w6.drewN n7 = w7 at B7 Q7 T7 ⊢
                have hb7 := B7.out.size
                have hq7 := blk_lt Q7.out
                obtain ⟨w8, hset, M8, hb8, hk8⟩ := ancepslaw54_WordlistTree.set (ancepslaw54_WordlistTree.Mp_new w7) ⟨#[]⟩
                have BW8 := Lib.hid (hb8 w7.heap.size w7 (Nat.le_refl _) (below_alloc (Below.refl _ _) _))
                have hmk : (Instr.makeMap 42 none).run Try.prog w7 = .ok (.map (some w7.heap.size)) (w7.alloc (.map #[] 0)) := rfl
                have Q8 := blk_below Q7.out BW8.out
                have hcx := (blk_cell Q8 0).trans (show _ = some (Value.slice A0_0 l0_0.length c0_0) from rfl)
                go_wp2_with (fail)
                clear hset hmk
                obtain ⟨b, hbb⟩ : ∃ b, w7.heap.size = b := ⟨_, rfl⟩
                have NB := Lib.hid (show w.heap.size ≤ b ∧ b1 < b from ⟨by omega, by omega⟩)
                have HBB := Lib.hid hbb
                rw [hbb] at M8 ⊢
                have MM := Lib.hid (show ancepslaw54_WordlistTree.Mp w8 b ((l0_0.take 0).foldl (fun ks s => (ancepslaw54_WordlistTree.prefs s).foldl ancepslaw54_WordlistTree.add ks) [⟨#[]⟩]) from M8)
                clear M8 hb8 hk8 hbb hb7 hq7 Q8 hcx
                go_loopg [56] l0_0.length (fun kq v56 wr => ∃ (j : Nat), v56 = .int .i64 j ∧ Hid (j + kq = l0_0.length) ∧ Hid (ancepslaw54_WordlistTree.Mp wr b ((l0_0.take j).foldl (fun ks s => (ancepslaw54_WordlistTree.prefs s).foldl ancepslaw54_WordlistTree.add ks) [⟨#[]⟩])) ∧ Hid (Below w7.heap.size w7 wr))
                case atStart => exact ⟨0, rfl, Lib.hid (by omega), MM, BW8⟩
                case round =>
                  clear MM BW8
                  obtain ⟨j, rfl, HJ, MR, BR⟩ := hrel
                  have BWR := Lib.hid (B7.out.trans (BR.out.mono B7.out.size))
                  cases gk with
                  | succ k1 =>
                    have c1 : j < l0_0.length := by have := HJ.out; omega
                    obtain ⟨aw, rfl, hx⟩ := Kd.at_string (Kd.C_below HR.out BWR.out) (j : Int) (by omega) (by omega)
                    obtain ⟨s, hs⟩ : ∃ s, rdOf ByteArray.empty l0_0 (j : Int) = s := ⟨_, rfl⟩
                    have hsg : l0_0[j]? = some s := by
                      rw [← hs]
                      unfold rdOf
                      rw [Int.toNat_natCast, List.getD_eq_getElem?_getD, List.getElem?_eq_getElem c1]; rfl
                    rw [hs, Int.toNat_natCast] at hx
                    have hlow := List.all_eq_true.1 G6.out s (List.mem_of_getElem? hsg)
                    rw [Bool.and_eq_true, decide_eq_true_iff, List.all_eq_true] at hlow
                    have HSZ := Lib.hid hlow.1
                    have HAS := Lib.hid (show ∀ i, (h : i < s.size) → (s[i]'h).toNat < 128 from fun i h => of_decide_eq_true (hlow.2 (s[i]'h) (by exact Array.getElem_mem_toList ..)))
                    have HSG := Lib.hid hsg
                    have b1' : decide ((j : Int) < (l0_0.length : Int)) = true := decide_eq_true (by omega)
                    have q0 := eq_true (show (0 : Int) ≤ (j : Int) by omega)
                    have q1 := eq_true (show (j : Int) < (l0_0.length : Int) by omega)
                    have q2 := eq_true c1
                    have hj1 : wrap64 ((j : Int) + 1) = (j : Int) + 1 := by have := G4.out; unfold wrap64; omega
                    have hj2 : IntKind.i64.wrap ((j : Int) + 1) = (j : Int) + 1 := (i64_w _).trans hj1
                    have hrg : ∀ W : World, (Instr.range 9 (.string s)).run Try.prog W = .ok (.pointer (some ⟨W.heap.size, 0, none⟩)) (W.iter s 0) := fun W => run_range_string W 9 s Try.underlying9
                    have X6 := Lib.hid (World.iter_heap wr s 0)
                    have hbi : Below wr.heap.size wr (wr.iter s 0) := (Below.refl _ _).alloc (Nat.le_refl _) _
                    have MI := Lib.hid (show ancepslaw54_WordlistTree.Mp (wr.iter s 0) b (((ancepslaw54_WordlistTree.prefs s).take 0).foldl ancepslaw54_WordlistTree.add ((l0_0.take j).foldl (fun ks s => (ancepslaw54_WordlistTree.prefs s).foldl ancepslaw54_WordlistTree.add ks) [⟨#[]⟩])) from MR.out.below hbi)
                    have BI := Lib.hid (BR.out.trans (hbi.mono BR.out.size))
                    have NX := Lib.hid (show b < wr.heap.size ∧ w7.heap.size ≤ wr.heap.size from ⟨MR.out.lt, BR.out.size⟩)
                    have HJ1 := Lib.hid hj1; have HJ2 := Lib.hid hj2
                    clear hbi hs hsg hlow hj1 hj2 c1
                    generalize hks : (l0_0.take j).foldl (fun ks s => (ancepslaw54_WordlistTree.prefs s).foldl ancepslaw54_WordlistTree.add ks) [⟨#[]⟩] = ks at MI
                    have HKS := Lib.hid hks
                    clear hks
                    go_wp2_with (fail)
                    clear hx hrg MR BR
                    generalize wr.iter s 0 = wi at X6 MI BI ⊢
                    generalize wr.heap.size = X at X6 NX ⊢
                    go_loopg [] s.size (fun kq wr => ∃ (i : Nat), Hid (i + kq = s.size) ∧ Hid (wr.heap[X]? = some (.stringIter s i)) ∧ Hid (ancepslaw54_WordlistTree.Mp wr b (((ancepslaw54_WordlistTree.prefs s).take i).foldl ancepslaw54_WordlistTree.add ks)) ∧ Hid (Below w7.heap.size w7 wr))
                    case atStart => exact ⟨0, Lib.hid (by omega), X6, MI, BI⟩
                    case round =>
                      clear X6 MI BI
                      obtain ⟨i, HI, HX, MQ, BQ⟩ := hrel
                      cases gk with
                      | succ k2 =>
                        have hlt : i < s.size := by have := HI.out; omega
                        have hnx := fun ty => ancepslaw54_WordlistTree.next_at (P := Try.prog) wr X s i ty HX.out hlt (HAS.out i hlt)
                        have bt := Lib.hid (ancepslaw54_WordlistTree.turn_below (X := X) (s := s) (p2 := i + 1) BQ.out NX.out.2)
                        have xt := Lib.hid (ancepslaw54_WordlistTree.turn_heap (p2 := i + 1) HX.out)
                        have mt := MQ.out.keep (w' := ancepslaw54_WordlistTree.turn wr X s (i + 1)) (ancepslaw54_WordlistTree.turn_other (Nat.ne_of_lt NX.out.1))
                        generalize ancepslaw54_WordlistTree.turn wr X s (i + 1) = wt at hnx bt xt mt
                        obtain ⟨wu, hset, MU, hbu, hku⟩ := ancepslaw54_WordlistTree.set mt (s.extract 0 (i + 1))
                        have BU := Lib.hid (hbu w7.heap.size w7 (by rw [HBB.out]; exact Nat.le_refl _) bt.out)
                        have XU := Lib.hid ((hku X (Nat.ne_of_gt NX.out.1)).trans xt.out)
                        have y1 : wrap64 ((i : Int) + 1) = (i : Int) + 1 := by have := HSZ.out; unfold wrap64; omega
                        have y2 : IntKind.i64.wrap ((i : Int) + 1) = (i : Int) + 1 := (i64_w _).trans y1
                        have y3 := eq_true (show (0 : Int) ≤ (i : Int) + 1 by omega)
                        have y4 := eq_true (show (i : Int) + 1 ≤ (s.size : Int) by omega)
                        have y5 := eq_true (show i + 1 ≤ s.size by omega)
                        have y6 : ((i : Int) + 1).toNat = i + 1 := by omega
                        have hfold : ((ancepslaw54_WordlistTree.prefs s).take (i + 1)).foldl ancepslaw54_WordlistTree.add ks = ancepslaw54_WordlistTree.add (((ancepslaw54_WordlistTree.prefs s).take i).foldl ancepslaw54_WordlistTree.add ks) (s.extract 0 (i + 1)) := by
                          have hl : i < (ancepslaw54_WordlistTree.prefs s).length := by unfold ancepslaw54_WordlistTree.prefs; simp; exact hlt
                          rw [List.take_succ_eq_append_getElem hl, List.foldl_append]
                          have he : (ancepslaw54_WordlistTree.prefs s)[i] = s.extract 0 (i + 1) := (List.getElem_map _).trans (by rw [List.getElem_range])
                          rw [he]; rfl
                        rw [← hfold] at MU
                        have MU' := Lib.hid MU
                        clear hfold MU hbu hku bt xt mt
                        go_wp2_with (fail)
                        go_roundg k2
                        case measure => omega
                        case rel => exact ⟨i + 1, Lib.hid (by have := HI.out; omega), XU, MU', BU⟩
                      | zero =>
                        obtain rfl : i = s.size := by have := HI.out; omega
                        have hnx := fun ty => ancepslaw54_WordlistTree.next_end (P := Try.prog) wr X s s.size ty HX.out (Nat.lt_irrefl _)
                        have mq := MQ.out
                        rw [List.take_of_length_le (by unfold ancepslaw54_WordlistTree.prefs; simp), ← HKS.out] at mq
                        have hfold : (l0_0.take (j + 1)).foldl (fun ks s => (ancepslaw54_WordlistTree.prefs s).foldl ancepslaw54_WordlistTree.add ks) [⟨#[]⟩] = (ancepslaw54_WordlistTree.prefs s).foldl ancepslaw54_WordlistTree.add ((l0_0.take j).foldl (fun ks s => (ancepslaw54_WordlistTree.prefs s).foldl ancepslaw54_WordlistTree.add ks) [⟨#[]⟩]) := by
                          rw [List.take_add_one, HSG.out, List.foldl_append]; rfl
                        rw [← hfold] at mq
                        have MJ := Lib.hid mq
                        have hj2 := HJ2.out
                        have hj1 := HJ1.out
                        clear hfold mq
                        go_wp2_with (fail)
                        go_roundg k1
                        case measure => omega
                        case rel => exact ⟨j + 1, by first | rfl | (rw [hj1]; rfl) | simp, Lib.hid (by have := HJ.out; omega), MJ, BQ⟩
                  | zero =>
                    obtain rfl : j = l0_0.length := by have := HJ.out; omega
                    have b1' : decide ((l0_0.length : Int) < (l0_0.length : Int)) = false := decide_eq_false (by omega)
                    have mr := MR.out
                    rw [List.take_length] at mr
                    obtain ⟨es, clock, he1, he2⟩ := mr
                    have hes : es.size = (ancepslaw54_WordlistTree.all l0_0).length := by
                      have := congrArg List.length he2
                      simpa [ancepslaw54_WordlistTree.all] using this
                    have hlen : ∀ ty, (Builtin.len_ #[42] ty #[.map (some b)]).run Try.prog wr = .ok (.int .i64 ((ancepslaw54_WordlistTree.all l0_0).length : Int)) wr := by
                      intro ty
                      rw [← hes]
                      simp [Builtin.len_, run_underlying Try.underlying42, MapKept.run_getObj_map he1, goInt, Result.andThen]
                    have b2' : ((T1.length : Int) == ((ancepslaw54_WordlistTree.all l0_0).length : Int)) = true := beq_iff_eq.2 G7.out
                    have QR := Lib.hid (blk_below Q7.out BR.out)
                    have hcx := (blk_cell QR.out 0).trans (show _ = some (Value.slice A0_0 l0_0.length c0_0) from rfl)
                    clear he1 he2 hes MR
                    go_wp2_with (fail)
                    refine (wordlist_CheckTree.calls k A0_0 c0_0 l0_0 A5 c5 T1 r _ (Kd.C_below HR.out BWR.out) HC.out (Kd.C_below T7.out BR.out) T6c.out HK.out).mono ?_
                    rintro e w9 ⟨rfl, hb⟩
                    have B9 := Lib.hid (BWR.out.trans (hb.mono BWR.out.size))
                    clear hb hcx hlen
                    go_wp2_with (fail)
                    go_ret
                    exact ⟨rfl, B9.out⟩
              · cases h6
            · cases h6
          · rw [if_neg g2] at h6
            have H6 := Lib.hid h6
            have b1 : (e1 != 0) = true := by simp [g2]
            have b1' : (e1 == 0) = false := beq_eq_false_iff_ne.2 g2
            clear h6 g2
            go_wp2_with (fail)
            refine (ancepsref54_SameTree.calls k A5 c5 T1 A6 c6 U1 r _ (Kd.C_below T6.out (pw_below_drewN (Below.refl _ _) n7)) T6c.out (Kd.C_below S6.out.2.2 (pw_below_drewN (Below.refl _ _) n7)) S6.out.2.1 H6.out).mono ?_
            rintro e w8 ⟨rfl, n8, rfl⟩
            have B8 := Lib.hid (pw_below_drewN (pw_below_drewN B6.out n7) n8)
            go_wp2_with (fail)
            go_ret
            exact ⟨rfl, by rw [← World.drewN_drewN]; exact B8.out⟩
        | false => rw [if_neg Bool.false_ne_true] at h6; cases h6
      · rw [if_neg g1] at h5; cases h5
  · rw [if_neg e0] at h1; cases h1
theorem ancepslaw54_WordlistTree.walk (P : ancepslaw54_WordlistTree.Pure) (A0_0 : Option Addr) (c0_0 : Nat) (l0_0 : List ByteArray) (w : World) (hr0_0 : Kd.C Kd.string w A0_0 l0_0.length l0_0) (hc0_0 : l0_0.length ≤ c0_0) (hm0_0 : l0_0.length ≤ maxLen) (y0_0 : l0_0.length * 16 ≤ 140737488351232) (hw0_0 : ∀ x ∈ l0_0, x.size ≤ 140737488351232) :
    Calls Try.prog 5 #[.agg #[.slice A0_0 l0_0.length c0_0]] w fun e w' => e = .returned (.bool true) ∧ Below w.heap.size w w' := by
  obtain ⟨k, h⟩ := P l0_0 hm0_0 y0_0 hw0_0
  refine (ancepslaw54_WordlistTree.calls k _ _ l0_0 true w hr0_0 hc0_0 h).mono ?_
  rintro e w' ⟨rfl, hd⟩
  exact ⟨rfl, hd⟩

end Go.Proofs.Ytdaooagikacboaa.X
