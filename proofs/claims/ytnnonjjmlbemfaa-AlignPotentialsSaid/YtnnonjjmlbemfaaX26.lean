-- halved indents
-- printed by this session's xprint.py: out of the translation, by the kit's print with additions; Lean checks it
import Derived.Test.YtnnonjjmlbemfaaWN
import Derived.Test.YtnnonjjmlbemfaaWShare
import Derived.Test.YtnnonjjmlbemfaaWRepsOne
import Derived.Test.YtnnonjjmlbemfaaWGuard
import Derived.Test.YtnnonjjmlbemfaaWInv
import Derived.Test.YtnnonjjmlbemfaaX0
import Derived.Test.YtnnonjjmlbemfaaX2
import Derived.Test.YtnnonjjmlbemfaaX3
import Derived.Test.YtnnonjjmlbemfaaX4
import Derived.Test.YtnnonjjmlbemfaaX10
import Derived.Test.YtnnonjjmlbemfaaX16
namespace Go.Proofs.Ytnnonjjmlbemfaa.X
open Go.RowKit Go.Proofs.YtnnonjjmlbemfaaW.PrintWords Go.Proofs.YtnnonjjmlbemfaaW.PrintLast Go.Proofs.YtnnonjjmlbemfaaW.PrintMore
attribute [local go_sem] max2_int min2_int max_two min_two max_three min_three max_four min_four isSome_setCell binOp_gtr_str binOp_leq_str   -- for this text's walks alone
set_option linter.unusedVariables false
set_option linter.unusedSimpArgs false

/-! ### ancepsref45_Potentials: function 34 -/
def ancepsref45_Potentials.f (k : Nat) (a0 : ByteArray) (a1 : ByteArray) : Option ((List (List Int)) × Int) := (ancepsref45_Given.f k a0 a1).bind fun t473 => (if t473 = 0 then ((ancepsref45_table.f k a0 a1).bind fun t474 => (some (t474, 0))) else (some (([] : List (List Int)), t473)))
theorem ancepsref45_Potentials.mono : ∀ a0 a1 k, LeO (ancepsref45_Potentials.f k a0 a1) (ancepsref45_Potentials.f (k + 1) a0 a1) := by
 intro a0 a1 k
 unfold ancepsref45_Potentials.f
 repeat' first
   | (with_reducible exact ancepsref45_Given.mono _ _ _)
   | (with_reducible exact ancepsref45_table.mono _ _ _)
   | (with_reducible exact LeO.refl _)
   | (with_reducible exact LeO.none _)
   | (with_reducible refine LeO.ite ?_ ?_)
   | (with_reducible refine LeO.bind ?_ (fun _ => ?_))
   | exact ancepsref45_Given.mono _ _ _
   | exact ancepsref45_table.mono _ _ _
   | exact LeO.none _
   | refine LeO.ite ?_ ?_
   | refine LeO.bind ?_ (fun _ => ?_)
set_option maxHeartbeats 8000000 in
set_option maxRecDepth 100000 in
theorem ancepsref45_Potentials.calls (k : Nat) (a0 : ByteArray) (a1 : ByteArray) (r1 : List (List Int)) (r2 : Int) (w : World) (h : ancepsref45_Potentials.f k a0 a1 = some (r1, r2)) :
  Calls Try.prog 34 #[.string a0, .string a1] w fun e w' => ∃ v0_ : Value, e = .returned (.tuple #[v0_, .int .i64 r2]) ∧ Kd.S (Kd.slice 3 (Kd.int .i64)) 31 w' w.heap.size (fun _ => True) v0_ r1 ∧ Below w.heap.size w w' := by
 have HB := Aside0.mk (Below.refl w.heap.size w)
 have H : ((ancepsref45_Given.f k a0 a1).bind fun t473 => (if t473 = 0 then ((ancepsref45_table.f k a0 a1).bind fun t474 => (some (t474, 0))) else (some (([] : List (List Int)), t473)))) = some (r1, r2) := h
 clear h
 replace H := Option.bind_eq_some_iff.mp H
 obtain ⟨t473, A30, H⟩ := H
 replace H : (if t473 = 0 then ((ancepsref45_table.f k a0 a1).bind fun t474 => (some (t474, 0))) else (some (([] : List (List Int)), t473))) = some (r1, r2) := H
 have A3 := Aside0.mk A30
 clear A30
 by_cases c4 : t473 = 0
 ·rw [if_pos c4] at H
  have c4b0 : (t473 == 0) = true := beq_iff_eq.mpr c4
  have c4b1 : (t473 != 0) = false := bne_eq_false_iff_eq.mpr c4
  clear c4
  replace H := Option.bind_eq_some_iff.mp H
  obtain ⟨t474, A50, H⟩ := H
  replace H : (some (t474, 0)) = some (r1, r2) := H
  have A5 := Aside0.mk A50
  clear A50
  simp only [Option.some.injEq, Prod.mk.injEq] at H
  obtain ⟨rfl, rfl⟩ := H
  go_enter Try.func34, Try.ntmps34
  go_wp2_with (first | ((with_reducible refine gate_callee (f := 16) rfl ?_); refine goesL_ (some 9) rfl rfl Try.func16 (by kernel_rfl) rfl #[.string a0, .string a1] rfl (by (try simp only [List.map_toArray, List.map_cons, List.map_nil]); first | done | rfl | (simp only [List.length_drop, List.length_take]; rfl)) ?_; (with_reducible refine (ancepsref45_Given.calls k a0 a1 t473 _ A3.out).mono ?_); rintro e w' ⟨rfl, ⟨nd, rfl⟩⟩; refine ⟨_, rfl, ?_⟩) | ((with_reducible refine gate_callee (f := 46) rfl ?_); refine goesL_ (some 15) rfl rfl Try.func46 (by kernel_rfl) rfl #[.string a0, .string a1] rfl (by (try simp only [List.map_toArray, List.map_cons, List.map_nil]); first | done | rfl | (simp only [List.length_drop, List.length_take]; rfl)) ?_; (with_reducible refine (ancepsref45_table.calls k a0 a1 t474 _ A5.out).mono ?_); rintro e w6 ⟨v475, rfl, ho0, hb⟩; refine ⟨_, rfl, ?_⟩; have n0_ := Aside0.mk (Kd.S_lower ho0 (below_size (by repeat (first | (with_reducible first | exact HB.out | apply below_alloc | apply pw_below_drewN | apply below_drew1) | exact HB.out)))); have n1_ := Aside0.mk (below_step (by repeat (first | (with_reducible first | exact HB.out | apply below_alloc | apply pw_below_drewN | apply below_drew1) | exact HB.out)) hb); clear HB; have HO476 := n0_; have HB := n1_; clear n0_ n1_; (try clear hb); (try clear hb2); (try clear hk); (try clear hi); (try clear ho0)))
  go_ret2
  exact ⟨_, by first | rfl | (simp [errW_none, errW_some] <;> rfl) | (simp [*, errW_none, errW_some] <;> rfl), by (with_reducible repeat (first | apply Kd.S_alloc | apply Kd.S_drewN | apply Kd.S_drew)); exact HO476.out, by repeat (first | (with_reducible first | exact HB.out | apply below_alloc | apply pw_below_drewN | apply below_drew1) | exact HB.out)⟩
 ·rw [if_neg c4] at H
  have c4b0 : (t473 == 0) = false := beq_eq_false_iff_ne.mpr c4
  have c4b1 : (t473 != 0) = true := bne_iff_ne.mpr c4
  simp only [Option.some.injEq, Prod.mk.injEq] at H
  obtain ⟨rfl, rfl⟩ := H
  go_enter Try.func34, Try.ntmps34
  go_wp2_with (first | ((with_reducible refine gate_callee (f := 16) rfl ?_); refine goesL_ (some 9) rfl rfl Try.func16 (by kernel_rfl) rfl #[.string a0, .string a1] rfl (by (try simp only [List.map_toArray, List.map_cons, List.map_nil]); first | done | rfl | (simp only [List.length_drop, List.length_take]; rfl)) ?_; (with_reducible refine (ancepsref45_Given.calls k a0 a1 t473 _ A3.out).mono ?_); rintro e w' ⟨rfl, ⟨nd, rfl⟩⟩; refine ⟨_, rfl, ?_⟩))
  go_ret2
  exact ⟨_, by first | rfl | (simp [errW_none, errW_some] <;> rfl) | (simp [*, errW_none, errW_some] <;> rfl), by first | exact Kd.S_nil _ _ _ _ _ | exact Kd.N_nil _ _ _ _ _ | exact Kd.V_nil _ _ _ _ _ | exact Kd.Q_nil _ _ _ _ _ | exact Kd.R_nil _ _ _ _ _, by repeat (first | (with_reducible first | exact HB.out | apply below_alloc | apply pw_below_drewN | apply below_drew1) | exact HB.out)⟩

/-! ### align_capped: function 54 -/
def align_capped.f (a0 : Int) (a1 : Int) : Option (Int) := if a0 > (wrap64 (4611686018427387904 - a1)) then (some 4611686018427387905) else (some (wrap64 (a0 + a1)))
set_option maxHeartbeats 8000000 in
set_option maxRecDepth 100000 in
theorem align_capped.calls (a0 : Int) (a1 : Int) (r : Int) (w : World) (h : align_capped.f a0 a1 = some r) :
  Calls Try.prog 54 #[.int .i64 a0, .int .i64 a1] w fun e w' => e = .returned (.int .i64 r) ∧ Drawn0 w w' := by
 have H : (if a0 > (wrap64 (4611686018427387904 - a1)) then (some 4611686018427387905) else (some (wrap64 (a0 + a1)))) = some r := h
 clear h
 by_cases c3 : a0 > (wrap64 (4611686018427387904 - a1))
 ·rw [if_pos c3] at H
  have c3b0 : decide ((wrap64 (4611686018427387904 - a1)) < a0) = true := decide_eq_true c3
  clear c3
  obtain rfl := Option.some.inj H
  go_enter Try.func54, Try.ntmps54
  go_wp2
  go_ret
  exact ⟨by first | rfl | (simp; done) | (simp [*]; done), by repeat (first | exact Drawn0.refl _ | apply Drawn0.step)⟩
 ·rw [if_neg c3] at H
  have c3b0 : decide ((wrap64 (4611686018427387904 - a1)) < a0) = false := decide_eq_false c3
  clear c3
  obtain rfl := Option.some.inj H
  go_enter Try.func54, Try.ntmps54
  go_wp2
  go_ret
  exact ⟨by first | rfl | (simp; done) | (simp [*]; done), by repeat (first | exact Drawn0.refl _ | apply Drawn0.step)⟩

/-! ### align_Count: function 35 -/
/-- what a map keyed by places, of numbers, holds: a number for each key; each entry once -/
abbrev align_Count.K (i j : Int) : Value := .agg #[.int .i64 i, .int .i64 j]
def align_Count.Mp (w : World) (b : Nat) (F : Int → Int → Int) : Prop := ∃ (es : Array MapEntry) (clock : Nat), w.heap[b]? = some (.map es clock) ∧
 (∀ e ∈ es.toList, ∃ i j, e.key = align_Count.K i j ∧ e.val = .int .i64 (F i j)) ∧ (∀ i j, F i j ≠ 0 → ∃ e ∈ es.toList, e.key = align_Count.K i j) ∧ (es.toList.map (·.key)).Nodup
theorem align_Count.K_inj {i j i' j' : Int} (h : align_Count.K i j = align_Count.K i' j') : i = i' ∧ j = j' := by
 unfold align_Count.K at h
 simpa using h
def align_Count.up (F : Int → Int → Int) (i j v : Int) : Int → Int → Int := fun a c => if a = i ∧ c = j then v else F a c
theorem align_Count.Mp.keep {w w' : World} {b : Nat} {F : Int → Int → Int} (h : align_Count.Mp w b F) (hb : w'.heap[b]? = w.heap[b]?) : align_Count.Mp w' b F := by
 obtain ⟨es, clock, h1, h2⟩ := h
 exact ⟨es, clock, hb.trans h1, h2⟩
theorem align_Count.Mp.lt {w : World} {b : Nat} {F : Int → Int → Int} (h : align_Count.Mp w b F) : b < w.heap.size := by
 obtain ⟨es, clock, h1, h2⟩ := h
 exact (Array.getElem?_eq_some_iff.1 h1).1
theorem align_Count.check (w : World) (em : Bool) (i j : Int) : (Instr.checkKey em 10000 60 (align_Count.K i j)).run Try.prog w = .ok () w := by
 unfold align_Count.K
 rw [show (10000 : Nat) = 9998 + 1 + 1 from rfl, Instr.checkKey]
 simp only [Sem.run_bind, run_underlying Try.underlying60, Result.andThen_ok]
 rw [← Array.forIn_toList]
 have hq : ∀ n x, (Instr.checkKey em (n + 1) 3 (.int .i64 x)).run Try.prog w = .ok () w := fun n x => by
  simp [Instr.checkKey, run_underlying Try.underlying3, Result.andThen]
 have p0 : (part 3 #[Value.int .i64 i, Value.int .i64 j] 0).run Try.prog w = .ok (.int .i64 i) w := by go_simp
 have p1 : (part 3 #[Value.int .i64 i, Value.int .i64 j] 1).run Try.prog w = .ok (.int .i64 j) w := by go_simp
 simp [hq, p0, p1, Result.andThen]
open Classical in
/-- the place of an entry with the key, in a list -/
noncomputable def align_Count.find (i j : Int) : List MapEntry → Nat → Option (Nat × Value)
 | [], _ => none
 | e :: es, n => if e.key = align_Count.K i j then some (n, e.val) else align_Count.find i j es (n + 1)
theorem align_Count.asking (w : World) (i j : Int) : ∀ (es : List MapEntry) (n : Nat), (∀ e ∈ es, ∃ a c, e.key = align_Count.K a c) → (Instr.findAsking 60 (align_Count.K i j) es n).run Try.prog w = .ok (align_Count.find i j es n) w
 | [], n, _ => by unfold Instr.findAsking align_Count.find; rfl
 | e :: es, n, h => by
  obtain ⟨a, c, hk⟩ := h e (List.mem_cons_self ..)
  have ih := align_Count.asking w i j es (n + 1) (fun e he => h e (List.mem_cons_of_mem _ he))
  have he : (Op.equal 60 (align_Count.K i j) e.key).run Try.prog w = .ok (i == a && (j == c)) w := by
   rw [hk]
   exact eqA60 _ w i a j c
  unfold Instr.findAsking align_Count.find
  rw [Sem.run_bind, he, Result.andThen_ok]
  by_cases hh : e.key = align_Count.K i j
  ·rw [if_pos hh]
   rw [hk] at hh
   obtain ⟨rfl, rfl⟩ := align_Count.K_inj hh
   simp [Sem.run]
  ·rw [if_neg hh]
   have : (i == a && (j == c)) = false := by
    rw [Bool.and_eq_false_iff, beq_eq_false_iff_ne, beq_eq_false_iff_ne]
    by_cases h1 : i = a
    ·refine .inr fun h2 => hh ?_
     rw [hk, h1, h2]
    ·exact .inl h1
   rw [this]
   simpa using ih
theorem align_Count.finds (w : World) (i j : Int) (es : List MapEntry) (h : ∀ e ∈ es, ∃ a c, e.key = align_Count.K a c) : (Instr.findKey 60 (align_Count.K i j) es).run Try.prog w = .ok (align_Count.find i j es 0) w := by
 unfold Instr.findKey
 rw [Sem.run_bind, run_underlying Try.underlying60, Result.andThen_ok]
 cases es with
 | nil => rfl
 | cons e r =>
  obtain ⟨a, c, hk⟩ := h e (List.mem_cons_self ..)
  have := align_Count.asking w i j (e :: r) 0 h
  simpa [Instr.findNow, Instr.sameNow] using this
theorem align_Count.find_spec (i j : Int) : ∀ (es : List MapEntry) (n : Nat), (align_Count.find i j es n = none ∧ ∀ e ∈ es, e.key ≠ align_Count.K i j) ∨ ∃ m e, align_Count.find i j es n = some (n + m, e.val) ∧ es[m]? = some e ∧ e.key = align_Count.K i j
 | [], n => .inl ⟨rfl, fun e h => by cases h⟩
 | e :: es, n => by
  unfold align_Count.find
  by_cases h : e.key = align_Count.K i j
  ·rw [if_pos h]; exact .inr ⟨0, e, rfl, rfl, h⟩
  ·rw [if_neg h]
   rcases align_Count.find_spec i j es (n + 1) with ⟨h1, h2⟩ | ⟨m, e', h1, h2, h3⟩
   ·exact .inl ⟨h1, fun x hx => by
     rcases List.mem_cons.1 hx with rfl | hx
     ·exact h
     ·exact h2 x hx⟩
   ·exact .inr ⟨m + 1, e', by rw [h1, show n + 1 + m = n + (m + 1) by omega], h2, h3⟩
theorem align_Count.look {w : World} {b : Nat} {F : Int → Int → Int} (h : align_Count.Mp w b F) (i j : Int) : (Instr.lookup 80 (.map (some b)) (align_Count.K i j) false).run Try.prog w = .ok (.int .i64 (F i j)) w := by
 obtain ⟨es, clock, hb, h1, h2, h3⟩ := h
 have hf := align_Count.finds w i j es.toList (fun e he => by obtain ⟨a, c, hk, _⟩ := h1 e he; exact ⟨a, c, hk⟩)
 have hc := align_Count.check w es.isEmpty i j
 have hz : (zeroValue 2).run Try.prog w = .ok (.int .i64 0) w := by go_simp
 rcases align_Count.find_spec i j es.toList 0 with ⟨e1, e2⟩ | ⟨m, e, e1, e2, e3⟩
 ·have hF : F i j = 0 := by
   by_cases x : F i j = 0
   ·exact x
   ·obtain ⟨e, he, hk⟩ := h2 i j x
    exact absurd hk (e2 e he)
  rw [e1] at hf
  simp [Instr.lookup, run_underlying Try.underlying80, Go.MapKept.run_getObj_map hb, hc, hf, hz, hF, Result.andThen]
 ·rw [e1] at hf
  obtain ⟨a, c, hk, hv⟩ := h1 e (List.mem_of_getElem? e2)
  rw [hk] at e3
  obtain ⟨rfl, rfl⟩ := align_Count.K_inj e3
  simp [Instr.lookup, run_underlying Try.underlying80, Go.MapKept.run_getObj_map hb, hc, hf, hv, Result.andThen]
theorem align_Count.stays (w : World) (i j : Int) : (Instr.keyThatStays (align_Count.K i j) (align_Count.K i j)).run Try.prog w = .ok (align_Count.K i j) w := by
 have : Instr.sameBits 10000 (align_Count.K i j) (align_Count.K i j) = true := by
  unfold align_Count.K
  rw [show (10000 : Nat) = 9998 + 1 + 1 from rfl]
  simp [Instr.sameBits]
 unfold Instr.keyThatStays
 rw [if_pos this]
 rfl
theorem align_Count.set {w : World} {b : Nat} {F : Int → Int → Int} (h : align_Count.Mp w b F) (i j v : Int) : ∃ o, (Instr.mapUpdate 80 (.map (some b)) (align_Count.K i j) (.int .i64 v)).run Try.prog w = .ok () { w with heap := w.heap.setIfInBounds b o } ∧ align_Count.Mp { w with heap := w.heap.setIfInBounds b o } b (align_Count.up F i j v) := by
 have hlt := h.lt
 obtain ⟨es, clock, hb, h1, h2, h3⟩ := h
 have hf := align_Count.finds w i j es.toList (fun e he => by obtain ⟨a, c, hk, _⟩ := h1 e he; exact ⟨a, c, hk⟩)
 have hc := align_Count.check w false i j
 rcases align_Count.find_spec i j es.toList 0 with ⟨e1, e2⟩ | ⟨m, e, e1, e2, e3⟩
 ·rw [e1] at hf
  refine ⟨.map (es.push { key := align_Count.K i j, val := .int .i64 v, born := clock }) (clock + 1), ?_, es.push { key := align_Count.K i j, val := .int .i64 v, born := clock }, clock + 1, ?_, ?_, ?_, ?_⟩
  ·simp [Instr.mapUpdate, run_underlying Try.underlying80, Go.MapKept.run_getObj_map hb, hc, hf, Go.MapKept.run_setObj_map _ hb, Result.andThen]
  ·simp [Array.getElem?_setIfInBounds, hlt]
  ·intro x hx
   rw [Array.toList_push, List.mem_append] at hx
   rcases hx with hx | hx
   ·obtain ⟨a, c, hk, hv⟩ := h1 x hx
    refine ⟨a, c, hk, ?_⟩
    unfold align_Count.up
    rw [if_neg, hv]
    rintro ⟨rfl, rfl⟩
    exact e2 x hx hk
   ·obtain rfl := List.mem_singleton.1 hx
    refine ⟨i, j, rfl, ?_⟩
    unfold align_Count.up
    rw [if_pos ⟨rfl, rfl⟩]
  ·intro a c hac
   rw [Array.toList_push]
   by_cases hh : a = i ∧ c = j
   ·exact ⟨_, List.mem_append_right _ (List.mem_singleton.2 rfl), by rw [hh.1, hh.2]⟩
   ·unfold align_Count.up at hac
    rw [if_neg hh] at hac
    obtain ⟨x, hx, hk⟩ := h2 a c hac
    exact ⟨x, List.mem_append_left _ hx, hk⟩
  ·rw [Array.toList_push, List.map_append, List.nodup_append]
   refine ⟨h3, by simp, fun x hx y hy => ?_⟩
   obtain ⟨z, hz, rfl⟩ := List.mem_map.1 hx
   obtain rfl := List.mem_singleton.1 hy
   exact e2 z hz
 ·rw [e1, Nat.zero_add] at hf
  have hm : m < es.size := by have := (List.getElem?_eq_some_iff.1 e2).1; simpa using this
  have hem : es[m]? = some e := by rw [← e2, Array.getElem?_toList]
  refine ⟨.map (es.modify m fun x => { x with key := align_Count.K i j, val := .int .i64 v }) clock, ?_, es.modify m fun x => { x with key := align_Count.K i j, val := .int .i64 v }, clock, ?_, ?_, ?_, ?_⟩
  ·simp [Instr.mapUpdate, run_underlying Try.underlying80, Go.MapKept.run_getObj_map hb, hc, hf, hem, e3, align_Count.stays, Go.MapKept.run_setObj_map _ hb, Result.andThen]
  ·simp [Array.getElem?_setIfInBounds, hlt]
  ·intro x hx
   rw [Array.toList_modify] at hx
   obtain ⟨n, hn⟩ := List.getElem?_of_mem hx
   rw [List.getElem?_modify] at hn
   by_cases hmn : m = n
   ·subst hmn
    rw [e2] at hn
    simp only [if_pos, Option.map_eq_map, Option.map_some, Option.some.injEq] at hn
    subst hn
    refine ⟨i, j, rfl, ?_⟩
    unfold align_Count.up
    rw [if_pos ⟨rfl, rfl⟩]
   ·have hn' : es.toList[n]? = some x := by
     cases hq : es.toList[n]? with
     | none => rw [hq] at hn; cases hn
     | some y => rw [hq] at hn; simpa [hmn] using hn
    obtain ⟨a, c, hk, hv⟩ := h1 x (List.mem_of_getElem? hn')
    refine ⟨a, c, hk, ?_⟩
    unfold align_Count.up
    rw [if_neg, hv]
    rintro ⟨rfl, rfl⟩
    refine hmn ((List.getElem?_inj (by rw [List.length_map]; simpa using hm) h3).1 ?_)
    rw [List.getElem?_map, List.getElem?_map, e2, hn', Option.map_some, Option.map_some, e3, hk]
  ·intro a c hac
   rw [Array.toList_modify]
   by_cases hh : a = i ∧ c = j
   ·refine ⟨{ e with key := align_Count.K i j, val := .int .i64 v }, List.mem_of_getElem? (i := m) ?_, by rw [hh.1, hh.2]⟩
    rw [List.getElem?_modify, e2]; simp
   ·unfold align_Count.up at hac
    rw [if_neg hh] at hac
    obtain ⟨x, hx, hk⟩ := h2 a c hac
    obtain ⟨n, hn⟩ := List.getElem?_of_mem hx
    have hmn : m ≠ n := by
     rintro rfl
     rw [e2] at hn
     obtain rfl := Option.some.inj hn
     rw [e3] at hk
     obtain ⟨rfl, rfl⟩ := align_Count.K_inj hk
     exact hh ⟨rfl, rfl⟩
    refine ⟨x, List.mem_of_getElem? (i := n) ?_, hk⟩
    rw [List.getElem?_modify, hn]; simp [hmn]
  ·have : (es.toList.modify m fun x => { x with key := align_Count.K i j, val := .int .i64 v }).map (·.key) = es.toList.map (·.key) := by
    refine List.ext_getElem? fun n => ?_
    rw [List.getElem?_map, List.getElem?_map, List.getElem?_modify]
    by_cases hmn : m = n
    ·subst hmn
     rw [e2]; simp [e3]
    ·cases es.toList[n]? <;> simp [hmn]
   rw [Array.toList_modify, this]
   exact h3
theorem align_Count.Mp_new (w : World) : align_Count.Mp (w.alloc (.map #[] 0)) w.heap.size (fun _ _ => 0) :=
 ⟨#[], 0, blk_new w _, fun e h => by simp at h, fun i j h => absurd rfl h, by simp⟩
theorem align_Count.put {w : World} {b : Nat} {F : Int → Int → Int} (h : align_Count.Mp w b F) (i j v : Int) : ∃ w', (Instr.mapUpdate 80 (.map (some b)) (.agg #[.int .i64 i, .int .i64 j]) (.int .i64 v)).run Try.prog w = .ok () w' ∧ align_Count.Mp w' b (align_Count.up F i j v) ∧ (∀ B w0, B ≤ b → Below B w0 w → Below B w0 w') ∧ ∀ k, k ≠ b → w'.heap[k]? = w.heap[k]? := by
 obtain ⟨o, h1, h2⟩ := align_Count.set h i j v
 refine ⟨_, h1, h2, fun B w0 hB hb => ⟨hb.os, hb.tape, hb.output, by have := hb.size; simpa using this, fun k hk => ?_⟩, fun k hk => ?_⟩
 ·show (w.heap.setIfInBounds b o)[k]? = _
  rw [Array.getElem?_setIfInBounds, if_neg (by omega)]
  exact hb.block k hk
 ·show (w.heap.setIfInBounds b o)[k]? = _
  rw [Array.getElem?_setIfInBounds, if_neg (by omega)]
mutual
def align_Count.l1 : Nat → ByteArray → ByteArray → List (List Int) → Int → (Int → Int → Int) → Option (Int × Int)
 | 0, _, _, _, _, _ => none
 | k + 1, p, q, g, i, F => if i ≥ 0 then align_Count.l2 k p q g i (q.size : Int) F else (if F 0 0 ≤ 4611686018427387904 then some (F 0 0, 0) else some (0, 3))
def align_Count.l2 : Nat → ByteArray → ByteArray → List (List Int) → Int → Int → (Int → Int → Int) → Option (Int × Int)
 | 0, _, _, _, _, _, _ => none
 | k + 1, p, q, g, i, j, F => if j ≥ 0 then align_Count.l3 k p q g i j 0 F else align_Count.l1 k p q g (wrap64 (i - 1)) F
def align_Count.l3 : Nat → ByteArray → ByteArray → List (List Int) → Int → Int → Int → (Int → Int → Int) → Option (Int × Int)
 | 0, _, _, _, _, _, _, _ => none
 | k + 1, p, q, g, i, j, s, F => if s < 5 then ((align_step.f k p q i j s).bind fun t => (if t.2.2.2 = true then (if ((0 ≤ t.1 ∧ t.1 < (g.length : Int)) ∧ (0 ≤ t.2.1 ∧ t.2.1 < ((rd_L2 g t.1).length : Int))) ∧ (0 ≤ i ∧ i < (g.length : Int)) ∧ (0 ≤ j ∧ j < ((rd_L2 g i).length : Int)) then (if wrap64 (t.2.2.1 + rd (rd_L2 g t.1) t.2.1) = rd (rd_L2 g i) j then ((align_capped.f (F i j) (F t.1 t.2.1)).bind fun v => align_Count.l3 k p q g i j (wrap64 (s + 1)) (align_Count.up F i j v)) else align_Count.l3 k p q g i j (wrap64 (s + 1)) F) else none) else align_Count.l3 k p q g i j (wrap64 (s + 1)) F)) else align_Count.l2 k p q g i (wrap64 (j - 1)) F
end
def align_Count.f (k : Nat) (p q : ByteArray) : Option (Int × Int) := (align_given.f k p q).bind fun e => if e = 0 then ((align_grid.f k p q).bind fun g => align_Count.l1 k p q g (p.size : Int) (align_Count.up (fun _ _ => 0) (p.size : Int) (q.size : Int) 1)) else some (0, e)
theorem align_Count.mono_l : ∀ k, (∀ y0 y1 y2 y3 y4, LeO (align_Count.l1 k y0 y1 y2 y3 y4) (align_Count.l1 (k + 1) y0 y1 y2 y3 y4)) ∧ (∀ y0 y1 y2 y3 y4 y5, LeO (align_Count.l2 k y0 y1 y2 y3 y4 y5) (align_Count.l2 (k + 1) y0 y1 y2 y3 y4 y5)) ∧ (∀ y0 y1 y2 y3 y4 y5 y6, LeO (align_Count.l3 k y0 y1 y2 y3 y4 y5 y6) (align_Count.l3 (k + 1) y0 y1 y2 y3 y4 y5 y6))
 | 0 => ⟨fun _ _ _ _ _ r h => by simp [align_Count.l1] at h, fun _ _ _ _ _ _ r h => by simp [align_Count.l2] at h, fun _ _ _ _ _ _ _ r h => by simp [align_Count.l3] at h⟩
 | k + 1 => by
  obtain ⟨ih1, ih2, ih3⟩ := align_Count.mono_l k
  refine ⟨?_, ?_, ?_⟩
  ·intro y0 y1 y2 y3 y4
   rw [align_Count.l1, align_Count.l1]
   exact LeO.ite (ih2 _ _ _ _ _ _) (LeO.refl _)
  ·intro y0 y1 y2 y3 y4 y5
   rw [align_Count.l2, align_Count.l2]
   exact LeO.ite (ih3 _ _ _ _ _ _ _) (ih1 _ _ _ _ _)
  ·intro y0 y1 y2 y3 y4 y5 y6
   rw [align_Count.l3, align_Count.l3]
   exact LeO.ite (LeO.bind (align_step.mono _ _ _ _ _ _) fun _ => LeO.ite (LeO.ite (LeO.ite (LeO.bind (LeO.refl _) fun _ => ih3 _ _ _ _ _ _ _) (ih3 _ _ _ _ _ _ _)) (LeO.refl _)) (ih3 _ _ _ _ _ _ _)) (ih2 _ _ _ _ _ _)
theorem align_Count.mono : ∀ a0 a1 k, LeO (align_Count.f k a0 a1) (align_Count.f (k + 1) a0 a1) := by
 intro a0 a1 k
 unfold align_Count.f
 exact LeO.bind (align_given.mono _ _ _) fun _ => LeO.ite (LeO.bind (align_grid.mono _ _ _) fun _ => (align_Count.mono_l k).1 _ _ _ _ _) (LeO.refl _)
set_option pp.deepTerms true in
set_option pp.maxSteps 1000000 in
set_option maxHeartbeats 4000000 in
set_option maxRecDepth 100000 in
theorem align_Count.calls (k : Nat) (a0 : ByteArray) (a1 : ByteArray) (r1 r2 : Int) (w : World) (h : align_Count.f k a0 a1 = some (r1, r2)) :
  Calls Try.prog 35 #[.string a0, .string a1] w fun e w' => e = .returned (.tuple #[.int .i64 r1, .int .i64 r2]) ∧ Below w.heap.size w w' := by
 have hu60 := Try.underlying60
 unfold align_Count.f at h
 obtain ⟨e, he, h1⟩ := Option.bind_eq_some_iff.1 h
 clear h
 have HG := Lib.hid (fun W => align_given.calls k a0 a1 e W he)
 clear he
 by_cases c0 : e = 0
 ·subst c0
  rw [if_pos rfl] at h1
  obtain ⟨g, hg, h2⟩ := Option.bind_eq_some_iff.1 h1
  have HR := Lib.hid (fun W => align_grid.calls k a0 a1 g W hg)
  have H2 := Lib.hid h2
  clear h1 h2 hg
  go_enter Try.func35, Try.ntmps35
  go_wp2_with (fail)
  refine (HG.out _).mono ?_
  (first | rintro e w1 rfl hb | rintro e w1 ⟨rfl, hb⟩)
  have B1 := Lib.hid hb
  clear hb
  go_wp2_with (fail)
  refine (HR.out _).mono ?_
  rintro e w2 ⟨v0, rfl, hS, hb⟩
  have B2 := Lib.hid (B1.out.trans (hb.mono B1.out.size))
  clear hb
  obtain ⟨A, c, hc, hC⟩ : ∃ A c, v0 = .slice A g.length c ∧ (Kd.slice 3 (Kd.int .i64)).C w2 A g.length g := by
   obtain ⟨A, c, rfl⟩ := Kd.S_slice hS
   obtain ⟨_, _, h2⟩ := Kd.S_reads' hS
   exact ⟨A, c, rfl, h2⟩
  subst hc
  have HC := Lib.hid hC
  clear hS hC
  have M0 := align_Count.Mp_new w2
  have b2 : Below w2.heap.size w2 (w2.alloc (.map #[] 0)) := below_alloc (Below.refl _ _) _
  obtain ⟨w3, hset, M1, hb3, _⟩ := align_Count.put M0 (a0.size : Int) (a1.size : Int) 1
  have B3 := Lib.hid (hb3 _ _ (Nat.le_refl _) b2)
  have M3 := Lib.hid M1
  have hmk : (Instr.makeMap 80 none).run Try.prog w2 = .ok (.map (some w2.heap.size)) (w2.alloc (.map #[] 0)) := rfl
  clear M0 M1 hb3 b2
  go_wp2_with (fail)
  clear hset hmk HG HR
  go_loopg [9] k (fun kq v9 wr => ∃ (i : Int) (F : Int → Int → Int), v9 = .int .i64 i ∧ Hid (align_Count.l1 kq a0 a1 g i F = some (r1, r2)) ∧ Hid (kq ≤ k) ∧ Hid (align_Count.Mp wr w2.heap.size F) ∧ Hid (Below w2.heap.size w2 wr))
  case atStart => exact ⟨(a0.size : Int), _, rfl, H2, Lib.hid (Nat.le_refl _), M3, B3⟩
  case round =>
   clear M3 B3 H2
   obtain ⟨i, F, rfl, HA, HK1, HM, HB⟩ := hrel
   cases gk with
   | zero => exact absurd HA.out (by simp [align_Count.l1])
   | succ k1 =>
    have H := HA.out
    clear HA
    rw [align_Count.l1] at H
    by_cases c1 : i ≥ 0
    ·rw [if_pos c1] at H
     have b1 : decide (0 ≤ i) = true := decide_eq_true c1
     have HH := Lib.hid H
     clear H c1
     go_wp2_with (fail)
     go_loopg [10] k1 (fun kq v10 wq => ∃ (j : Int) (F : Int → Int → Int), v10 = .int .i64 j ∧ Hid (align_Count.l2 kq a0 a1 g i j F = some (r1, r2)) ∧ Hid (kq ≤ k1) ∧ Hid (align_Count.Mp wq w2.heap.size F) ∧ Hid (Below w2.heap.size w2 wq))
     case atStart => exact ⟨(a1.size : Int), F, rfl, HH, Lib.hid (Nat.le_refl _), HM, HB⟩
     case round =>
      clear HM HB HH
      obtain ⟨j, F2, rfl, HA, HK2, HM, HB⟩ := hrel
      cases gk with
      | zero => exact absurd HA.out (by simp [align_Count.l2])
      | succ k2 =>
       have H := HA.out
       clear HA
       rw [align_Count.l2] at H
       by_cases c2 : j ≥ 0
       ·rw [if_pos c2] at H
        have b2 : decide (0 ≤ j) = true := decide_eq_true c2
        have HH := Lib.hid H
        clear H c2
        go_wp2_with (first | ((with_reducible refine gate_dst (N := 11) rfl ?_); (try (refine gate_guard (by rfl) ?_; dsimp only)); refine box_event ?hg (N := 11) ?hd (cs := #[.int .i64 0, .int .i64 0]) (t := 60) ?hr ?_; (case hd => rfl); (case hg => rfl); (case hr => first | (go_simp; done) | (go_simp; rfl)); intro ga hga w4 hbox hbb; have hcz0 : w4.cell? ⟨ga, 0, none⟩ = some (.int .i64 0) := (blk_cell hbox 0).trans rfl; have hcz1 : w4.cell? ⟨ga, 1, none⟩ = some (.int .i64 0) := (blk_cell hbox 1).trans rfl; have hfz0 := blk_frozen hbox 0; have hfz1 := blk_frozen hbox 1; have GA := Lib.hid (show w2.heap.size ≤ ga ∧ ga ≠ w2.heap.size by have := HM.out.lt; omega); have MA := Lib.hid (HM.out.keep (hbb.block _ HM.out.lt)); have BA := Lib.hid hbox; have BB := Lib.hid (HB.out.trans (hbb.mono HB.out.size)); clear hga hbox hbb))
        have BA2 := Lib.hid (blk_put (blk_put BA.out 0 (.int .i64 i) rfl) 1 (.int .i64 j) rfl)
        have BB2 := Lib.hid (below_set (below_set BB.out GA.out.1 (j := 0) (v := .int .i64 i)) GA.out.1 (j := 1) (v := .int .i64 j))
        have MA2 := Lib.hid (MA.out.keep (w' := (w4.setCell ⟨ga, 0, none⟩ (.int .i64 i)).setCell ⟨ga, 1, none⟩ (.int .i64 j)) ((Below.heap_setCell _ _ _ _ (fun e => GA.out.2 e.symm)).trans (Below.heap_setCell _ _ _ _ (fun e => GA.out.2 e.symm))))
        clear BA BB MA hcz0 hcz1 hfz0 hfz1
        generalize (w4.setCell ⟨ga, 0, none⟩ (.int .i64 i)).setCell ⟨ga, 1, none⟩ (.int .i64 j) = w5 at BA2 BB2 MA2 ⊢
        go_loopg [48] k2 (fun kq v48 wq => ∃ (s : Int) (F : Int → Int → Int), v48 = .int .i64 s ∧ Hid (align_Count.l3 kq a0 a1 g i j s F = some (r1, r2)) ∧ Hid (kq ≤ k2) ∧ Hid (align_Count.Mp wq w2.heap.size F) ∧ Hid (wq.heap[ga]? = some (.cells #[.int .i64 i, .int .i64 j] 60 (0, 0))) ∧ Hid (Below w2.heap.size w2 wq))
        case atStart => exact ⟨0, F2, rfl, HH, Lib.hid (Nat.le_refl _), MA2, BA2, BB2⟩
        case round =>
         clear HM HB HH MA2 BA2 BB2
         obtain ⟨s, F3, rfl, HA, HK3, HM, HGA, HB⟩ := hrel
         cases gk with
         | zero => exact absurd HA.out (by simp [align_Count.l3])
         | succ k3 =>
          have H := HA.out
          clear HA
          rw [align_Count.l3] at H
          have hcz0 : wr.cell? ⟨ga, 0, none⟩ = some (.int .i64 i) := (blk_cell HGA.out 0).trans rfl
          have hcz1 : wr.cell? ⟨ga, 1, none⟩ = some (.int .i64 j) := (blk_cell HGA.out 1).trans rfl
          by_cases c3 : s < 5
          ·rw [if_pos c3] at H
           have b3 : decide (s < 5) = true := decide_eq_true c3
           obtain ⟨⟨x, y, cst, ok⟩, hst, H2⟩ := Option.bind_eq_some_iff.1 H
           have HST := Lib.hid (fun W => align_step.calls k3 a0 a1 i j s x y cst ok W hst)
           have HH := Lib.hid (show (if ok = true then (if ((0 ≤ x ∧ x < (g.length : Int)) ∧ (0 ≤ y ∧ y < ((rd_L2 g x).length : Int))) ∧ (0 ≤ i ∧ i < (g.length : Int)) ∧ (0 ≤ j ∧ j < ((rd_L2 g i).length : Int)) then (if wrap64 (cst + rd (rd_L2 g x) y) = rd (rd_L2 g i) j then ((align_capped.f (F3 i j) (F3 x y)).bind fun v => align_Count.l3 k3 a0 a1 g i j (wrap64 (s + 1)) (align_Count.up F3 i j v)) else align_Count.l3 k3 a0 a1 g i j (wrap64 (s + 1)) F3) else none) else align_Count.l3 k3 a0 a1 g i j (wrap64 (s + 1)) F3) = some (r1, r2) from H2)
           clear H H2 hst c3
           go_wp2_with (fail)
           refine (HST.out _).mono ?_
           (first | rintro e w6 rfl hb | rintro e w6 ⟨rfl, hb⟩)
           have M6 := Lib.hid (HM.out.keep (hb.block _ HM.out.lt))
           have A6 := Lib.hid (show w6.heap[ga]? = some (.cells #[.int .i64 i, .int .i64 j] 60 (0, 0)) from (hb.block _ (blk_lt HGA.out)).trans HGA.out)
           have B6 := Lib.hid (HB.out.trans (hb.mono HB.out.size))
           clear hb hcz0 hcz1 HM HGA HB HST
           go_wp2_with (first | ((with_reducible refine gate_dst (N := 13) rfl ?_); (try (refine gate_guard (by rfl) ?_; dsimp only)); refine box_event ?hg (N := 13) ?hd (cs := #[.int .i64 0, .int .i64 0]) (t := 60) ?hr ?_; (case hd => rfl); (case hg => rfl); (case hr => first | (go_simp; done) | (go_simp; rfl)); intro gb hgb w7 hbox hbb; have hcz0 : w7.cell? ⟨gb, 0, none⟩ = some (.int .i64 0) := (blk_cell hbox 0).trans rfl; have hcz1 : w7.cell? ⟨gb, 1, none⟩ = some (.int .i64 0) := (blk_cell hbox 1).trans rfl; have hfz0 := blk_frozen hbox 0; have hfz1 := blk_frozen hbox 1; have GB := Lib.hid (show w2.heap.size ≤ gb ∧ gb ≠ w2.heap.size ∧ gb ≠ ga by have := M6.out.lt; have := blk_lt A6.out; omega); have M7 := Lib.hid (M6.out.keep (hbb.block _ M6.out.lt)); have A7 := Lib.hid ((hbb.block _ (blk_lt A6.out)).trans A6.out); have X7 := Lib.hid hbox; have B7 := Lib.hid (B6.out.trans (hbb.mono B6.out.size)); clear hgb hbox hbb M6 A6 B6))
           have X8 := Lib.hid (blk_put (blk_put X7.out 0 (.int .i64 x) rfl) 1 (.int .i64 y) rfl)
           have B8 := Lib.hid (below_set (below_set B7.out GB.out.1 (j := 0) (v := .int .i64 x)) GB.out.1 (j := 1) (v := .int .i64 y))
           have M8 := Lib.hid (M7.out.keep (w' := (w7.setCell ⟨gb, 0, none⟩ (.int .i64 x)).setCell ⟨gb, 1, none⟩ (.int .i64 y)) ((Below.heap_setCell _ _ _ _ (fun e => GB.out.2.1 e.symm)).trans (Below.heap_setCell _ _ _ _ (fun e => GB.out.2.1 e.symm))))
           have A8 := Lib.hid (blk_far (blk_far A7.out (p := ⟨gb, 0, none⟩) (fun e => GB.out.2.2 e.symm) (.int .i64 x)) (p := ⟨gb, 1, none⟩) (fun e => GB.out.2.2 e.symm) (.int .i64 y))
           clear M7 A7 X7 B7 hcz0 hcz1 hfz0 hfz1
           generalize (w7.setCell ⟨gb, 0, none⟩ (.int .i64 x)).setCell ⟨gb, 1, none⟩ (.int .i64 y) = w8 at X8 B8 M8 A8 ⊢
           cases ok with
           | false =>
            have h := HH.out
            rw [if_neg (by decide)] at h
            have H9 := Lib.hid h
            clear h HH
            go_quiet (fail)
            go_wp2_with (fail)
            go_roundg k3
            case measure => have := HK1.out; have := HK2.out; have := HK3.out; omega
            case rel => exact ⟨wrap64 (s + 1), F3, rfl, H9, Lib.hid (by have := HK3.out; omega), Lib.hid (M8.out.keep rfl), Lib.hid A8.out, Lib.hid (by repeat (first | exact B8.out | apply pw_below_drewN | apply below_drew1))⟩
           | true =>
            have h := HH.out
            rw [if_pos rfl] at h
            by_cases c4 : ((0 ≤ x ∧ x < (g.length : Int)) ∧ (0 ≤ y ∧ y < ((rd_L2 g x).length : Int))) ∧ (0 ≤ i ∧ i < (g.length : Int)) ∧ (0 ≤ j ∧ j < ((rd_L2 g i).length : Int))
            ·rw [if_pos c4] at h
             obtain ⟨⟨⟨p0, p1⟩, p2, p3⟩, ⟨p4, p5⟩, p6, p7⟩ := c4
             have hC8 := Kd.C_below HC.out B8.out
             obtain ⟨ad, A0, q0, rfl, hx0, hl0, hC0⟩ := at_L2 hC8 x p0 p1
             obtain ⟨ad0, rfl, hx1⟩ := Kd.at_int hC0 y p2 p3
             obtain ⟨ad', A1, q1, e1, hx2, hl1, hC1⟩ := at_L2 hC8 i p4 p5
             obtain rfl : ad = ad' := by injection e1
             obtain ⟨ad1, rfl, hx3⟩ := Kd.at_int hC1 j p6 p7
             have hcx0 : w8.cell? ⟨gb, 0, none⟩ = some (.int .i64 x) := (blk_cell X8.out 0).trans rfl
             have hcx1 : w8.cell? ⟨gb, 1, none⟩ = some (.int .i64 y) := (blk_cell X8.out 1).trans rfl
             replace p0 := eq_true p0; replace p1 := eq_true p1; replace p2 := eq_true p2; replace p3 := eq_true p3; replace p4 := eq_true p4; replace p5 := eq_true p5; replace p6 := eq_true p6; replace p7 := eq_true p7
             clear hC8 hC0 hC1 e1 HH
             by_cases c5 : wrap64 (cst + rd (rd_L2 g x) y) = rd (rd_L2 g i) j
             ·rw [if_pos c5] at h
              have b5 : (wrap64 (cst + rd (rd_L2 g x) y) == rd (rd_L2 g i) j) = true := beq_iff_eq.2 c5
              obtain ⟨v, hv, h2⟩ := Option.bind_eq_some_iff.1 h
              have HV := Lib.hid (fun W => align_capped.calls (F3 i j) (F3 x y) v W hv)
              have H9 := Lib.hid h2
              clear h h2 hv c5
              go_quiet (fail)
              go_wp2_with (fail)
              have S0 : (w8.drewN nq).drew.heap = w8.heap := rfl
              have B9 := Lib.hid (show Below w2.heap.size w2 (w8.drewN nq).drew by repeat (first | exact B8.out | apply pw_below_drewN | apply below_drew1))
              clear hcx0 hcx1 hx0 hx1 hx2 hx3 hl0 hl1 p0 p1 p2 p3 p4 p5 p6 p7 b5
              have LK := Lib.hid (fun (W : World) (hW : W.heap = w8.heap) (a c : Int) => align_Count.look (M8.out.keep (w' := W) (by rw [hW])) a c)
              refine start_ (n := 10) (S := fun W => W.heap = w8.heap) (ds := [9]) #[false, false, false, false, false, false, false, false, false, false] (by kernel_rfl) rfl rfl rfl (fun hHeld => ?_)
              generalize (w8.drewN nq).drew = w9 at B9 hHeld ⊢
              refine pure_ (i := 0) (N := some 82) (v := ?_) (a' := ?_) #[true, false, false, false, false, false, false, false, false, false] rfl rfl (by kernel_rfl) (fun _ _ _ h => h) (Or.inl ⟨by rfl, ?_⟩) ?_ ?_
              rotate_left
              ·intro w'
               go_simp
               with_reducible rfl
              rotate_left
              ·simp only [Act.put, List.setIfInBounds_toArray, List.set_cons_zero, List.set_cons_succ, i64_w, i32_w]
               rfl
              refine take_ (i := 1) (N := some 83) (v := ?_) (a' := ?_) #[true, true, false, false, false, false, false, false, false, false] rfl rfl (by kernel_rfl) (fun _ _ _ h => h) (Or.inl ⟨by rfl, ?_⟩) hHeld ?_ ?_
              rotate_left
              ·intro w' hW
               have h0 := (blk_cell (w := w') (show w'.heap[ga]? = _ from by rw [hW]; exact A8.out) 0).trans (show _ = some (Value.int .i64 i) from rfl)
               have h1 := (blk_cell (w := w') (show w'.heap[ga]? = _ from by rw [hW]; exact A8.out) 1).trans (show _ = some (Value.int .i64 j) from rfl)
               go_simp
               with_reducible rfl
              rotate_left
              ·simp only [Act.put, List.setIfInBounds_toArray, List.set_cons_zero, List.set_cons_succ, i64_w, i32_w]
               rfl
              refine pure_ (i := 2) (N := some 84) (v := ?_) (a' := ?_) #[true, true, true, false, false, false, false, false, false, false] rfl rfl (by kernel_rfl) (fun _ _ _ h => h) (Or.inl ⟨by rfl, ?_⟩) ?_ ?_
              rotate_left
              ·intro w'
               go_simp
               with_reducible rfl
              rotate_left
              ·simp only [Act.put, List.setIfInBounds_toArray, List.set_cons_zero, List.set_cons_succ, i64_w, i32_w]
               rfl
              refine take_ (i := 3) (N := some 85) (v := ?_) (a' := ?_) #[true, true, true, true, false, false, false, false, false, false] rfl rfl (by kernel_rfl) (fun _ _ _ h => h) (Or.inl ⟨by rfl, ?_⟩) hHeld ?_ ?_
              rotate_left
              ·intro w' hW
               have h0 := (blk_cell (w := w') (show w'.heap[ga]? = _ from by rw [hW]; exact A8.out) 0).trans (show _ = some (Value.int .i64 i) from rfl)
               have h1 := (blk_cell (w := w') (show w'.heap[ga]? = _ from by rw [hW]; exact A8.out) 1).trans (show _ = some (Value.int .i64 j) from rfl)
               go_simp
               with_reducible rfl
              rotate_left
              ·simp only [Act.put, List.setIfInBounds_toArray, List.set_cons_zero, List.set_cons_succ, i64_w, i32_w]
               rfl
              refine take_ (i := 4) (N := some 86) (v := ?_) (a' := ?_) #[true, true, true, true, true, false, false, false, false, false] rfl rfl (by kernel_rfl) (fun _ _ _ h => h) (Or.inl ⟨by rfl, ?_⟩) hHeld ?_ ?_
              rotate_left
              ·intro w' hW
               have h0 := LK.out w' hW i j
               go_simp
               with_reducible rfl
              rotate_left
              ·simp only [Act.put, List.setIfInBounds_toArray, List.set_cons_zero, List.set_cons_succ, i64_w, i32_w]
               rfl
              refine pure_ (i := 5) (N := some 87) (v := ?_) (a' := ?_) #[true, true, true, true, true, true, false, false, false, false] rfl rfl (by kernel_rfl) (fun _ _ _ h => h) (Or.inl ⟨by rfl, ?_⟩) ?_ ?_
              rotate_left
              ·intro w'
               go_simp
               with_reducible rfl
              rotate_left
              ·simp only [Act.put, List.setIfInBounds_toArray, List.set_cons_zero, List.set_cons_succ, i64_w, i32_w]
               rfl
              refine take_ (i := 6) (N := some 88) (v := ?_) (a' := ?_) #[true, true, true, true, true, true, true, false, false, false] rfl rfl (by kernel_rfl) (fun _ _ _ h => h) (Or.inl ⟨by rfl, ?_⟩) hHeld ?_ ?_
              rotate_left
              ·intro w' hW
               have h0 := (blk_cell (w := w') (show w'.heap[gb]? = _ from by rw [hW]; exact X8.out) 0).trans (show _ = some (Value.int .i64 x) from rfl)
               have h1 := (blk_cell (w := w') (show w'.heap[gb]? = _ from by rw [hW]; exact X8.out) 1).trans (show _ = some (Value.int .i64 y) from rfl)
               go_simp
               with_reducible rfl
              rotate_left
              ·simp only [Act.put, List.setIfInBounds_toArray, List.set_cons_zero, List.set_cons_succ, i64_w, i32_w]
               rfl
              refine take_ (i := 7) (N := some 89) (v := ?_) (a' := ?_) #[true, true, true, true, true, true, true, true, false, false] rfl rfl (by kernel_rfl) (fun _ _ _ h => h) (Or.inl ⟨by rfl, ?_⟩) hHeld ?_ ?_
              rotate_left
              ·intro w' hW
               have h0 := LK.out w' hW x y
               go_simp
               with_reducible rfl
              rotate_left
              ·simp only [Act.put, List.setIfInBounds_toArray, List.set_cons_zero, List.set_cons_succ, i64_w, i32_w]
               rfl
              refine one_ (i := 8) (N := some 90) #[true, true, true, true, true, true, true, true, true, false] rfl rfl (by kernel_rfl) (by decide) (fun K hK => ?_)
              refine goes_ Try.func54 (by kernel_rfl) rfl #[.int .i64 (F3 i j), .int .i64 (F3 x y)] (by rfl) rfl rfl (by (try simp only [List.map_toArray, List.map_cons, List.map_nil]); first | done | rfl) ?_
              refine (HV.out _).mono ?_
              rintro e w' ⟨rfl, ⟨nd, rfl⟩⟩
              refine ⟨_, rfl, ?_⟩
              have B10 := Lib.hid (show Below w2.heap.size w2 (w9.drewN nd) from pw_below_drewN B9.out nd)
              have E10 : (w9.drewN nd).heap = w8.heap := hHeld
              refine hK.out _ _ hHeld (fun hHeld => ?_)
              clear hK K
              generalize w9.drewN nd = w10 at B10 E10 ⊢
              refine norm_ (a' := ?_) ?_ ?_
              rotate_left
              ·show Act.put _ (some 90) _ = _
               simp only [Act.put, List.setIfInBounds_toArray, List.set_cons_zero, List.set_cons_succ, i64_w, i32_w]
               rfl
              obtain ⟨w11, hset, M11, hb11, hk11⟩ := align_Count.put (M8.out.keep (w' := w10) (by rw [E10])) i j v
              refine last_ (i := 9) (N := none) #[true, true, true, true, true, true, true, true, true, true] rfl rfl (by kernel_rfl) (by decide) (fun K hK => ?_)
              rw [if_pos (by rfl)]
              unfold Oper.wp
              go_simp
              refine hK.out _ _ ?_
              clear hK K
              refine done_ (by kernel_rfl) ?_
              have A11 := Lib.hid (show w11.heap[ga]? = some (.cells #[.int .i64 i, .int .i64 j] 60 (0, 0)) from (hk11 ga GA.out.2).trans (by rw [E10]; exact A8.out))
              have B11 := Lib.hid (hb11 _ _ (Nat.le_refl _) B10.out)
              have M12 := Lib.hid M11
              clear hset M11 hb11 hk11 B10 E10
              go_wp2_with (fail)
              go_roundg k3
              case measure => have := HK1.out; have := HK2.out; have := HK3.out; omega
              case rel => exact ⟨wrap64 (s + 1), align_Count.up F3 i j v, rfl, H9, Lib.hid (by have := HK3.out; omega), M12, A11, B11⟩
             ·rw [if_neg c5] at h
              have b5 : (wrap64 (cst + rd (rd_L2 g x) y) == rd (rd_L2 g i) j) = false := beq_eq_false_iff_ne.2 c5
              have H9 := Lib.hid h
              clear h c5
              go_quiet (fail)
              go_wp2_with (fail)
              go_roundg k3
              case measure => have := HK1.out; have := HK2.out; have := HK3.out; omega
              case rel => exact ⟨wrap64 (s + 1), F3, rfl, H9, Lib.hid (by have := HK3.out; omega), Lib.hid (M8.out.keep rfl), Lib.hid A8.out, Lib.hid (by repeat (first | exact B8.out | apply pw_below_drewN | apply below_drew1))⟩
            ·rw [if_neg c4] at h; cases h
          ·rw [if_neg c3] at H
           have b3 : decide (s < 5) = false := decide_eq_false c3
           have HH := Lib.hid H
           clear H c3 hcz0 hcz1
           go_wp2_with (fail)
           go_roundg k3
           case measure => have := HK1.out; have := HK2.out; have := HK3.out; omega
           case rel => exact ⟨wrap64 (j - 1), F3, rfl, HH, Lib.hid (by have := HK2.out; have := HK3.out; omega), HM, HB⟩
       ·rw [if_neg c2] at H
        have b2 : decide (0 ≤ j) = false := decide_eq_false c2
        have HH := Lib.hid H
        clear H c2
        go_wp2_with (fail)
        go_roundg k2
        case measure => have := HK1.out; have := HK2.out; omega
        case rel => exact ⟨wrap64 (i - 1), F2, rfl, HH, Lib.hid (by have := HK1.out; have := HK2.out; omega), HM, HB⟩
    ·rw [if_neg c1] at H
     have b1 : decide (0 ≤ i) = false := decide_eq_false c1
     have hlk := align_Count.look HM.out 0 0
     by_cases c2 : F 0 0 ≤ 4611686018427387904
     ·rw [if_pos c2] at H
      obtain ⟨rfl, rfl⟩ : r1 = F 0 0 ∧ r2 = 0 := by have := Option.some.inj H; simp at this; exact ⟨this.1.symm, this.2.symm⟩
      have b2 : decide (F 0 0 ≤ 4611686018427387904) = true := decide_eq_true c2
      clear H c1 c2
      go_wp2_with (fail)
      go_ret2
      exact ⟨rfl, B2.out.trans (HB.out.mono B2.out.size)⟩
     ·rw [if_neg c2] at H
      obtain ⟨rfl, rfl⟩ : r1 = 0 ∧ r2 = 3 := by have := Option.some.inj H; simp at this; exact ⟨this.1.symm, this.2.symm⟩
      have b2 : decide (F 0 0 ≤ 4611686018427387904) = false := decide_eq_false c2
      clear H c1 c2
      go_wp2_with (fail)
      go_ret2
      exact ⟨rfl, B2.out.trans (HB.out.mono B2.out.size)⟩
 ·rw [if_neg c0] at h1
  obtain ⟨rfl, rfl⟩ : r1 = 0 ∧ e = r2 := by have := Option.some.inj h1; simp at this; exact ⟨this.1.symm, this.2⟩
  clear h1
  have b1 : (e != 0) = true := bne_iff_ne.2 c0
  have b2 : (e == 0) = false := beq_eq_false_iff_ne.2 c0
  clear c0
  go_enter Try.func35, Try.ntmps35
  go_wp2_with (fail)
  refine (HG.out _).mono ?_
  (first | rintro e w1 rfl hb | rintro e w1 ⟨rfl, hb⟩)
  have B1 := Lib.hid hb
  clear hb
  go_wp2_with (fail)
  go_ret2
  exact ⟨rfl, B1.out⟩

/-! ### ancepsref45_capped: function 55 -/
def ancepsref45_capped.f (a0 : Int) (a1 : Int) : Option (Int) := if a0 > (wrap64 (4611686018427387905 - a1)) then (some 4611686018427387905) else (some (wrap64 (a0 + a1)))
set_option maxHeartbeats 8000000 in
set_option maxRecDepth 100000 in
theorem ancepsref45_capped.calls (a0 : Int) (a1 : Int) (r : Int) (w : World) (h : ancepsref45_capped.f a0 a1 = some r) :
  Calls Try.prog 55 #[.int .i64 a0, .int .i64 a1] w fun e w' => e = .returned (.int .i64 r) ∧ Drawn0 w w' := by
 have H : (if a0 > (wrap64 (4611686018427387905 - a1)) then (some 4611686018427387905) else (some (wrap64 (a0 + a1)))) = some r := h
 clear h
 by_cases c3 : a0 > (wrap64 (4611686018427387905 - a1))
 ·rw [if_pos c3] at H
  have c3b0 : decide ((wrap64 (4611686018427387905 - a1)) < a0) = true := decide_eq_true c3
  clear c3
  obtain rfl := Option.some.inj H
  go_enter Try.func55, Try.ntmps55
  go_wp2
  go_ret
  exact ⟨by first | rfl | (simp; done) | (simp [*]; done), by repeat (first | exact Drawn0.refl _ | apply Drawn0.step)⟩
 ·rw [if_neg c3] at H
  have c3b0 : decide ((wrap64 (4611686018427387905 - a1)) < a0) = false := decide_eq_false c3
  clear c3
  obtain rfl := Option.some.inj H
  go_enter Try.func55, Try.ntmps55
  go_wp2
  go_ret
  exact ⟨by first | rfl | (simp; done) | (simp [*]; done), by repeat (first | exact Drawn0.refl _ | apply Drawn0.step)⟩

end Go.Proofs.Ytnnonjjmlbemfaa.X
