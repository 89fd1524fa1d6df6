/- Chapter 54: awake; Add in the reference; the lists that are made. -/
import Derived.Test.YtdaooagikacboaaW1
import Derived.Test.YtdaooagikacboaaX6
import Derived.Test.YtdaooagikacboaaX8
import Derived.Test.YtdaooagikacboaaX9
namespace Go.Proofs.Ytdaooagikacboaa.Lem
open Go.RowKit Go.Proofs.Ytdaooagikacboaa.X Go.Proofs.YtdaooagikacboaaW.PrintWords Go.Proofs.YtdaooagikacboaaW.PrintLast
theorem awake_ev : Ev (fun k => ancepslaw54_awake.f k) true := Ev.of (fun k => ancepslaw54_awake.mono k) (k := 60) (by kernel_rfl)
instance memB (w : ByteArray) : ∀ l : List ByteArray, Decidable (w ∈ l)
  | [] => isFalse List.not_mem_nil
  | s :: r => if h : w = s then isTrue (by rw [h]; exact List.mem_cons_self) else match memB w r with
    | isTrue h2 => isTrue (List.mem_cons_of_mem _ h2)
    | isFalse h2 => isFalse (fun h3 => (List.mem_cons.1 h3).elim h h2)
theorem has_loop (l : List ByteArray) (w : ByteArray) (hl : l.length ≤ 1000000000) (d : Nat) : ∀ i : Nat, i + d = l.length → Ev (fun k => ancepsref54_Has.l0 k w (i : Int) l) (decide (w ∈ l.drop i)) := by
  induction d with
  | zero =>
    intro i hi
    rw [List.drop_eq_nil_of_le (by omega)]
    exact Ev.step (fun k => rfl) (Ev.neg (by omega) (Ev.val rfl))
  | succ d ih =>
    intro i hi
    rw [List.drop_eq_getElem_cons (show i < l.length by omega)]
    refine Ev.step (fun k => rfl) (Ev.pos (by omega) (Ev.pos (by omega) ?_))
    rw [rdOf_at l i (by omega), w64 (by omega) (by omega)]
    refine Ev.cond (fun h1 => Ev.val ?_) (fun h1 => ?_)
    · rw [bytes_ext.1 h1, decide_eq_true List.mem_cons_self]
    · refine Ev.eq ?_ (ih (i + 1) (by omega))
      have hne : w ≠ l[i] := fun e => h1 (by rw [e])
      exact decide_eq_decide.2 ⟨fun h => List.mem_cons_of_mem _ h, fun h => (List.mem_cons.1 h).resolve_left hne⟩
theorem has_ev (l : List ByteArray) (w : ByteArray) (hl : l.length ≤ 1000000000) : Ev (fun k => ancepsref54_Has.f k l w) (decide (w ∈ l)) := by
  have := has_loop l w hl l.length 0 (by omega)
  rw [List.drop_zero] at this
  exact this
def givenS (l : List ByteArray) (w : ByteArray) : Int := if validS l = 0 then wrongS w else validS l
theorem rgiven_ev (l : List ByteArray) (w : ByteArray) (hl : l.length ≤ 1000000000) : Ev (fun k => ancepsref54_given.f k l w) (givenS l w) := by
  unfold ancepsref54_given.f givenS
  refine Ev.bind (rvalid_ev l hl) (Ev.cond (fun h => ?_) (fun h => Ev.val (by rw [if_neg h])))
  rw [if_pos h]
  exact Ev.bind (word_ev w) (Ev.val rfl)
theorem given_ok {l : List ByteArray} {w : ByteArray} (h : givenS l w = 0) : validS l = 0 ∧ wrongS w = 0 := by
  unfold givenS at h
  by_cases h1 : validS l = 0
  · rw [if_pos h1] at h; exact ⟨h1, h⟩
  · rw [if_neg h1] at h; exact absurd h h1
/-- where a word is put -/
def insN (w : ByteArray) : List ByteArray → Nat
  | [] => 0
  | s :: r => if less s w = true then insN w r + 1 else 0
theorem insN_le (w : ByteArray) : ∀ l, insN w l ≤ l.length
  | [] => Nat.le_refl _
  | s :: r => by
    rw [insN]
    split
    · exact Nat.succ_le_succ (insN_le w r)
    · exact Nat.zero_le _
def insL (w : ByteArray) (l : List ByteArray) : List ByteArray := l.take (insN w l) ++ [w] ++ l.drop (insN w l)
theorem insL_len (w : ByteArray) (l : List ByteArray) : (insL w l).length = l.length + 1 := by
  unfold insL
  have := insN_le w l
  simp only [List.length_append, List.length_take, List.length_drop, List.length_singleton]
  omega
theorem add_end (l : List ByteArray) (w : ByteArray) (n : Nat) (hn : n ≤ l.length) (hl : l.length ≤ 1000) :
    ((some (([] : List ByteArray) : List ByteArray)).bind fun y253 => (if 0 ≤ (n : Int) then (if (n : Int) ≤ (l.length : Int) then (if y253.length + (l.take (n : Int).toNat).length < 8796093022208 then ((some (y253 ++ (l.take (n : Int).toNat) : List ByteArray)).bind fun y257 => ((some (([w] : List ByteArray) : List ByteArray)).bind fun y260 => (if y257.length + y260.length < 8796093022208 then ((some (y257 ++ y260 : List ByteArray)).bind fun y263 => (if y263.length + (l.drop (n : Int).toNat).length < 8796093022208 then (some ((y263 ++ (l.drop (n : Int).toNat)), (0 : Int))) else (none))) else (none)))) else (none)) else (none)) else (none))) = some (l.take n ++ [w] ++ l.drop n, 0) := by
  simp only [Option.bind_some, Int.toNat_natCast, List.nil_append, List.length_nil, List.length_append, List.length_take, List.length_drop, List.length_singleton]
  rw [if_pos (by omega), if_pos (by omega), if_pos (by omega), if_pos (by omega), if_pos (by omega)]
theorem add_end2 (l : List ByteArray) (w : ByteArray) (n : Nat) (hn : n ≤ l.length) (hl : l.length ≤ 1000) :
    ((some (([] : List ByteArray) : List ByteArray)).bind fun y236 => (if (n : Int) ≤ (l.length : Int) then (if y236.length + (l.take (n : Int).toNat).length < 8796093022208 then ((some (y236 ++ (l.take (n : Int).toNat) : List ByteArray)).bind fun y240 => ((some (([w] : List ByteArray) : List ByteArray)).bind fun y243 => (if y240.length + y243.length < 8796093022208 then ((some (y240 ++ y243 : List ByteArray)).bind fun y246 => (if y246.length + (l.drop (n : Int).toNat).length < 8796093022208 then (some ((y246 ++ (l.drop (n : Int).toNat)), (0 : Int))) else (none))) else (none)))) else (none)) else (none))) = some (l.take n ++ [w] ++ l.drop n, 0) := by
  simp only [Option.bind_some, Int.toNat_natCast, List.nil_append, List.length_nil, List.length_append, List.length_take, List.length_drop, List.length_singleton]
  rw [if_pos (by omega), if_pos (by omega), if_pos (by omega), if_pos (by omega)]
theorem add_loop (l : List ByteArray) (w : ByteArray) (hl : l.length ≤ 1000) (d : Nat) : ∀ i : Nat, i + d = l.length → insN w l = i + insN w (l.drop i) → Ev (fun k => ancepsref54_Add.l0 k w (i : Int) l) (insL w l, 0) := by
  induction d with
  | zero =>
    intro i hi hn
    rw [List.drop_eq_nil_of_le (by omega), insN] at hn
    refine Ev.step (fun k => rfl) (Ev.neg (by omega) (Ev.now' ?_))
    rw [add_end l w i (by omega) hl]
    unfold insL
    rw [show insN w l = i by omega]
  | succ d ih =>
    intro i hi hn
    rw [List.drop_eq_getElem_cons (show i < l.length by omega), insN] at hn
    refine Ev.step (fun k => rfl) (Ev.pos (by omega) (Ev.pos (by omega) ?_))
    rw [rdOf_at l i (by omega), w64 (by omega) (by omega)]
    refine Ev.cond (fun h1 => ?_) (fun h1 => Ev.now' ?_)
    · rw [if_pos (show less l[i] w = true from h1)] at hn
      exact ih (i + 1) (by omega) (by omega)
    · rw [if_neg (show ¬ less l[i] w = true from h1)] at hn
      rw [add_end2 l w i (by omega) hl]
      unfold insL
      rw [show insN w l = i by omega]
def addS (l : List ByteArray) (w : ByteArray) : List ByteArray × Int := if givenS l w = 0 then (if w ∈ l then ([], 5) else if l.length = 400 then ([], 16) else (insL w l, 0)) else ([], givenS l w)
theorem radd_ev (l : List ByteArray) (w : ByteArray) (hl : l.length ≤ 1000000000) : Ev (fun k => ancepsref54_Add.f k l w) (addS l w) := by
  unfold ancepsref54_Add.f addS
  refine Ev.bind (rgiven_ev l w hl) (Ev.cond (fun h => ?_) (fun h => Ev.val (by rw [if_neg h])))
  rw [if_pos h]
  have hv := (validS_ok (given_ok h).1).1
  refine Ev.bind (has_ev l w hl) ?_
  by_cases hm : w ∈ l
  · rw [if_pos hm, decide_eq_true hm]
    exact Ev.pos rfl (Ev.val rfl)
  · rw [if_neg hm, decide_eq_false hm]
    refine Ev.neg Bool.false_ne_true (Ev.cond (fun h1 => Ev.val (by rw [if_pos (by omega)])) (fun h1 => ?_))
    rw [if_neg (by omega)]
    exact add_loop l w (by omega) l.length 0 (by omega) (by rw [List.drop_zero, Nat.zero_add])
theorem addS_len (l : List ByteArray) (w : ByteArray) : (addS l w).1.length ≤ l.length + 1 := by
  unfold addS
  split
  · split
    · exact Nat.zero_le _
    · split
      · exact Nat.zero_le _
      · rw [insL_len]; exact Nat.le_refl _
  · exact Nat.zero_le _
end Go.Proofs.Ytdaooagikacboaa.Lem
