/- Chapter 54: the text of a list, and the list of a text. -/
import Derived.Test.YtdaooagikacboaaDoorW1
import Derived.Test.YtdaooagikacboaaDoorLN
import Derived.Test.YtdaooagikacboaaDoorX6
import Derived.Test.YtdaooagikacboaaDoorX7
import Derived.Test.YtdaooagikacboaaDoorX1
namespace Go.Proofs.YtdaooagikacboaaDoor.Lem
open Go.RowKit Go.Proofs.YtdaooagikacboaaDoor.X Go.Proofs.YtdaooagikacboaaDoorW.PrintWords Go.Proofs.YtdaooagikacboaaDoorW.PrintLast
theorem awake_ev : Ev (fun k => ancepslaw54_awake.f k) true := Ev.of (fun k => ancepslaw54_awake.mono k) (k := 60) (by kernel_rfl)
theorem eqs_loop (a : List ByteArray) (hl : a.length ≤ 1000000) (d : Nat) : ∀ i : Nat, i + d = a.length → Ev (fun k => slices_Equal_string_string.l0 k a a (a.length : Int) (i : Int)) true := by
  induction d with
  | zero => intro i hi; exact Ev.step (fun k => rfl) (Ev.neg (by omega) (Ev.val rfl))
  | succ d ih =>
    intro i hi
    refine Ev.step (fun k => rfl) (Ev.pos (by omega) (Ev.pos (by omega) (Ev.pos (by omega) (Ev.pos (by omega) (Ev.pos rfl ?_)))))
    rw [w64 (by omega) (by omega)]
    exact ih (i + 1) (by omega)
theorem eqs_ev (a : List ByteArray) (hl : a.length ≤ 1000000) : Ev (fun k => slices_Equal_string_string.f k a a) true := by
  unfold slices_Equal_string_string.f
  exact Ev.pos rfl (eqs_loop a hl a.length 0 (by omega))
abbrev flat (l : List ByteArray) : List UInt8 := wordlist_Format.flat l
theorem flat_cons (s : ByteArray) (r : List ByteArray) : flat (s :: r) = s.data.toList ++ 10 :: flat r := by
  unfold flat wordlist_Format.flat
  rw [List.flatMap_cons, List.append_assoc]; rfl
theorem flat_small : ∀ l : List ByteArray, (∀ s ∈ l, s.size ≤ 16) → (flat l).length ≤ 17 * l.length
  | [], _ => Nat.le_refl _
  | s :: r, h => by
    have h1 := flat_small r (fun x hx => h x (List.mem_cons_of_mem _ hx))
    have h2 := h s List.mem_cons_self
    have h3 : s.data.toList.length = s.size := by simp
    rw [flat_cons, List.length_append, List.length_cons, List.length_cons]
    omega
theorem flat_app (a b : List ByteArray) : flat (a ++ b) = flat a ++ flat b := by
  unfold flat wordlist_Format.flat
  rw [List.flatMap_append]
theorem flat_pcs : ∀ b : List UInt8, flat ((pcs b).map mkB) = b ++ [10]
  | [] => rfl
  | c :: r => by
    have ih := flat_pcs r
    by_cases hc : c = 10
    · rw [hc, pcs_feed, List.map_cons, flat_cons, ih]; rfl
    · obtain ⟨y, t, h1, h2⟩ := pcs_other hc r
      rw [h1, List.map_cons, flat_cons] at ih
      rw [h2, List.map_cons, flat_cons]
      exact congrArg (c :: ·) ih
theorem flat_of {b : List UInt8} {us : List (List UInt8)} (h : pcs b = us ++ [[]]) : flat (us.map mkB) = b := by
  have := flat_pcs b
  rw [h, List.map_append, flat_app] at this
  exact List.append_cancel_right this
theorem pcs_app {x : List UInt8} (h : 10 ∉ x) (r : List UInt8) : pcs (x ++ 10 :: r) = x :: pcs r := by
  induction x with
  | nil => rfl
  | cons c x ih =>
    rw [List.mem_cons, not_or] at h
    obtain ⟨y, t, h1, h2⟩ := pcs_other (fun e => h.1 e.symm) (x ++ 10 :: r)
    rw [List.cons_append, h2]
    rw [ih h.2] at h1
    obtain ⟨rfl, rfl⟩ := List.cons.inj h1
    rfl
theorem pcs_flat : ∀ l : List ByteArray, (∀ s ∈ l, 10 ∉ s.data.toList) → pcs (flat l) = l.map (fun s => s.data.toList) ++ [[]]
  | [], _ => rfl
  | s :: r, h => by
    rw [flat_cons, pcs_app (h s List.mem_cons_self), pcs_flat r (fun x hx => h x (List.mem_cons_of_mem _ hx))]; rfl
theorem no_feed {s : ByteArray} (h : wrongS s = 0) : 10 ∉ s.data.toList := by
  intro hm
  have := List.all_eq_true.1 (wrongS_ok h).2.2 10 (List.mem_map.2 ⟨10, hm, rfl⟩)
  revert this; decide
/-! Parse -/
def parseS (us : List ByteArray) (z : List UInt8) : List ByteArray × Int × Int := if z = [] then (if (checkS us).2 = 0 then (us, 0, 0) else ([], (checkS us).1 + 1, (checkS us).2)) else ([], us.length + 1, 2)
theorem checkS_fst (us : List ByteArray) (h : us.length ≤ 1000000) : -1 ≤ (checkS us).1 ∧ (checkS us).1 ≤ 1000000 := by
  unfold checkS
  have hd : ∀ d i, i + d = us.length → -1 ≤ (errI us d i).1 ∧ (errI us d i).1 ≤ 1000000 := by
    intro d
    induction d with
    | zero => intro i _; exact ⟨by show (-1 : Int) ≤ -1; omega, by show (-1 : Int) ≤ 1000000; omega⟩
    | succ d ih =>
      intro i hi
      rw [errI]
      split
      · exact ih (i + 1) (by omega)
      · exact ⟨by show (-1 : Int) ≤ (i : Int); omega, by show (i : Int) ≤ 1000000; omega⟩
  split
  · exact ⟨by show (-1 : Int) ≤ -1; omega, by show (-1 : Int) ≤ 1000000; omega⟩
  · exact hd us.length 0 (by omega)
theorem parse_loop (l : List ByteArray) (hl : l.length ≤ 1000) (d : Nat) : ∀ i : Nat, i + d = l.length → Ev (fun k => wordlist_Parse.l0 k l (l.length : Int) (i : Int)) (if (errI l d i).2 = 0 then (l, 0, 0) else ([], (errI l d i).1 + 1, (errI l d i).2)) := by
  induction d with
  | zero =>
    intro i hi
    exact Ev.step (fun k => rfl) (Ev.neg (by omega) (Ev.val rfl))
  | succ d ih =>
    intro i hi
    refine Ev.step (fun k => rfl) (Ev.pos (by omega) (Ev.bind (entry_ev l i (by omega) (by omega)) ?_))
    rw [errI, w64 (by omega) (by omega)]
    refine Ev.cond (fun h => by rw [if_pos h]; exact ih (i + 1) (by omega)) (fun h => Ev.val ?_)
    rw [if_neg h, if_neg (show ¬ ((i : Int), entS l i).2 = 0 from h)]
theorem parse_ev (s : ByteArray) (us : List (List UInt8)) (z : List UInt8) (h : pcs s.data.toList = us ++ [z]) (hs : s.size ≤ 20000) : Ev (fun k => wordlist_Parse.f k s) (parseS (us.map mkB) z) := by
  have hc := count10_le s.data.toList
  have hsl : s.data.toList.length = s.size := by simp
  rw [h, List.length_append, List.length_singleton] at hc
  unfold wordlist_Parse.f
  refine Ev.neg (by omega) (Ev.cond (fun h0 => Ev.val ?_) (fun h0 => ?_))
  · rw [Lib.toList_data] at h0
    rw [h0, pcs_nil] at h
    obtain ⟨rfl, rfl⟩ : us = [] ∧ z = [] := by
      cases us with
      | nil => exact ⟨rfl, by simpa using h.symm⟩
      | cons a r => simp at h
    rfl
  · rw [split10_f s (by omega), h]
    refine Ev.just ?_
    have e : ((us ++ [z]).map mkB) = us.map mkB ++ [mkB z] := by rw [List.map_append]; rfl
    have el : (((us.map mkB ++ [mkB z]).length : Nat) : Int) - 1 = ((us.length : Nat) : Int) := by simp
    rw [e, el, w64 (by omega) (by omega)]
    have hrd := rdOf_snoc (us.map mkB) (mkB z)
    rw [List.length_map] at hrd
    have hlen : (us.map mkB).length = us.length := List.length_map _
    have htk : (us.map mkB ++ [mkB z]).take us.length = us.map mkB := by rw [← hlen, List.take_left]
    refine Ev.pos (by omega) (Ev.pos (by simp; omega) ?_)
    rw [hrd]
    unfold parseS
    refine Ev.cond (fun h1 => ?_) (fun h1 => ?_)
    · rw [if_pos (mkB_nil.1 h1), Int.toNat_natCast, htk]
      refine Ev.pos (by simp; omega) (Ev.just (Ev.cond (fun h2 => Ev.val ?_) (fun h2 => ?_)))
      · have e3 : checkS (us.map mkB) = (-1, 3) := by unfold checkS; rw [if_pos (show 400 < (us.map mkB).length by omega)]
        rw [e3]; rfl
      · have e3 : checkS (us.map mkB) = errI (us.map mkB) (us.map mkB).length 0 := by unfold checkS; rw [if_neg (show ¬ 400 < (us.map mkB).length by omega)]
        rw [e3]
        exact parse_loop (us.map mkB) (by omega) _ 0 (by omega)
    · rw [if_neg (fun h2 => h1 (mkB_nil.2 h2)), w64 (by omega) (by omega), hlen]
      exact Ev.val rfl
/-! Format -/
def formatS (l : List ByteArray) : ByteArray × Int := if validS l = 0 then (mkB (flat l), 0) else (⟨#[]⟩, validS l)
theorem valid_flat {l : List ByteArray} (h : validS l = 0) : (flat l).length ≤ 6800 := by
  have h1 := flat_small l (fun s hs => (wrongS_ok (valid_word h s hs)).2.1)
  have h2 := (validS_ok h).1
  omega
theorem format_ev (l : List ByteArray) (hl : l.length ≤ 1000000) : Ev (fun k => wordlist_Format.f k l) (formatS l) := by
  unfold wordlist_Format.f formatS
  refine Ev.bind (valid_ev l (by omega)) (Ev.cond (fun h => ?_) (fun h => Ev.val (by rw [if_neg h])))
  have := valid_flat h
  exact Ev.pos (show (flat l).length ≤ 140737488355328 by omega) (Ev.val (by rw [if_pos h]))
end Go.Proofs.YtdaooagikacboaaDoor.Lem
