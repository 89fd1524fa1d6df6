/- Plain lemmas of the sounds' chapter: one sound: its kind, its error, its order; lists with few sounds. -/
import Derived.Test.YtnjiniegpjfemaaDoorBase
import Derived.Laws.RangeString
import Derived.Laws.RangeAny
import Derived.Test.YtnjiniegpjfemaaDoorX2
import Derived.Test.YtnjiniegpjfemaaDoorX1
import Derived.Test.YtnjiniegpjfemaaDoorX3
import Derived.Test.YtnjiniegpjfemaaDoorX0
namespace Go.Proofs.YtnjiniegpjfemaaDoor.Lem
open Go.RowKit Go.Proofs.YtnjiniegpjfemaaDoor.X Go.Proofs.YtnjiniegpjfemaaDoorW.PrintWords Go.Proofs.YtnjiniegpjfemaaDoorW.PrintLast
theorem awake_ev : Ev (fun k => ancepslaw11_awake.f k) true := Ev.of (fun k => ancepslaw11_awake.mono k) (k := 40) (by kernel_rfl)
theorem rd_at (l : List S23) (i : Nat) (h : i < l.length) : rd_T23 l (i : Int) = l[i] := by
  unfold rd_T23
  rw [Int.toNat_natCast, List.getD_eq_getElem?_getD, List.getElem?_eq_getElem h]; rfl
def nuc (a : Int) : Bool := a == 1 || a == 2
theorem nucleus_f (a b : Int) (t : ByteArray) : sound_Nucleus.f a b t = some (nuc a) := by
  unfold sound_Nucleus.f nuc
  split <;> simp_all
def isLet (c : Int) : Bool := (decide (97 ≤ c) && decide (c ≤ 122)) || (decide (48 ≤ c) && decide (c ≤ 57)) || c == 95 || c == 94 || c == 39
theorem written_f (c : Int) : sound_written.f c = some (isLet c) := by
  unfold sound_written.f isLet
  repeat' split
  all_goals simp_all
  all_goals omega
def quant (a b : Int) : Bool := if a = 1 then decide (1 ≤ b) && decide (b ≤ 3) else if a = 2 then b == 2 else b == 0
theorem quantity_f (a b : Int) (t : ByteArray) : sound_quantity.f a b t = some (quant a b) := by
  unfold sound_quantity.f quant
  repeat' split
  all_goals simp_all
  all_goals omega
def vrest (q : Bool) (t : ByteArray) : Int := if q = false then 6 else if t.size = 0 then 7 else if 8 < t.size then 3 else if (bytesOf t).all isLet = true then 0 else 2
def validS (a b : Int) (t : ByteArray) : Int := if a < 1 then 1 else if decide (a > 9) = true then 1 else vrest (quant a b) t
/-! ContainsFunc -/
theorem bt_get (s : ByteArray) (pos : Nat) (h : pos < s.size) : bt s (pos : Int) = ((s[pos]'h).toNat : Int) := by
  unfold bt
  rw [dif_pos (by rw [Int.toNat_natCast]; exact h)]
  rfl
theorem idx_any (p : Nat → Bool) (hp : ∀ r, 128 ≤ r → p r = true) (s : ByteArray) : ∀ f pos, s.size ≤ pos + f → decide (0 ≤ Lib.idxFuncFrom p true s f pos) = ((bytesOf s).drop pos).any (fun c => p c.toNat) := by
  intro f
  induction f with
  | zero =>
    intro pos h
    rw [drop_ge s pos (by omega)]
    rfl
  | succ f ih =>
    intro pos h
    rw [Lib.idxFuncFrom]
    by_cases hlt : pos < s.size
    · rw [if_pos hlt, drop_lt s pos hlt, List.any_cons, bt_get s pos hlt, Int.toNat_natCast]
      by_cases ha : (s[pos]'hlt).toNat < 128
      · rw [Go.decode_ascii s pos hlt ha]
        by_cases hq : p (s[pos]'hlt).toNat = true
        · rw [if_pos hq, hq, Bool.true_or]; exact decide_eq_true (by omega)
        · rw [if_neg hq, ih (pos + 1) (by omega), Bool.eq_false_iff.2 hq, Bool.false_or]
      · obtain ⟨h1, h2⟩ := Go.decode_high s pos hlt (by omega)
        rw [if_pos (hp _ h1), hp _ (by omega), Bool.true_or]; exact decide_eq_true (by omega)
    · rw [if_neg hlt, drop_ge s pos (by omega)]
      rfl
theorem contains_f (t : ByteArray) : strings_ContainsFunc_sound_Valid_1.f t = some (!(bytesOf t).all isLet) := by
  unfold strings_ContainsFunc_sound_Valid_1.f
  have hp : ∀ r : Nat, strings_ContainsFunc_sound_Valid_1.p r = !isLet (r : Int) := by
    intro r
    unfold strings_ContainsFunc_sound_Valid_1.p sound_Valid_1.f
    rw [written_f]; rfl
  have h := idx_any strings_ContainsFunc_sound_Valid_1.p (fun r hr => by rw [hp]; unfold isLet; simp; omega) t t.size 0 (by omega)
  rw [List.drop_zero] at h
  congr 1
  show decide (0 ≤ Lib.idxFunc _ true t) = _
  unfold Lib.idxFunc
  rw [h, List.not_all_eq_any_not]
  have hr := bytesOf_range t
  generalize bytesOf t = l at hr
  induction l with
  | nil => rfl
  | cons c r ih =>
    have hc := hr c (List.mem_cons_self ..)
    rw [List.any_cons, List.any_cons, ih (fun x hx => hr x (List.mem_cons_of_mem _ hx)), hp, Int.toNat_of_nonneg hc.1]
theorem valid_ev (a b : Int) (t : ByteArray) : Ev (fun k => sound_Valid.f k a b t) (validS a b t) := by
  have hj : ∀ x : Bool, Ev (fun k => sound_Valid.j0 k x a b t) (if x = true then 1 else vrest (quant a b) t) := by
    intro x
    refine Ev.step (fun k => rfl) (Ev.cond (fun h => ?_) (fun h => ?_))
    · rw [if_pos h]; exact Ev.now _
    · rw [if_neg h]
      refine Ev.bind (Ev.now' (quantity_f a b t)) ?_
      unfold vrest
      cases h1 : quant a b with
      | false => exact Ev.neg (by decide) (Ev.now _)
      | true =>
        rw [if_neg (show ¬ (true = false) by decide)]
        refine Ev.pos rfl ?_
        by_cases h2 : t.size = 0
        · rw [if_pos h2]; exact Ev.pos (list_nil.2 h2) (Ev.now _)
        · rw [if_neg h2]
          refine Ev.neg (fun h => h2 (list_nil.1 h)) ?_
          by_cases h3 : 8 < t.size
          · rw [if_pos h3]; exact Ev.pos (by omega) (Ev.now _)
          · rw [if_neg h3]
            refine Ev.neg (by omega) (Ev.bind (Ev.now' (contains_f t)) ?_)
            by_cases h4 : (bytesOf t).all isLet = true
            · rw [if_pos h4]; exact Ev.neg (by simp [h4]) (Ev.now _)
            · rw [if_neg h4]; exact Ev.pos (by simpa using h4) (Ev.now _)
  unfold validS sound_Valid.f
  refine Ev.cond (fun h => ?_) (fun h => ?_)
  · rw [if_pos h]; exact hj true
  · rw [if_neg h]; exact hj _
/-! few sounds -/
end Go.Proofs.YtnjiniegpjfemaaDoor.Lem
