/- Plain lemmas of chapter 57: the errors of lines. -/
import Derived.Test.YtmjigfoldeekmaaBase
import Derived.Test.YtmjigfoldeekmaaX3
import Derived.Test.YtmjigfoldeekmaaX11
namespace Go.Proofs.Ytmjigfoldeekmaa.Lem
open Go.RowKit Go.Proofs.Ytmjigfoldeekmaa.X Go.Proofs.YtmjigfoldeekmaaW.PrintWords Go.Proofs.YtmjigfoldeekmaaW.PrintLast
theorem Ev.eq {α : Type} {g : Nat → Option α} {a b : α} (h : a = b) (k : Ev g a) : Ev g b := h ▸ k
/-! numbers, rounds -/
theorem bt_nat (s : ByteArray) (i : Nat) (h : i < s.size) : bt s (i : Int) = ((s.data.toList[i]'(by simpa using h)).toNat : Int) := by
  unfold bt; rw [dif_pos (by simpa using h)]; rfl
theorem bt_range (s : ByteArray) (i : Int) : 0 ≤ bt s i ∧ bt s i ≤ 255 := by
  unfold bt; split
  · have := UInt8.toNat_lt (s[i.toNat]); omega
  · omega
/-! Valid -/
def okB (c : Int) : Bool := decide (32 ≤ c ∧ c ≤ 126)
def validS (s : ByteArray) : Int := if (s.size : Int) > 120 then 3 else if (bytesOf s).all okB then 0 else 2
def allFrom (s : ByteArray) (i : Nat) : Int := if ((bytesOf s).drop i).all okB then 0 else 2
theorem allFrom_end (s : ByteArray) : allFrom s s.size = 0 := by unfold allFrom; rw [List.drop_eq_nil_of_le (by rw [bytesOf_length]; exact Nat.le_refl _)]; rfl
theorem allFrom_step (s : ByteArray) (i : Nat) (h : i < s.size) : allFrom s i = if okB (bt s i) then allFrom s (i + 1) else 2 := by
  unfold allFrom
  rw [List.drop_eq_getElem_cons (by rw [bytesOf_length]; exact h), List.all_cons, bytesOf_get s i h]
  cases okB (bt s ↑i) <;> simp
theorem valid_loop (s : ByteArray) (hs : s.size ≤ 140737488355328) (d : Nat) : ∀ i : Nat, i + d = s.size → Ev (fun k => text_Valid.l0 k (bytesOf s) ((bytesOf s).length : Int) (i : Int)) (allFrom s i) := by
  induction d with
  | zero =>
    intro i hi
    obtain rfl : i = s.size := by omega
    refine Ev.step (fun k => rfl) (Ev.neg (by rw [bytesOf_length]; omega) ?_)
    exact Ev.val (allFrom_end s).symm
  | succ d ih =>
    intro i hi
    refine Ev.step (fun k => rfl) (Ev.pos (by rw [bytesOf_length]; omega) (Ev.pos (by omega) (Ev.pos (by rw [bytesOf_length]; omega) ?_)))
    rw [rd_bytesOf, allFrom_step s i (by omega)]
    have := ih (i + 1) (by omega)
    by_cases h1 : bt s i < 32
    · exact Ev.pos h1 (Ev.val (by rw [if_neg]; simp [okB]; omega))
    · refine Ev.neg h1 ?_
      by_cases h2 : bt s i > 126
      · exact Ev.pos h2 (Ev.val (by rw [if_neg]; simp [okB]; omega))
      · refine Ev.neg h2 ?_
        rw [w64 (by omega) (by omega), if_pos (by simp [okB]; omega)]
        exact this
theorem valid_ev (s : ByteArray) (hs : s.size ≤ 140737488355328) : Ev (fun k => text_Valid.f k s) (validS s) := by
  unfold validS text_Valid.f
  by_cases h : (s.size : Int) > 120
  · exact Ev.pos h (Ev.val (by rw [if_pos h]))
  · refine Ev.neg h (Ev.pos hs (Ev.just ?_))
    rw [if_neg h]
    exact valid_loop s hs s.size 0 (by omega)
theorem rvalid_loop (s : ByteArray) (hs : s.size ≤ 140737488355328) (d : Nat) : ∀ i : Nat, i + d = s.size → Ev (fun k => ancepsref01_Valid.l0 k s (i : Int)) (allFrom s i) := by
  induction d with
  | zero =>
    intro i hi
    obtain rfl : i = s.size := by omega
    exact Ev.step (fun k => rfl) (Ev.neg (by omega) (Ev.val (allFrom_end s).symm))
  | succ d ih =>
    intro i hi
    refine Ev.step (fun k => rfl) (Ev.pos (by omega) (Ev.pos (by omega) ?_))
    rw [allFrom_step s i (by omega)]
    have := ih (i + 1) (by omega)
    by_cases h1 : bt s i < 32
    · exact Ev.pos h1 (Ev.val (by rw [if_neg]; simp [okB]; omega))
    · refine Ev.neg h1 ?_
      by_cases h2 : bt s i > 126
      · exact Ev.pos h2 (Ev.val (by rw [if_neg]; simp [okB]; omega))
      · refine Ev.neg h2 ?_
        rw [w64 (by omega) (by omega), if_pos (by simp [okB]; omega)]
        exact this
theorem rvalid_ev (s : ByteArray) (hs : s.size ≤ 140737488355328) : Ev (fun k => ancepsref01_Valid.f k s) (validS s) := by
  unfold validS ancepsref01_Valid.f
  by_cases h : (s.size : Int) > 120
  · exact Ev.pos h (Ev.val (by rw [if_pos h]))
  · refine Ev.neg h ?_
    rw [if_neg h]
    exact rvalid_loop s hs s.size 0 (by omega)
end Go.Proofs.Ytmjigfoldeekmaa.Lem
