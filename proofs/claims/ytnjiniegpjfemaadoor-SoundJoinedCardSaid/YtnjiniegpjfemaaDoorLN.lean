/- Plain lemmas of chapters that part a text at line feeds. -/
import Derived.Test.YtnjiniegpjfemaaDoorBase
import Derived.Test.YtnjiniegpjfemaaDoorX2
namespace Go.Proofs.YtnjiniegpjfemaaDoor.Lem
open Go.RowKit Go.Proofs.YtnjiniegpjfemaaDoor.X Go.Proofs.YtnjiniegpjfemaaDoorW.PrintWords Go.Proofs.YtnjiniegpjfemaaDoorW.PrintLast
abbrev mkB (l : List UInt8) : ByteArray := ⟨l.toArray⟩
theorem mkB_data (s : ByteArray) : mkB s.data.toList = s := rfl
theorem mkB_inj {a b : List UInt8} : mkB a = mkB b ↔ a = b := by
  constructor
  · intro h
    have : (mkB a).data.toList = (mkB b).data.toList := by rw [h]
    simpa [mkB] using this
  · rintro rfl; rfl
theorem mkB_nil {a : List UInt8} : (mkB a).toList = ([] : List UInt8) ↔ a = [] := by
  rw [Lib.toList_data]
theorem mkB_size (a : List UInt8) : (mkB a).size = a.length := by
  show a.toArray.size = _
  simp
theorem bt_data (s : ByteArray) (i : Nat) (h : i < s.data.toList.length) : bt s (i : Int) = (s.data.toList[i].toNat : Int) := by
  have hs : i < s.size := by rw [show s.size = s.data.toList.length by simp]; exact h
  unfold bt
  rw [dif_pos (by rw [Int.toNat_natCast]; exact hs)]
  rfl
theorem extract_mkB (s : ByteArray) (a b : Nat) : s.extract a b = mkB ((s.data.toList.take b).drop a) := by
  apply ByteArray.ext
  rw [ByteArray.data_extract]
  apply Array.toList_inj.1
  rw [Array.toList_extract, List.drop_take, List.extract_eq_take_drop]
abbrev pcs (l : List UInt8) : List (List UInt8) := strings_Split.pieces 10 l
theorem pcs_nil : pcs [] = [[]] := rfl
theorem pcs_feed (r : List UInt8) : pcs (10 :: r) = [] :: pcs r := rfl
theorem pcs_other {c : UInt8} (h : c ≠ 10) (r : List UInt8) : ∃ x t, pcs r = x :: t ∧ pcs (c :: r) = (c :: x) :: t := by
  cases hs : pcs r with
  | nil => exact absurd hs (strings_Split.pieces_ne 10 r)
  | cons x t =>
    refine ⟨x, t, rfl, ?_⟩
    show strings_Split.pieces 10 (c :: r) = _
    rw [strings_Split.pieces, if_neg (by simpa using h)]
    rw [show strings_Split.pieces 10 r = x :: t from hs]
/-- the last piece, if it is empty, is none -/
def fin : List (List UInt8) → List (List UInt8)
  | [] => []
  | [a] => if a = [] then [] else [a]
  | a :: b :: r => a :: fin (b :: r)
theorem fin_cons {a : List UInt8} {l : List (List UInt8)} (h : l ≠ []) : fin (a :: l) = a :: fin l := by
  cases l with
  | nil => exact absurd rfl h
  | cons b r => rfl
theorem fin_snoc : ∀ (us : List (List UInt8)) (z : List UInt8), fin (us ++ [z]) = if z = [] then us else us ++ [z]
  | [], z => rfl
  | a :: us, z => by
    rw [List.cons_append, fin_cons (by simp), fin_snoc us z]
    split <;> rfl
def pre (a : List UInt8) : List (List UInt8) → List (List UInt8)
  | [] => [a]
  | h :: t => (a ++ h) :: t
theorem pre_nil {l : List (List UInt8)} (h : l ≠ []) : pre [] l = l := by
  cases l with
  | nil => exact absurd rfl h
  | cons a r => rfl
def linesL (l : List UInt8) : List (List UInt8) := fin (pcs l)
def linesS (s : ByteArray) : List ByteArray := (linesL s.data.toList).map mkB
theorem split10_f (s : ByteArray) (h : s.size ≤ 4294967296) : strings_Split.f s (⟨#[10]⟩ : ByteArray) = some ((pcs s.data.toList).map mkB) := by
  unfold strings_Split.f
  rw [if_pos ⟨rfl, h⟩]; rfl
theorem pcs_snoc (l : List UInt8) : ∃ us z, pcs l = us ++ [z] := by
  rcases List.eq_nil_or_concat (pcs l) with h | ⟨us, z, h⟩
  · exact absurd h (strings_Split.pieces_ne 10 l)
  · exact ⟨us, z, by rw [h, List.concat_eq_append]⟩
theorem count10_le (l : List UInt8) : (pcs l).length ≤ l.length + 1 := by
  rw [strings_Split.pieces_len]
  have : l.count 10 ≤ l.length := List.count_le_length
  omega
theorem rdOf_snoc (us : List ByteArray) (z : ByteArray) : rdOf ByteArray.empty (us ++ [z]) (us.length : Int) = z := by
  unfold rdOf
  rw [Int.toNat_natCast, List.getD_eq_getElem?_getD, List.getElem?_append_right (Nat.le_refl _), Nat.sub_self]; rfl
theorem take_next (l : List UInt8) (f i : Nat) (h : i < l.length) (hf : f ≤ i) : (l.take (i + 1)).drop f = (l.take i).drop f ++ [l[i]] := by
  rw [List.take_succ_eq_append_getElem h, List.drop_append_of_le_length (by rw [List.length_take]; omega)]
end Go.Proofs.YtnjiniegpjfemaaDoor.Lem
