/- Plain lemmas of the sounds' chapter: the described lists. -/
import Derived.Test.YtnjiniegpjfemaaDoorS1
import Derived.Test.YtnjiniegpjfemaaDoorX4
namespace Go.Proofs.YtnjiniegpjfemaaDoor.Lem
open Go.RowKit Go.Proofs.YtnjiniegpjfemaaDoor.X Go.Proofs.YtnjiniegpjfemaaDoorW.PrintWords Go.Proofs.YtnjiniegpjfemaaDoorW.PrintLast
def tbl : List S23 := [(⟨1, 3, (⟨#[97]⟩ : ByteArray)⟩ : S23), (⟨1, 1, (⟨#[101]⟩ : ByteArray)⟩ : S23), (⟨1, 2, (⟨#[111]⟩ : ByteArray)⟩ : S23), (⟨1, 3, (⟨#[105]⟩ : ByteArray)⟩ : S23), (⟨2, 2, (⟨#[97, 101]⟩ : ByteArray)⟩ : S23), (⟨3, 0, (⟨#[116]⟩ : ByteArray)⟩ : S23), (⟨3, 0, (⟨#[98]⟩ : ByteArray)⟩ : S23), (⟨4, 0, (⟨#[114]⟩ : ByteArray)⟩ : S23), (⟨4, 0, (⟨#[108]⟩ : ByteArray)⟩ : S23), (⟨5, 0, (⟨#[109]⟩ : ByteArray)⟩ : S23), (⟨5, 0, (⟨#[110]⟩ : ByteArray)⟩ : S23), (⟨6, 0, (⟨#[115]⟩ : ByteArray)⟩ : S23), (⟨7, 0, (⟨#[120]⟩ : ByteArray)⟩ : S23), (⟨8, 0, (⟨#[118]⟩ : ByteArray)⟩ : S23), (⟨9, 0, (⟨#[104]⟩ : ByteArray)⟩ : S23), (⟨1, 3, (⟨#[117]⟩ : ByteArray)⟩ : S23)]
def made (a : Int) : S23 := rd_T23 tbl (Int.tmod a 16)
theorem made_f (a : Int) (h0 : 0 ≤ a) (h1 : a ≤ 255) : ancepsref11_Made.f a = some ((made a).f0, (made a).f1, (made a).f2) := by
  have hm : 0 ≤ Int.tmod a 16 ∧ Int.tmod a 16 < 16 := ⟨Int.tmod_nonneg _ h0, Int.tmod_lt_of_pos _ (by omega)⟩
  unfold ancepsref11_Made.f
  show (some tbl).bind _ = _
  rw [Option.bind_some, w64 (by omega) (by omega)]
  rw [if_neg (show ¬ (tbl.length : Int) = 0 by decide), show (tbl.length : Int) = 16 from rfl, if_pos hm.1, if_pos hm.2]
  rfl
theorem made_mem (a : Int) (h0 : 0 ≤ a) : made a ∈ tbl := by
  have hm : 0 ≤ Int.tmod a 16 ∧ Int.tmod a 16 < 16 := ⟨Int.tmod_nonneg _ h0, Int.tmod_lt_of_pos _ (by omega)⟩
  obtain ⟨n, hn⟩ : ∃ n : Nat, Int.tmod a 16 = n := ⟨(Int.tmod a 16).toNat, by omega⟩
  have hl : n < tbl.length := by show n < 16; omega
  unfold made
  rw [hn, rd_at tbl n hl]
  exact List.getElem_mem hl
def allS (l : List Int) : List S23 := l.map made
theorem all_loop (l : List Int) (hl : l.length ≤ 100000) (hb : ∀ x ∈ l, 0 ≤ x ∧ x ≤ 255) (d : Nat) : ∀ (i : Nat) (a : List S23), i + d = l.length → a.length ≤ i → Ev (fun k => ancepsref11_All.l0 k l a (i : Int)) (a ++ allS (l.drop i)) := by
  induction d with
  | zero =>
    intro i a hi _
    rw [List.drop_of_length_le (by omega)]
    exact Ev.step (fun k => rfl) (Ev.neg (by omega) (Ev.val (by simp [allS])))
  | succ d ih =>
    intro i a hi ha
    have hlt : i < l.length := by omega
    rw [List.drop_eq_getElem_cons hlt]
    have hr : rd l (i : Int) = l[i] := by unfold rd; rw [Int.toNat_natCast, List.getD_eq_getElem?_getD, List.getElem?_eq_getElem hlt]; rfl
    have hx := hb _ (List.getElem_mem hlt)
    refine Ev.step (fun k => rfl) (Ev.pos (by omega) (Ev.pos (by omega) ?_))
    rw [hr, w64 (by omega) (by omega)]
    refine Ev.bind (Ev.now' (made_f _ hx.1 hx.2)) (Ev.pos (by omega) ?_)
    have := ih (i + 1) (a ++ [made l[i]]) (by omega) (by rw [List.length_append]; simp; omega)
    rw [List.append_assoc] at this
    exact this
theorem byte_wf {x : Int} (h : (Lit.int .u8 x).wf = true) : 0 ≤ x ∧ x ≤ 255 := by
  unfold Lit.wf at h
  rw [Bool.and_eq_true, decide_eq_true_iff, decide_eq_true_iff] at h
  exact h
theorem all_ev (l : List Int) (hl : l.length ≤ 100000) (hb : ∀ x ∈ l, (Lit.int .u8 x).wf = true) : Ev (fun k => ancepsref11_All.f k l) (allS l) := by
  have := all_loop l hl (fun x hx => byte_wf (hb x hx)) l.length 0 [] (by omega) (by simp)
  rw [List.drop_zero, List.nil_append] at this
  exact this
theorem allS_len (l : List Int) : (allS l).length = l.length := List.length_map ..
theorem allS_valid (l : List Int) (hb : ∀ x ∈ l, (Lit.int .u8 x).wf = true) : ∀ x ∈ allS l, validS x.f0 x.f1 x.f2 = 0 := by
  intro x hx
  obtain ⟨a, ha, rfl⟩ := List.mem_map.1 hx
  have h0 := hb a ha
  have ht : ∀ y ∈ tbl, validS y.f0 y.f1 y.f2 = 0 := by decide
  exact ht _ (made_mem a (byte_wf h0).1)
end Go.Proofs.YtnjiniegpjfemaaDoor.Lem
