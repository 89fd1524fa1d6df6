/- Plain lemmas over the printed functions of chapter 5: tokens with white space and comments between them. -/
import Derived.Test.YtkkgacoecimlpaaLemR
import Derived.Test.YtkkgacoecimlpaaX22
import Derived.Test.YtkkgacoecimlpaaX17
namespace Go.Proofs.Ytkkgacoecimlpaa.Lem
open Go.RowKit Go.Proofs.Ytkkgacoecimlpaa.X Go.Proofs.YtkkgacoecimlpaaW.PrintWords Go.Proofs.YtkkgacoecimlpaaW.PrintLast
def sepB : Nat → ByteArray
  | 0 => ⟨#[32]⟩
  | 1 => ⟨#[10]⟩
  | 2 => ⟨#[9, 35, 32, 97, 32, 34, 99, 111, 109, 109, 101, 110, 116, 10]⟩
  | _ => ⟨#[32, 13, 10, 10, 32]⟩
def sepF : Nat → Nat
  | 0 => 0
  | 1 => 1
  | 2 => 1
  | _ => 2
theorem sep_lex (c f : Nat) (x : List Int) (line : Int) (acc : List S31) : lexL (f + (sepB c).size) false (bytesOf (sepB c) ++ x) line acc = lexL f false x (line + sepF c) acc := by
  match c with
  | 0 => rw [show line + ((sepF 0 : Nat) : Int) = line from Int.add_zero _]; rfl
  | 1 => rfl
  | 2 => rfl
  | c + 3 => rw [show line + ((sepF (c + 3) : Nat) : Int) = line + 1 + 1 by show line + 2 = _; omega]; rfl
theorem sep_Sep (c : Nat) (x : List Int) : Sep (bytesOf (sepB c) ++ x) := by
  match c with
  | 0 => exact Or.inr ⟨32, _, rfl, by decide, by decide⟩
  | 1 => exact Or.inr ⟨10, _, rfl, by decide, by decide⟩
  | 2 => exact Or.inr ⟨9, _, rfl, by decide, by decide⟩
  | c + 3 => exact Or.inr ⟨32, _, rfl, by decide, by decide⟩
theorem sep_size (c : Nat) : (sepB c).size ≤ 14 := by
  match c with
  | 0 => decide
  | 1 => decide
  | 2 => decide
  | c + 3 => exact (by decide : 5 ≤ 14)
theorem sepF_le (c : Nat) : sepF c ≤ 2 := by
  match c with
  | 0 => decide
  | 1 => decide
  | 2 => decide
  | c + 3 => exact Nat.le_refl _
theorem sep_count (c : Nat) : strings_Count.f (sepB c) (⟨#[10]⟩ : ByteArray) = some ((sepF c : Nat) : Int) := by
  match c with
  | 0 => decide
  | 1 => decide
  | 2 => decide
  | c + 3 => show strings_Count.f (⟨#[32, 13, 10, 10, 32]⟩ : ByteArray) (⟨#[10]⟩ : ByteArray) = some 2; decide
/-- the text, its tokens and its lines -/
def textL (cs : Nat → Nat) : Nat → List S31 → List Int
  | _, [] => []
  | i, t :: r => bytesOf (sepB (cs i)) ++ (wrL t ++ textL cs (i + 1) r)
def toksL (cs : Nat → Nat) : Nat → Int → List S31 → List S31
  | _, _, [] => []
  | i, line, t :: r => at1 (line + sepF (cs i)) t :: toksL cs (i + 1) (line + sepF (cs i)) r
def linesL (cs : Nat → Nat) : Nat → Int → List S31 → List Int
  | _, _, [] => []
  | i, line, _ :: r => (line + sepF (cs i)) :: linesL cs (i + 1) (line + sepF (cs i)) r
theorem text_Sep (cs : Nat → Nat) : ∀ (i : Nat) (ts : List S31), Sep (textL cs i ts)
  | _, [] => Or.inl rfl
  | _, _ :: _ => sep_Sep _ _
theorem toks_lines (cs : Nat → Nat) : ∀ (i : Nat) (line : Int) (ts : List S31), (toksL cs i line ts).map (·.f2) = linesL cs i line ts
  | _, _, [] => rfl
  | i, line, _ :: r => by rw [toksL, List.map_cons, toks_lines cs (i + 1) _ r, linesL]; rfl
theorem toks_key (cs : Nat → Nat) : ∀ (i : Nat) (line : Int) (ts : List S31), (toksL cs i line ts).map (fun t => (t.f0, t.f1)) = ts.map (fun t => (t.f0, t.f1))
  | _, _, [] => rfl
  | i, line, t :: r => by rw [toksL, List.map_cons, toks_key cs (i + 1) _ r, List.map_cons]; rfl
theorem toks_len (cs : Nat → Nat) (i : Nat) (line : Int) (ts : List S31) : (toksL cs i line ts).length = ts.length := by
  have := congrArg List.length (toks_key cs i line ts)
  rw [List.length_map, List.length_map] at this; exact this
theorem lex_text (cs : Nat → Nat) : ∀ (ts : List S31) (i f : Nat) (line : Int) (acc : List S31), (∀ t ∈ ts, rightT t = true) → (textL cs i ts).length < f → lexL f false (textL cs i ts) line acc = (acc ++ toksL cs i line ts, 0, 0)
  | [], i, f, line, acc, _, hf => by
    obtain ⟨f, rfl⟩ : ∃ g, f = g + 1 := ⟨f - 1, by omega⟩
    rw [textL, lex_end, toksL, List.append_nil]
  | t :: r, i, f, line, acc, h, hf => by
    have hp := wr_pos t (h t List.mem_cons_self)
    rw [textL, List.length_append, List.length_append, bytesOf_length] at hf
    obtain ⟨g, rfl⟩ : ∃ g, f = (g + 1) + (sepB (cs i)).size := ⟨f - (sepB (cs i)).size - 1, by omega⟩
    rw [textL, sep_lex, lex_wr g t _ _ acc (h t List.mem_cons_self) (text_Sep cs (i + 1) r), lex_text cs r (i + 1) g _ _ (fun x hx => h x (List.mem_cons_of_mem _ hx)) (by omega), toksL, List.append_assoc]
    rfl
theorem text_len (cs : Nat → Nat) : ∀ (i : Nat) (ts : List S31), (textL cs i ts).length ≤ weight ts + 14 * ts.length
  | _, [] => Nat.zero_le _
  | i, t :: r => by
    have := text_len cs (i + 1) r
    have e : weight (t :: r) = (wrL t).length + weight r := by unfold weight; rw [List.map_cons, List.sum_cons]
    have := sep_size (cs i)
    rw [textL, List.length_append, List.length_append, bytesOf_length, e, List.length_cons]; omega
theorem text_range (cs : Nat → Nat) : ∀ (i : Nat) (ts : List S31), ∀ c ∈ textL cs i ts, 0 ≤ c ∧ c ≤ 255
  | _, [], c, hc => by rw [textL] at hc; simp at hc
  | i, t :: r, c, hc => by
    rw [textL] at hc
    rcases List.mem_append.1 hc with h | h
    · exact bytesOf_range _ c h
    rcases List.mem_append.1 h with h | h
    · exact wr_range t c h
    · exact text_range cs (i + 1) r c h
theorem spaced_l1 (m : List S31) (xs : List Int) (h : m.map (·.f2) = xs) (hl : m.length ≤ 1000000000) (d : Nat) : ∀ i : Nat, i + d = m.length → Ev (fun k => ancepslaw05_TokenSpaced.l1 k xs m (m.length : Int) (i : Int)) true := by
  have hx : xs.length = m.length := by rw [← h, List.length_map]
  induction d with
  | zero =>
    intro i hi
    exact Ev.step (fun k => ancepslaw05_TokenSpaced.l1.eq_2 _ _ _ _ _) (Ev.neg (by omega) (Ev.now _))
  | succ d ih =>
    intro i hi
    have hlt : i < m.length := by omega
    refine Ev.step (fun k => ancepslaw05_TokenSpaced.l1.eq_2 _ _ _ _ _) (Ev.pos (by omega) (Ev.pos (by omega) (Ev.pos (by omega) (Ev.pos (by omega) (Ev.pos ?_ ?_)))))
    · rw [rd_T31_nat', getD_lt' _ _ hlt]
      unfold rd
      rw [Int.toNat_natCast, List.getD_eq_getElem?_getD, ← h, List.getElem?_map, List.getElem?_eq_getElem hlt]; rfl
    · rw [w64 (by omega) (by omega)]; exact ih (i + 1) (by omega)
def pick (cs : List Int) (i : Nat) : Nat := (cs.getD (i % cs.length) 0).toNat % 4
theorem pick_sep (cs : List Int) (i : Nat) : rdOf ByteArray.empty [(⟨#[32]⟩ : ByteArray), (⟨#[10]⟩ : ByteArray), (⟨#[9, 35, 32, 97, 32, 34, 99, 111, 109, 109, 101, 110, 116, 10]⟩ : ByteArray), (⟨#[32, 13, 10, 10, 32]⟩ : ByteArray)] ((pick cs i : Nat) : Int) = sepB (pick cs i) := by
  have : pick cs i < 4 := Nat.mod_lt _ (by decide)
  generalize pick cs i = n at *
  match n with
  | 0 => rfl
  | 1 => rfl
  | 2 => rfl
  | 3 => rfl
  | n + 4 => omega
theorem linesL_snoc (cs : Nat → Nat) : ∀ (i : Nat) (line : Int) (ts : List S31), (linesL cs i line ts).length = ts.length
  | _, _, [] => rfl
  | i, line, t :: r => by rw [linesL, List.length_cons, linesL_snoc cs (i + 1) _ r, List.length_cons]
end Go.Proofs.Ytkkgacoecimlpaa.Lem
