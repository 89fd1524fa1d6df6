/- Plain lemmas of chapter 57: the pairs of two lines' words: what the program's Words and the reference's return. -/
import Derived.Test.YtmjigfoldeekmaaVD
import Derived.Test.YtmjigfoldeekmaaX4
namespace Go.Proofs.Ytmjigfoldeekmaa.Lem
open Go.RowKit Go.Proofs.Ytmjigfoldeekmaa.X Go.Proofs.YtmjigfoldeekmaaW.PrintWords Go.Proofs.YtmjigfoldeekmaaW.PrintLast Go.Proofs.YtmjigfoldeekmaaW.PrintMore
/-! costs -/
abbrev costS (a b : List ByteArray) : Nat := apparatus_Words.cost a b
theorem cost_comm (n : Nat) : ∀ a b : List ByteArray, a.length + b.length ≤ n → costS a b = costS b a := by
  induction n with
  | zero =>
    intro a b h
    obtain rfl : a = [] := List.eq_nil_of_length_eq_zero (by omega)
    obtain rfl : b = [] := List.eq_nil_of_length_eq_zero (by omega)
    rfl
  | succ n ih =>
    intro a b h
    match a, b with
    | [], b => exact (apparatus_Words.cost_end b).symm
    | x :: a, [] => exact apparatus_Words.cost_end (x :: a)
    | x :: a, y :: b =>
      simp only [List.length_cons] at h
      show apparatus_Words.cost (x :: a) (y :: b) = apparatus_Words.cost (y :: b) (x :: a)
      rw [apparatus_Words.cost_cons, apparatus_Words.cost_cons]
      have h1 : apparatus_Words.cost a b = apparatus_Words.cost b a := ih a b (by omega)
      have h2 : apparatus_Words.cost a (y :: b) = apparatus_Words.cost (y :: b) a := ih a (y :: b) (by simp only [List.length_cons]; omega)
      have h3 : apparatus_Words.cost (x :: a) b = apparatus_Words.cost b (x :: a) := ih (x :: a) b (by simp only [List.length_cons]; omega)
      rw [h1, h2, h3]
      by_cases e : x.toList = y.toList
      · rw [if_pos e, if_pos e.symm]; omega
      · rw [if_neg e, if_neg (fun e' => e e'.symm)]; omega
theorem cost_self : ∀ a : List ByteArray, costS a a = 0
  | [] => rfl
  | x :: a => by
    show apparatus_Words.cost (x :: a) (x :: a) = 0
    have := cost_self a
    rw [apparatus_Words.cost_cons, if_pos rfl]
    unfold costS at this
    omega
/-! the way -/
def pathS (a b : List ByteArray) (i j : Int) : List S29 :=
  match a, b with
  | [], [] => []
  | _ :: a, [] => ⟨i, -1⟩ :: pathS a [] (i + 1) j
  | [], _ :: b => ⟨-1, j⟩ :: pathS [] b i (j + 1)
  | x :: a, y :: b =>
    if costS (x :: a) (y :: b) = costS a b + (if x.toList = y.toList then 0 else 1) then ⟨i, j⟩ :: pathS a b (i + 1) (j + 1)
    else if costS (x :: a) (y :: b) = costS a (y :: b) + 1 then ⟨i, -1⟩ :: pathS a (y :: b) (i + 1) j
    else ⟨-1, j⟩ :: pathS (x :: a) b i (j + 1)
  termination_by a.length + b.length
  decreasing_by all_goals (simp only [List.length_cons]; omega)
theorem path_ev (n : Nat) : ∀ (a b : List ByteArray) (i j : Int) (acc : List S29), a.length + b.length = n → 0 ≤ i → 0 ≤ j → i + a.length ≤ 1000000 → j + b.length ≤ 1000000 → Ev (fun k => apparatus_Words.path k a b i j acc) (acc ++ pathS a b i j) := by
  induction n using Nat.strongRecOn with
  | _ n ih =>
    intro a b i j acc hn hi hj hi2 hj2
    match a, b with
    | [], [] =>
      rw [pathS, List.append_nil]
      exact Ev.step (fun k => apparatus_Words.path.eq_2 _ _ _ _) (Ev.val rfl)
    | x :: a, [] =>
      rw [pathS]
      simp only [List.length_cons, List.length_nil] at hn hi2 hj2
      have := ih (a.length + 0) (by omega) a [] (i + 1) j (acc ++ [⟨i, -1⟩]) (by simp) (by omega) hj (by omega) (by simp; omega)
      rw [List.append_assoc] at this
      refine Ev.step (fun k => apparatus_Words.path.eq_3 _ _ _ _ _ _) ?_
      rw [w64 (by omega) (by omega)]
      exact this
    | [], y :: b =>
      rw [pathS]
      simp only [List.length_cons, List.length_nil] at hn hi2 hj2
      have := ih (0 + b.length) (by omega) [] b i (j + 1) (acc ++ [⟨-1, j⟩]) (by simp) hi (by omega) (by simp; omega) (by omega)
      rw [List.append_assoc] at this
      refine Ev.step (fun k => apparatus_Words.path.eq_4 _ _ _ _ _ _) ?_
      rw [w64 (by omega) (by omega)]
      exact this
    | x :: a, y :: b =>
      rw [pathS]
      simp only [List.length_cons] at hn hi2 hj2
      refine Ev.step (fun k => apparatus_Words.path.eq_5 _ _ _ _ _ _ _ _) ?_
      rw [w64 (i := i + 1) (by omega) (by omega), w64 (i := j + 1) (by omega) (by omega)]
      refine Ev.cond (fun h => ?_) (fun h => ?_)
      · rw [if_pos h]
        have := ih (a.length + b.length) (by omega) a b (i + 1) (j + 1) (acc ++ [⟨i, j⟩]) rfl (by omega) (by omega) (by omega) (by omega)
        rw [List.append_assoc] at this
        exact this
      · rw [if_neg h]
        refine Ev.cond (fun h' => ?_) (fun h' => ?_)
        · rw [if_pos h']
          have := ih (a.length + (y :: b).length) (by simp only [List.length_cons]; omega) a (y :: b) (i + 1) j (acc ++ [⟨i, -1⟩]) rfl (by omega) hj (by omega) (by simp only [List.length_cons]; omega)
          rw [List.append_assoc] at this
          exact this
        · rw [if_neg h']
          have := ih ((x :: a).length + b.length) (by simp only [List.length_cons]; omega) (x :: a) b i (j + 1) (acc ++ [⟨-1, j⟩]) rfl hi (by omega) (by simp only [List.length_cons]; omega) (by omega)
          rw [List.append_assoc] at this
          exact this
theorem pathS_len (n : Nat) : ∀ (a b : List ByteArray) (i j : Int), a.length + b.length = n → (pathS a b i j).length ≤ n := by
  induction n using Nat.strongRecOn with
  | _ n ih =>
    intro a b i j hn
    match a, b with
    | [], [] => rw [pathS]; exact Nat.zero_le _
    | x :: a, [] =>
      simp only [List.length_cons, List.length_nil] at hn
      have := ih (a.length + 0) (by omega) a [] (i + 1) j (by simp)
      rw [pathS, List.length_cons]; omega
    | [], y :: b =>
      simp only [List.length_cons, List.length_nil] at hn
      have := ih (0 + b.length) (by omega) [] b i (j + 1) (by simp)
      rw [pathS, List.length_cons]; omega
    | x :: a, y :: b =>
      simp only [List.length_cons] at hn
      have h1 := ih (a.length + b.length) (by omega) a b (i + 1) (j + 1) rfl
      have h2 := ih (a.length + (y :: b).length) (by simp only [List.length_cons]; omega) a (y :: b) (i + 1) j rfl
      have h3 := ih ((x :: a).length + b.length) (by simp only [List.length_cons]; omega) (x :: a) b i (j + 1) rfl
      simp only [List.length_cons] at h2 h3
      rw [pathS]
      by_cases c1 : costS (x :: a) (y :: b) = costS a b + (if x.toList = y.toList then 0 else 1)
      · rw [if_pos c1, List.length_cons]; omega
      · rw [if_neg c1]
        by_cases c2 : costS (x :: a) (y :: b) = costS a (y :: b) + 1
        · rw [if_pos c2, List.length_cons]; omega
        · rw [if_neg c2, List.length_cons]; omega
def wordsP (x y : ByteArray) : List S29 × Int := if (foldedS x).2 = 0 then (if (foldedS y).2 = 0 then (pathS (foldedS x).1 (foldedS y).1 0 0, 0) else ([], (foldedS y).2)) else ([], (foldedS x).2)
theorem cw_ev (x y : ByteArray) (hx : x.size ≤ 140737488355328) (hy : y.size ≤ 140737488355328) : Ev (fun k => apparatus_Words.f k x y) (wordsP x y) := by
  have h1 := foldedS_len x
  have h2 := foldedS_len y
  unfold apparatus_Words.f wordsP
  refine Ev.bind (folded_ev x hx) (Ev.cond (fun h => ?_) (fun h => Ev.val (by rw [if_neg h])))
  rw [if_pos h]
  refine Ev.bind (folded_ev y hy) (Ev.cond (fun h' => ?_) (fun h' => Ev.val (by rw [if_neg h'])))
  rw [if_pos h']
  refine Ev.pos ⟨by omega, by omega⟩ (Ev.bind (path_ev _ _ _ 0 0 [] rfl (Int.le_refl _) (Int.le_refl _) (by omega) (by omega)) (Ev.val rfl))
/-! the reference's table -/
def mk {α : Type} (n : Nat) (f : Nat → α) : List α := (List.range n).map f
theorem mk_len {α : Type} (n : Nat) (f : Nat → α) : (mk n f).length = n := by unfold mk; rw [List.length_map, List.length_range]
theorem mk_get {α : Type} {n : Nat} {f : Nat → α} {i : Nat} (h : i < n) (z : α) : (mk n f).getD i z = f i := by
  unfold mk
  rw [List.getD_eq_getElem?_getD, List.getElem?_map, List.getElem?_range h]; rfl
theorem mk_ext {α : Type} {n : Nat} {f g : Nat → α} (h : ∀ i, i < n → f i = g i) : mk n f = mk n g := by
  unfold mk
  exact List.map_congr_left fun i hi => h i (List.mem_range.1 hi)
theorem mk_set {α : Type} {n : Nat} {f : Nat → α} {i : Nat} (v : α) : (mk n f).set i v = mk n (fun p => if p = i then v else f p) := by
  unfold mk
  refine List.ext_getElem (by rw [List.length_set, List.length_map, List.length_map]) fun j h1 h2 => ?_
  rw [List.getElem_set, List.getElem_map, List.getElem_map, List.getElem_range]
  by_cases e : i = j
  · rw [if_pos e, if_pos e.symm]
  · rw [if_neg e, if_neg (fun e' => e e'.symm)]
theorem mk_rep {α : Type} (n : Nat) (v : α) : List.replicate n v = mk n (fun _ => v) := by
  unfold mk
  exact (List.eq_replicate_iff.2 ⟨by rw [List.length_map, List.length_range], fun x hx => by obtain ⟨_, _, rfl⟩ := List.mem_map.1 hx; rfl⟩).symm
section
variable (a b : List ByteArray)
def cS (p q : Nat) : Int := (costS (a.drop p) (b.drop q) : Int)
/-- The table when the rows from lo on are done. -/
def tabD (lo : Nat) : List (List Int) := mk (a.length + 1) (fun p => if p < lo then [] else mk (b.length + 1) (cS a b p))
/-- The table when the rows behind i are done, and of row i the places from lo on. -/
def rowR (i lo : Nat) : List Int := mk (b.length + 1) (fun q => if q < lo then 0 else cS a b i q)
def tabR (i lo : Nat) : List (List Int) := mk (a.length + 1) (fun p => if p = i then rowR a b i lo else if p < i then [] else mk (b.length + 1) (cS a b p))
theorem tab_start (i : Nat) : (tabD a b (i + 1)).set i (List.replicate (b.length + 1) 0) = tabR a b i (b.length + 1) := by
  unfold tabD tabR rowR
  rw [mk_set, mk_rep]
  refine mk_ext fun p _ => ?_
  by_cases e : p = i
  · rw [if_pos e, if_pos e]
    exact mk_ext fun q hq => by rw [if_pos hq]
  · rw [if_neg e, if_neg e]
    by_cases e2 : p < i
    · rw [if_pos e2, if_pos (by omega)]
    · rw [if_neg e2, if_neg (by omega)]
theorem tab_done (i : Nat) : tabR a b i 0 = tabD a b i := by
  unfold tabD tabR rowR
  refine mk_ext fun p _ => ?_
  by_cases e : p = i
  · subst e
    rw [if_pos rfl, if_neg (Nat.lt_irrefl _)]
    exact mk_ext fun q _ => by rw [if_neg (Nat.not_lt_zero _)]
  · rw [if_neg e]
theorem tabR_len (i lo : Nat) : (tabR a b i lo).length = a.length + 1 := mk_len _ _
theorem tabR_at (i lo : Nat) (h : i ≤ a.length) : (tabR a b i lo).getD i [] = rowR a b i lo := by
  unfold tabR
  rw [mk_get (by omega), if_pos rfl]
theorem tabR_put (i j : Nat) (v : Int) (hv : v = cS a b i j) : (tabR a b i (j + 1)).set i ((rowR a b i (j + 1)).set j v) = tabR a b i j := by
  unfold tabR
  rw [mk_set]
  refine mk_ext fun p _ => ?_
  by_cases e : p = i
  · rw [if_pos e, if_pos e]
    unfold rowR
    rw [mk_set]
    refine mk_ext fun q _ => ?_
    by_cases e2 : q = j
    · subst e2
      rw [if_pos rfl, if_neg (Nat.lt_irrefl _), hv]
    · rw [if_neg e2]
      by_cases e3 : q < j
      · rw [if_pos (by omega), if_pos e3]
      · rw [if_neg (by omega), if_neg e3]
  · rw [if_neg e, if_neg e, if_neg e]
theorem cS_end (i j : Nat) (h : i = a.length ∨ j = b.length) (hi : i ≤ a.length) (hj : j ≤ b.length) : cS a b i j = (a.length : Int) - i + b.length - j := by
  unfold cS costS
  rcases h with rfl | rfl
  · rw [List.drop_length, apparatus_Words.cost_nil, List.length_drop]; omega
  · rw [List.drop_length, apparatus_Words.cost_end, List.length_drop]; omega
def unl (x y : ByteArray) : Int := if x.toList = y.toList then 0 else 1
theorem cS_step (i j : Nat) (hi : i < a.length) (hj : j < b.length) : cS a b i j = mn (mn (unl (rdOf ByteArray.empty a i) (rdOf ByteArray.empty b j) + cS a b (i + 1) (j + 1)) (1 + cS a b (i + 1) j)) (1 + cS a b i (j + 1)) := by
  have ea := apparatus_Words.drop_at a hi
  have eb := apparatus_Words.drop_at b hj
  have h := apparatus_Words.cost_cons (rdOf ByteArray.empty a (i : Int)) (a.drop (i + 1)) (rdOf ByteArray.empty b (j : Int)) (b.drop (j + 1))
  rw [← ea, ← eb] at h
  unfold cS costS mn unl
  rw [h]
  generalize apparatus_Words.cost (a.drop (i + 1)) (b.drop (j + 1)) = c1
  generalize apparatus_Words.cost (a.drop (i + 1)) (b.drop j) = c2
  generalize apparatus_Words.cost (a.drop i) (b.drop (j + 1)) = c3
  by_cases e : (rdOf ByteArray.empty a (i : Int)).toList = (rdOf ByteArray.empty b (j : Int)).toList
  · simp only [if_pos e]
    split <;> split <;> omega
  · simp only [if_neg e]
    split <;> split <;> omega
theorem cS_range (i j : Nat) : 0 ≤ cS a b i j ∧ cS a b i j ≤ (a.length : Int) + b.length := by
  have := apparatus_Words.cost_le (a.drop i) (b.drop j)
  rw [List.length_drop, List.length_drop] at this
  unfold cS costS
  omega
end
theorem unl_range (x y : ByteArray) : 0 ≤ unl x y ∧ unl x y ≤ 1 := by unfold unl; split <;> omega
theorem rdA (l : List Int) (i : Nat) : rd l (i : Int) = l.getD i 0 := by unfold rd; rw [Int.toNat_natCast]
end Go.Proofs.Ytmjigfoldeekmaa.Lem
