-- cut down by this session's prune2.py to what the claims name; Lean checks it
/- Arguments of a law that are rows of strings, of structs or of rows, opened by their kinds: what is read, and how large it can be. -/
import Derived.Test.YtdaooagikacboaaXB
import Derived.ChangeArms
import Derived.OpenShut
import Derived.SizedLaws
import Derived.DataReads
import Derived.ChangeSlices
namespace Go.Proofs.Ytdaooagikacboaa.Open
open Go.RowKit Go.Proofs.YtdaooagikacboaaW.PrintWords
/-- Whatever is read as a datum of type t, is d's of some value that is good. -/
def Opens {α : Type} (P : Program) (d : Kd α) (t : TypeId) (good : α → Prop) : Prop :=
  ∀ (H : Type) (enc : TypeId × Value → H) (w : World) (base : Nat) (spare : Nat → Bool) (held : Bool) (fuel : Nat) (cs : List Value) (x : DataW H × List MemPlace),
    DataW.trod enc P w base spare held fuel t cs = some x → (∀ n ∈ x.1.weights P t, n ≤ reachBytes) → ∃ a, d.K w a cs ∧ good a
theorem opens_string {P : Program} {t : TypeId} (ht : P.underlying t = some .string) : Opens P Kd.string t (fun s => s.size ≤ 140737488351232) := by
  intro H enc w base spare held fuel cs x h hw
  obtain ⟨s, rfl, rfl, _⟩ := DataW.trod_string ht h
  refine ⟨s, rfl, ?_⟩
  have := hw s.data.toList.length (by simp [DataW.weights])
  rw [data_length] at this
  exact Nat.le_trans this (by decide)
theorem choose_list {α : Type} (Q : Nat → α → Prop) : ∀ n : Nat, (∀ i, i < n → ∃ a, Q i a) → ∃ xs : List α, xs.length = n ∧ ∀ i a, xs[i]? = some a → Q i a
  | 0, _ => ⟨[], rfl, fun i a h => by simp at h⟩
  | n + 1, h => by
    obtain ⟨xs, hl, hx⟩ := choose_list Q n (fun i hi => h i (by omega))
    obtain ⟨a, ha⟩ := h n (by omega)
    refine ⟨xs ++ [a], by rw [List.length_append, hl]; rfl, fun i b hb => ?_⟩
    by_cases hi : i < n
    · rw [List.getElem?_append_left (by omega)] at hb
      exact hx i b hb
    · have hlt : i < (xs ++ [a]).length := (List.getElem?_eq_some_iff.1 hb).1
      rw [List.length_append, hl] at hlt
      simp only [List.length_singleton] at hlt
      have : i = n := by omega
      subst this
      rw [List.getElem?_append_right (by omega), hl, Nat.sub_self] at hb
      have : a = b := by simpa using hb
      exact this ▸ ha
theorem weights_all {H : Type} {P : Program} {e : TypeId} {y : DataW H} {n : Nat} (hn : n ∈ y.weights P e) : ∀ {l : List (DataW H)}, y ∈ l → n ∈ DataW.weightsAll P e l
  | [], h => by simp at h
  | d :: r, h => by
    rw [DataW.weightsAll]
    rcases List.mem_cons.1 h with rfl | h
    · exact List.mem_append_left _ hn
    · exact List.mem_append_right _ (weights_all hn h)
theorem C_nil {α : Type} (d : Kd α) (w : World) : d.C w none 0 [] := ⟨rfl, by omega, fun h => absurd h (by omega)⟩
/-- A row. -/
theorem opens_slice {α : Type} {P : Program} {d : Kd α} {t e : TypeId} {good : α → Prop} {B : Nat} (ht : P.underlying t = some (.slice e)) (hc : P.cellsOf e = d.sz) (hB : P.bytesOf e = B) (hd : Opens P d e good) :
    Opens P (Kd.slice e d) t (fun xs => xs.length ≤ maxLen ∧ xs.length * B ≤ 140737488351232 ∧ ∀ x ∈ xs, good x) := by
  intro H enc w base spare held fuel cs x h hw
  rcases DataW.trod_slice ht h with ⟨rfl, rfl⟩ | ⟨a, len, cap, elems, rest, n, rfl, rfl, rfl, hb, hl, hm, hlen, hel, _, _⟩
  · exact ⟨[], ⟨none, 0, rfl, Nat.le_refl _, C_nil d w⟩, Nat.zero_le _, by simp, fun x hx => by simp at hx⟩
  have hw0 := hw
  simp only [DataW.weights, ht] at hw
  have each : ∀ i, i < len → ∃ b, (∃ cs', w.cells? base (a.add (i * P.cellsOf e)) (P.cellsOf e) = some cs' ∧ d.K w b cs') ∧ good b := by
    intro i hi
    have hy := hel i hi
    rw [List.getElem?_eq_getElem (by omega : i < elems.length)] at hy
    obtain ⟨cs', hcs, hy'⟩ := Option.bind_eq_some_iff.1 hy
    obtain ⟨b, hk, hg⟩ := hd H enc w base spare held n cs' _ hy' (fun m hm' => hw m (List.mem_cons_of_mem _ (List.mem_append_left _ (weights_all hm' (List.mem_map_of_mem (List.getElem_mem _))))))
    exact ⟨b, ⟨cs', hcs, hk⟩, hg⟩
  obtain ⟨xs, hxl, hx⟩ := choose_list _ len each
  refine ⟨xs, ⟨some a, cap, by rw [hxl], by omega, rfl, ?_, fun hp => ⟨a, rfl, fun j p hj => ?_⟩⟩, by omega, ?_, ?_⟩
  · have : len ≤ maxLen := Nat.le_trans hl hm
    rw [hxl]; exact Nat.le_trans this (by decide)
  · obtain ⟨⟨cs', hcs, hk⟩, _⟩ := hx j p hj
    rw [hc] at hcs
    obtain ⟨_, hlen', hcell⟩ := World.cells?_some hcs
    refine ⟨cs', hlen', hk, fun i u hu => ?_⟩
    have hi : i < d.sz := by rw [← hlen']; exact (List.getElem?_eq_some_iff.1 hu).1
    have := hcell i hi
    rw [hu] at this
    rw [← this]
    congr 1
    exact (add_add _ _ _).symm
  · have := hw _ List.mem_cons_self
    rw [hB, List.length_map, List.length_map, hlen] at this
    rw [hxl]
    exact Nat.le_trans (Nat.mul_le_mul_right B (by omega : len ≤ len + rest.length)) (Nat.le_trans this (by decide))
  · intro y hy
    obtain ⟨j, hj⟩ := List.getElem?_of_mem hy
    exact (hx j y hj).2
theorem weights_agg {H : Type} {P : Program} {t : TypeId} {fs : Array Field} (ht : P.underlying t = some (.struct fs)) {parts : List (DataW H)} {j : Nat} {f : Field} {d : DataW H} (hf : fs[j]? = some f) (hd : parts[j]? = some d) : ∀ n ∈ d.weights P f.type, n ∈ (DataW.agg parts).weights P t := by
  intro n hn
  simp only [DataW.weights, ht]
  refine DataW.weights_mem_each (j := j) ?_ hd n hn
  rw [List.getElem?_map, Array.getElem?_toList, hf]; rfl
/-- What is handed in as the j-th argument. -/
theorem opens_arg {α : Type} {P : Program} {d : Kd α} {t : TypeId} {good : α → Prop} {H : Type} {enc : TypeId × Value → H} {W : World} {spare : Nat → Bool} {held : Bool} {v : Value} {dt : DataW H} {ps : List MemPlace} {ts : List TypeId} {ds : List (DataW H)} {j : Nat}
    (hd : Opens P d t good) (hsz : (DataW.weightsEach P ts ds).all (· ≤ reachBytes) = true) (ht : ts[j]? = some t) (hj : ds[j]? = some dt) (h : DataW.Trod enc P W 0 spare held t v dt ps) : ∃ a, d.K W a v.cells.toList ∧ good a := by
  obtain ⟨fuel, hf⟩ := h
  exact hd H enc W 0 spare held fuel _ _ hf (fun n hn => by
    have := DataW.weights_mem_each ht hj n hn
    simpa using List.all_eq_true.1 hsz n this)
end Go.Proofs.Ytdaooagikacboaa.Open
