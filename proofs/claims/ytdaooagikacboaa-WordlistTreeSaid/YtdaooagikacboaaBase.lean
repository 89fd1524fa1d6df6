/- Plain lemmas of every chapter: numbers, rounds, bytes of a string as a list. -/
import Derived.Test.YtdaooagikacboaaX0
namespace Go.Proofs.Ytdaooagikacboaa.Lem
open Go.RowKit Go.Proofs.Ytdaooagikacboaa.X Go.Proofs.YtdaooagikacboaaW.PrintWords Go.Proofs.YtdaooagikacboaaW.PrintLast
/-! numbers, rounds -/
theorem w64 {i : Int} (h0 : -9223372036854775808 ≤ i) (h1 : i ≤ 9223372036854775807) : wrap64 i = i := by unfold wrap64; omega
theorem Ev.pos {α : Type} {c : Prop} [Decidable c] {f g : Nat → Option α} {r : α} (h : c) (k : Ev f r) : Ev (fun n => if c then f n else g n) r := by simpa only [if_pos h] using k
theorem Ev.neg {α : Type} {c : Prop} [Decidable c] {f g : Nat → Option α} {r : α} (h : ¬ c) (k : Ev g r) : Ev (fun n => if c then f n else g n) r := by simpa only [if_neg h] using k
theorem Ev.cond {α : Type} {c : Prop} [Decidable c] {f g : Nat → Option α} {r : α} (h : c → Ev f r) (h' : ¬ c → Ev g r) : Ev (fun n => if c then f n else g n) r := by
  by_cases hc : c
  · exact Ev.pos hc (h hc)
  · exact Ev.neg hc (h' hc)
theorem Ev.just {α β : Type} {a : α} {f : Nat → α → Option β} {r : β} (k : Ev (fun n => f n a) r) : Ev (fun n => (some a).bind (f n)) r := by simpa only [Option.bind_some] using k
theorem Ev.val {α : Type} {a r : α} (h : a = r) : Ev (fun _ => some a) r := h ▸ Ev.now _
theorem Ev.now' {α : Type} {x : Option α} {r : α} (h : x = some r) : Ev (fun _ => x) r := h ▸ Ev.now _
theorem Ev.uniq {α : Type} {g : Nat → Option α} {a b : α} (h : Ev g a) (h' : Ev g b) : a = b := by
  obtain ⟨K, hK⟩ := h
  obtain ⟨L, hL⟩ := h'
  have h1 := hK (max K L) (Nat.le_max_left _ _)
  rw [hL (max K L) (Nat.le_max_right _ _)] at h1
  exact (Option.some.inj h1).symm
/-! bytes -/
theorem bytesOf_get (s : ByteArray) (i : Nat) (h : i < s.size) : (bytesOf s)[i]'(by rw [bytesOf_length]; exact h) = bt s (i : Int) := by
  rw [← rd_bytesOf]; unfold rd; rw [Int.toNat_natCast, List.getD_eq_getElem?_getD, List.getElem?_eq_getElem (by rw [bytesOf_length]; exact h)]; rfl
theorem bytesOf_range (s : ByteArray) : ∀ c ∈ bytesOf s, 0 ≤ c ∧ c ≤ 255 := by
  intro c hc
  unfold bytesOf at hc
  obtain ⟨b, _, rfl⟩ := List.mem_map.1 hc
  have := UInt8.toNat_lt b
  omega
theorem bytesOf_str (xs : List Int) (h : ∀ c ∈ xs, 0 ≤ c ∧ c ≤ 255) : bytesOf (strOfNums xs) = xs := by
  unfold bytesOf strOfNums
  simp only [List.map_map]
  refine (List.map_congr_left (g := id) fun c hc => ?_).trans (List.map_id _)
  have := h c hc
  simp only [Function.comp, id, UInt8.toNat_ofNat']
  omega
theorem bytes_ext {a b : ByteArray} : a.toList = b.toList ↔ a = b := by
  rw [Lib.toList_data, Lib.toList_data]
  constructor
  · intro h
    cases a; cases b
    congr 1
    exact Array.toList_inj.1 h
  · rintro rfl; rfl
theorem toNat_map_inj : ∀ {a b : List UInt8}, a.map (fun x => (x.toNat : Int)) = b.map (fun x => (x.toNat : Int)) → a = b
  | [], [], _ => rfl
  | [], _ :: _, h => by simp at h
  | _ :: _, [], h => by simp at h
  | x :: a, y :: b, h => by
    rw [List.map_cons, List.map_cons] at h
    obtain ⟨h1, h2⟩ := List.cons.inj h
    obtain rfl := toNat_map_inj h2
    obtain rfl : x = y := UInt8.toNat_inj.1 (by omega)
    rfl
theorem bytesOf_inj {a b : ByteArray} (h : bytesOf a = bytesOf b) : a = b := by
  rw [← bytes_ext, Lib.toList_data, Lib.toList_data]
  exact toNat_map_inj h
theorem list_nil {s : ByteArray} : s.toList = ([] : List UInt8) ↔ s.size = 0 := by
  rw [Lib.toList_data, ← data_length, List.length_eq_zero_iff]
theorem drop_ge (s : ByteArray) (i : Nat) (h : s.size ≤ i) : (bytesOf s).drop i = [] := List.drop_eq_nil_of_le (by rw [bytesOf_length]; exact h)
theorem drop_lt (s : ByteArray) (i : Nat) (h : i < s.size) : (bytesOf s).drop i = bt s i :: (bytesOf s).drop (i + 1) := by
  rw [List.drop_eq_getElem_cons (by rw [bytesOf_length]; exact h), bytesOf_get s i h]
theorem drop_len (s : ByteArray) (i : Nat) : ((bytesOf s).drop i).length = s.size - i := by rw [List.length_drop, bytesOf_length]
theorem bytesOf_extract (s : ByteArray) (a b : Nat) : bytesOf (s.extract a b) = ((bytesOf s).take b).drop a := by
  unfold bytesOf
  rw [ByteArray.data_extract, Array.toList_extract, List.map_take, List.map_drop, List.drop_take]
theorem extract_size (s : ByteArray) (a b : Nat) : (s.extract a b).size = min b s.size - a := by rw [ByteArray.size_extract]
theorem bytesOf_tail (s : ByteArray) (a : Nat) : bytesOf (s.extract a s.size) = (bytesOf s).drop a := by
  rw [bytesOf_extract, List.take_of_length_le (by rw [bytesOf_length]; exact Nat.le_refl _)]
theorem bytesOf_app (a b : ByteArray) : bytesOf (a ++ b) = bytesOf a ++ bytesOf b := by
  unfold bytesOf; rw [ByteArray.data_append, Array.toList_append, List.map_append]
theorem bytesOf_nil {s : ByteArray} : bytesOf s = [] ↔ s.size = 0 := by rw [← List.length_eq_zero_iff, bytesOf_length]
theorem bt_head (s : ByteArray) (c : Int) (l : List Int) (h : bytesOf s = c :: l) : bt s 0 = c ∧ 0 < s.size := by
  have hs : 0 < s.size := by rw [← bytesOf_length, h]; simp
  have := drop_lt s 0 hs
  rw [List.drop_zero, h] at this
  exact ⟨(List.cons.inj this).1.symm, hs⟩
theorem byte_fin {c : Int} (h : 0 ≤ c ∧ c ≤ 255) : ∃ n : Fin 256, c = ((n.val : Nat) : Int) := ⟨⟨c.toNat, by omega⟩, by simp only; omega⟩
theorem append_inj_bytes {a b : ByteArray} : a = b ↔ bytesOf a = bytesOf b := ⟨fun h => h ▸ rfl, bytesOf_inj⟩
end Go.Proofs.Ytdaooagikacboaa.Lem
