/- Chapter 54: a tree has a node for each beginning of its words. -/
import Derived.Test.YtdaooagikacboaaT1
namespace Go.Proofs.Ytdaooagikacboaa.Lem
open Go.RowKit Go.Proofs.Ytdaooagikacboaa.X Go.Proofs.YtdaooagikacboaaW.PrintWords Go.Proofs.YtdaooagikacboaaW.PrintLast
theorem nodup_le {α : Type} [BEq α] [LawfulBEq α] : ∀ (a b : List α), a.Nodup → (∀ x ∈ a, x ∈ b) → a.length ≤ b.length
  | [], _, _, _ => Nat.zero_le _
  | x :: r, b, hn, hs => by
    have hx := hs x (List.mem_cons_self ..)
    have hp := List.nodup_cons.1 hn
    have ih := nodup_le r (b.erase x) hp.2 (fun y hy => (List.mem_erase_of_ne (fun (e : y = x) => hp.1 (e ▸ hy))).2 (hs y (List.mem_cons_of_mem _ hy)))
    rw [List.length_erase_of_mem hx] at ih
    have := List.length_pos_of_mem hx
    simp only [List.length_cons]
    omega
theorem nodup_cons_map (c : UInt8) : ∀ Q : List (List UInt8), Q.Nodup → (Q.map (c :: ·)).Nodup
  | [], _ => List.Pairwise.nil
  | x :: r, h => by
    have hp := List.nodup_cons.1 h
    refine List.nodup_cons.2 ⟨fun hm => ?_, nodup_cons_map c r hp.2⟩
    obtain ⟨y, hy, he⟩ := List.mem_map.1 hm
    exact hp.1 ((List.cons.inj he).2 ▸ hy)
mutual
theorem Tr.paths : ∀ {ts : List (List UInt8)} {s : Int} {b : Nat} {N : List Lf}, Tr ts s b N → ∃ Q : List (List UInt8), Q.length = N.length ∧ Q.Nodup ∧ ∀ q, q ∈ Q ↔ (q = [] ∨ ∃ t ∈ ts, q <+: t)
  | _, _, _, _, Tr.mk (ts := ts) (rs := rs) (e := e) he h => by
    obtain ⟨Q, h1, h2, h3⟩ := Gr.paths h
    refine ⟨[] :: Q, by rw [List.length_cons, List.length_cons, h1], List.nodup_cons.2 ⟨fun hm => ((h3 []).1 hm).1 rfl, h2⟩, fun q => ?_⟩
    rw [List.mem_cons, h3, he]
    by_cases hq : q = []
    · exact ⟨fun _ => .inl hq, fun _ => .inl hq⟩
    · constructor
      · rintro (h4 | ⟨_, t, ht, h5⟩)
        · exact .inl h4
        · refine .inr ⟨t, ?_, h5⟩
          split
          · exact List.mem_cons_of_mem _ ht
          · exact ht
      · rintro (h4 | ⟨t, ht, h5⟩)
        · exact .inl h4
        · refine .inr ⟨hq, ?_⟩
          split at ht
          · rcases List.mem_cons.1 ht with rfl | ht
            · exact absurd (List.prefix_nil.1 h5) hq
            · exact ⟨t, ht, h5⟩
          · exact ⟨t, ht, h5⟩
theorem Gr.paths : ∀ {rs : List (List UInt8)} {b : Nat} {K : List Int} {N : List Lf}, Gr rs b K N → ∃ Q : List (List UInt8), Q.length = N.length ∧ Q.Nodup ∧ ∀ q, q ∈ Q ↔ (q ≠ [] ∧ ∃ t ∈ rs, q <+: t)
  | _, _, _, _, Gr.nil => ⟨[], rfl, List.Pairwise.nil, fun q => by simp⟩
  | _, _, _, _, Gr.cons (g := g) (rem := rem) (c := c) hg hc h h2 => by
    obtain ⟨Q1, a1, a2, a3⟩ := Tr.paths h
    obtain ⟨Q2, b1, b2, b3⟩ := Gr.paths h2
    refine ⟨Q1.map (c :: ·) ++ Q2, by rw [List.length_append, List.length_map, List.length_append, a1, b1], List.nodup_append.2 ⟨nodup_cons_map c Q1 a2, b2, ?_⟩, fun q => ?_⟩
    · intro x hx y hy hxy
      obtain ⟨z, hz, rfl⟩ := List.mem_map.1 hx
      obtain ⟨h5, t, ht, h6⟩ := (b3 y).1 hy
      obtain ⟨c', t', rfl, hlt⟩ := hc t ht
      rw [← hxy] at h6
      rcases List.prefix_cons_iff.1 h6 with h7 | ⟨u, h7, _⟩
      · cases h7
      · rw [(List.cons.inj h7).1] at hlt
        exact UInt8.lt_irrefl _ hlt
    · rw [List.mem_append, b3]
      constructor
      · rintro (hx | ⟨h5, t, ht, h6⟩)
        · obtain ⟨z, hz, rfl⟩ := List.mem_map.1 hx
          refine ⟨by simp, ?_⟩
          rcases (a3 z).1 hz with rfl | ⟨t, ht, h6⟩
          · obtain ⟨t, ht⟩ : ∃ t, t ∈ g := List.exists_mem_of_ne_nil g hg
            exact ⟨c :: t, List.mem_append_left _ (List.mem_map_of_mem ht), List.prefix_cons_iff.2 (.inr ⟨[], rfl, List.nil_prefix⟩)⟩
          · exact ⟨c :: t, List.mem_append_left _ (List.mem_map_of_mem ht), List.prefix_cons_iff.2 (.inr ⟨z, rfl, h6⟩)⟩
        · exact ⟨h5, t, List.mem_append_right _ ht, h6⟩
      · rintro ⟨h5, t, ht, h6⟩
        rcases List.mem_append.1 ht with ht | ht
        · left
          obtain ⟨u, hu, rfl⟩ := List.mem_map.1 ht
          rcases List.prefix_cons_iff.1 h6 with h7 | ⟨z, rfl, h7⟩
          · exact absurd h7 h5
          · exact List.mem_map.2 ⟨z, (a3 z).2 (.inr ⟨u, hu, h7⟩), rfl⟩
        · exact .inr ⟨h5, t, ht, h6⟩
end
end Go.Proofs.Ytdaooagikacboaa.Lem
