/- Plain lemmas of chapter 45, no program in sight: alignments of two lists of signs, their costs, the cheapest cost. -/
import Derived.Test.YtnnonjjmlbemfaaRows
namespace Go.Proofs.Ytnnonjjmlbemfaa.Al
/-- can two signs be equal (120 is x, 117 u, 45 -) -/
def agr (a b : Int) : Bool := a == b || a == 120 || b == 120
def sub (a b : Int) : Int := if agr a b then 0 else 3
def hv (a : Int) : Bool := a != 117
def lt (a : Int) : Bool := a != 45
theorem agr_comm (a b : Int) : agr a b = agr b a := by
  unfold agr
  rw [Bool.eq_iff_iff]; simp only [Bool.or_eq_true, beq_iff_eq]; omega
theorem sub_comm (a b : Int) : sub a b = sub b a := by unfold sub; rw [agr_comm]
theorem sub_self (a : Int) : sub a a = 0 := by unfold sub agr; simp
theorem sub_nonneg (a b : Int) : 0 ≤ sub a b := by unfold sub; split <;> omega
/-- one step: what is left, and its cost -/
def st (k : Int) (P Q : List Int) : Option (List Int × List Int × Int) :=
  if k = 0 then (match P, Q with | a :: P', b :: Q' => some (P', Q', sub a b) | _, _ => none)
  else if k = 1 then (match P, Q with | a :: P', b :: c :: Q' => if (hv a && lt b && lt c) = true then some (P', Q', 1) else none | _, _ => none)
  else if k = 2 then (match P, Q with | a :: b :: P', c :: Q' => if (lt a && lt b && hv c) = true then some (P', Q', 1) else none | _, _ => none)
  else if k = 3 then (match P with | _ :: P' => some (P', Q, 4) | _ => none)
  else if k = 4 then (match Q with | _ :: Q' => some (P, Q', 4) | _ => none)
  else none
/-- what one step takes of both, and its cost -/
inductive Pc : List Int → List Int → Int → Prop
  | m (a b : Int) : Pc [a] [b] (sub a b)
  | rl (a b c : Int) : hv a = true → lt b = true → lt c = true → Pc [a] [b, c] 1
  | rr (a b c : Int) : lt a = true → lt b = true → hv c = true → Pc [a, b] [c] 1
  | sl (a : Int) : Pc [a] [] 4
  | sr (b : Int) : Pc [] [b] 4
theorem Pc.swap {x y : List Int} {c : Int} (h : Pc x y c) : Pc y x c := by
  cases h with
  | m a b => rw [sub_comm]; exact .m b a
  | rl a b c h1 h2 h3 => exact .rr b c a h2 h3 h1
  | rr a b c h1 h2 h3 => exact .rl c a b h3 h1 h2
  | sl a => exact .sr a
  | sr b => exact .sl b
theorem Pc.rev {x y : List Int} {c : Int} (h : Pc x y c) : Pc x.reverse y.reverse c := by
  cases h with
  | m a b => exact .m a b
  | rl a b c h1 h2 h3 => exact .rl a c b h1 h3 h2
  | rr a b c h1 h2 h3 => exact .rr b a c h2 h1 h3
  | sl a => exact .sl a
  | sr b => exact .sr b
theorem Pc.nonneg {x y : List Int} {c : Int} (h : Pc x y c) : 0 ≤ c := by
  cases h with
  | m a b => exact sub_nonneg a b
  | _ => decide
theorem Pc.st {x y : List Int} {c : Int} (h : Pc x y c) : ∃ k, (k = 0 ∨ k = 1 ∨ k = 2 ∨ k = 3 ∨ k = 4) ∧ ∀ P Q, st k (x ++ P) (y ++ Q) = some (P, Q, c) := by
  cases h with
  | m a b => exact ⟨0, by omega, fun P Q => rfl⟩
  | rl a b c h1 h2 h3 => exact ⟨1, by omega, fun P Q => by show (if (hv a && lt b && lt c) = true then some (P, Q, (1 : Int)) else none) = _; rw [if_pos (by rw [h1, h2, h3]; rfl)]⟩
  | rr a b c h1 h2 h3 => exact ⟨2, by omega, fun P Q => by show (if (lt a && lt b && hv c) = true then some (P, Q, (1 : Int)) else none) = _; rw [if_pos (by rw [h1, h2, h3]; rfl)]⟩
  | sl a => exact ⟨3, by omega, fun P Q => rfl⟩
  | sr b => exact ⟨4, by omega, fun P Q => rfl⟩
theorem st_kind {k : Int} {P Q : List Int} {r : List Int × List Int × Int} (h : st k P Q = some r) : k = 0 ∨ k = 1 ∨ k = 2 ∨ k = 3 ∨ k = 4 := by
  unfold st at h
  by_cases h0 : k = 0
  · omega
  · by_cases h1 : k = 1
    · omega
    · by_cases h2 : k = 2
      · omega
      · by_cases h3 : k = 3
        · omega
        · by_cases h4 : k = 4
          · omega
          · rw [if_neg h0, if_neg h1, if_neg h2, if_neg h3, if_neg h4] at h; cases h
theorem st_pc {k : Int} {P Q P' Q' : List Int} {c : Int} (h : st k P Q = some (P', Q', c)) : ∃ x y, Pc x y c ∧ P = x ++ P' ∧ Q = y ++ Q' := by
  rcases st_kind h with rfl | rfl | rfl | rfl | rfl
  · cases P with
    | nil => cases h
    | cons a P1 => cases Q with
      | nil => cases h
      | cons b Q1 => cases h; exact ⟨[a], [b], .m a b, rfl, rfl⟩
  · match P, Q, h with
    | a :: P1, b :: c :: Q1, h =>
      have h' : (if (hv a && lt b && lt c) = true then some (P1, Q1, (1 : Int)) else none) = some (P', Q', _) := h
      by_cases hc : (hv a && lt b && lt c) = true
      · rw [if_pos hc] at h'
        cases h'
        simp only [Bool.and_eq_true] at hc
        exact ⟨[a], [b, c], .rl a b c hc.1.1 hc.1.2 hc.2, rfl, rfl⟩
      · rw [if_neg hc] at h'; cases h'
    | [], _, h => cases h
    | _ :: _, [], h => cases h
    | _ :: _, [_], h => cases h
  · match P, Q, h with
    | a :: b :: P1, c :: Q1, h =>
      have h' : (if (lt a && lt b && hv c) = true then some (P1, Q1, (1 : Int)) else none) = some (P', Q', _) := h
      by_cases hc : (lt a && lt b && hv c) = true
      · rw [if_pos hc] at h'
        cases h'
        simp only [Bool.and_eq_true] at hc
        exact ⟨[a, b], [c], .rr a b c hc.1.1 hc.1.2 hc.2, rfl, rfl⟩
      · rw [if_neg hc] at h'; cases h'
    | [], _, h => cases h
    | [_], _, h => cases h
    | _ :: _ :: _, [], h => cases h
  · cases P with
    | nil => cases h
    | cons a P1 => cases h; exact ⟨[a], [], .sl a, rfl, rfl⟩
  · cases Q with
    | nil => cases h
    | cons b Q1 => cases h; exact ⟨[], [b], .sr b, rfl, rfl⟩
theorem st_len {k : Int} {P Q P' Q' : List Int} {c : Int} (h : st k P Q = some (P', Q', c)) : P'.length + Q'.length + 1 ≤ P.length + Q.length := by
  obtain ⟨x, y, hp, rfl, rfl⟩ := st_pc h
  rw [List.length_append, List.length_append]
  cases hp <;> simp <;> omega
/-- alignments by their pieces, with their costs -/
inductive Al : List Int → List Int → Int → Prop
  | nil : Al [] [] 0
  | step {x y P Q : List Int} {c d : Int} : Pc x y c → Al P Q d → Al (x ++ P) (y ++ Q) (c + d)
theorem Al.app {P Q : List Int} {c : Int} (h : Al P Q c) : ∀ {P' Q' : List Int} {c' : Int}, Al P' Q' c' → Al (P ++ P') (Q ++ Q') (c + c') := by
  induction h with
  | nil => intro P' Q' c' h'; rw [List.nil_append, List.nil_append, Int.zero_add]; exact h'
  | step hp _ ih => intro P' Q' c' h'; rw [List.append_assoc, List.append_assoc, Int.add_assoc]; exact .step hp (ih h')
theorem Al.one {x y : List Int} {c : Int} (h : Pc x y c) : Al x y c := by
  have := Al.step h .nil
  rwa [List.append_nil, List.append_nil, Int.add_zero] at this
theorem Al.swap {P Q : List Int} {c : Int} (h : Al P Q c) : Al Q P c := by
  induction h with
  | nil => exact .nil
  | step hp _ ih => exact .step hp.swap ih
theorem Al.rev {P Q : List Int} {c : Int} (h : Al P Q c) : Al P.reverse Q.reverse c := by
  induction h with
  | nil => exact .nil
  | step hp _ ih => rw [List.reverse_append, List.reverse_append, Int.add_comm]; exact ih.app (.one hp.rev)
theorem Al.nonneg {P Q : List Int} {c : Int} (h : Al P Q c) : 0 ≤ c := by
  induction h with
  | nil => decide
  | step hp _ ih => have := hp.nonneg; omega
theorem Al.same : ∀ F : List Int, Al F F 0
  | [] => .nil
  | a :: F => by
    have := Al.step (.m a a) (Al.same F)
    rw [sub_self] at this
    exact this
theorem Al.skips : ∀ Q : List Int, Al [] Q (4 * Q.length)
  | [] => .nil
  | b :: Q => by
    have := Al.step (.sr b) (Al.skips Q)
    rw [List.length_cons, show (4 * ((Q.length + 1 : Nat) : Int)) = 4 + 4 * Q.length by omega]
    exact this
theorem Al.all : ∀ P Q : List Int, Al P Q (4 * P.length + 4 * Q.length)
  | [], Q => by
    have := Al.skips Q
    rw [List.length_nil, show (4 * ((0 : Nat) : Int) + 4 * (Q.length : Int)) = 4 * Q.length by omega]
    exact this
  | a :: P, Q => by
    have := Al.step (.sl a) (Al.all P Q)
    rw [List.length_cons, show (4 * ((P.length + 1 : Nat) : Int) + 4 * (Q.length : Int)) = 4 + (4 * P.length + 4 * Q.length) by omega]
    exact this
/-! an x in the place of a sign makes nothing dearer -/
theorem agr_x (b : Int) : agr 120 b = true := by unfold agr; simp
theorem Pc.x {x y : List Int} {c : Int} (h : Pc x y c) : ∀ i, i < x.length → ∃ c', Pc (x.set i 120) y c' ∧ c' ≤ c := by
  intro i hi
  cases h with
  | m a b =>
    obtain rfl : i = 0 := by simp at hi; omega
    exact ⟨sub 120 b, .m 120 b, by have := sub_nonneg a b; unfold sub; rw [if_pos (agr_x b)]; exact this⟩
  | rl a b c h1 h2 h3 =>
    obtain rfl : i = 0 := by simp at hi; omega
    exact ⟨1, .rl 120 b c rfl h2 h3, Int.le_refl _⟩
  | rr a b c h1 h2 h3 =>
    simp at hi
    have hi : i = 0 ∨ i = 1 := by omega
    rcases hi with rfl | rfl
    · exact ⟨1, .rr 120 b c rfl h2 h3, Int.le_refl _⟩
    · exact ⟨1, .rr a 120 c h1 rfl h3, Int.le_refl _⟩
  | sl a =>
    obtain rfl : i = 0 := by simp at hi; omega
    exact ⟨4, .sl 120, Int.le_refl _⟩
  | sr b => simp at hi
theorem Al.x {P Q : List Int} {c : Int} (h : Al P Q c) : ∀ i, i < P.length → ∃ c', Al (P.set i 120) Q c' ∧ c' ≤ c := by
  induction h with
  | nil => intro i hi; simp at hi
  | @step x y P Q c d hp ha ih =>
    intro i hi
    by_cases hx : i < x.length
    · obtain ⟨c', h1, h2⟩ := hp.x i hx
      refine ⟨c' + d, ?_, by omega⟩
      rw [List.set_append_left _ _ hx]
      exact .step h1 ha
    · rw [List.length_append] at hi
      obtain ⟨d', h1, h2⟩ := ih (i - x.length) (by omega)
      refine ⟨c + d', ?_, by omega⟩
      rw [List.set_append_right _ _ (by omega)]
      exact .step hp h1
/-! at no cost: they match -/
def mat : List Int → List Int → Bool
  | [], [] => true
  | a :: P, b :: Q => agr a b && mat P Q
  | _, _ => false
theorem mat_al : ∀ {P Q : List Int}, mat P Q = true → Al P Q 0
  | [], [], _ => .nil
  | a :: P, b :: Q, h => by
    simp only [mat, Bool.and_eq_true] at h
    have := Al.step (.m a b) (mat_al h.2)
    rw [show sub a b = 0 by unfold sub; rw [if_pos h.1]] at this
    exact this
  | [], _ :: _, h => by simp [mat] at h
  | _ :: _, [], h => by simp [mat] at h
theorem al_mat {P Q : List Int} {c : Int} (h : Al P Q c) : c = 0 → mat P Q = true := by
  induction h with
  | nil => intro _; rfl
  | step hp ha ih =>
    intro hc
    have h1 := hp.nonneg
    have h2 := ha.nonneg
    have hd := ih (by omega)
    cases hp with
    | m a b =>
      refine (Bool.and_eq_true _ _).mpr ⟨?_, hd⟩
      by_cases hg : agr a b = true
      · exact hg
      · have : sub a b = 3 := by unfold sub; rw [if_neg hg]
        omega
    | _ => omega
/-! the cheapest cost -/
def pickF (f : Int → Option Int) (b k : Int) : Int := match f k with | some v => if b < 0 ∨ v < b then v else b | none => b
def pick (f : Int → Option Int) : Int := [0, 1, 2, 3, 4].foldl (pickF f) (-1)
theorem fold_pick (f : Int → Option Int) (hf : ∀ k v, f k = some v → 0 ≤ v) : ∀ (ks : List Int) (b : Int), let r := ks.foldl (pickF f) b
    (r = b ∨ ∃ k ∈ ks, f k = some r) ∧ (∀ k ∈ ks, ∀ v, f k = some v → 0 ≤ r ∧ r ≤ v) ∧ (0 ≤ b → 0 ≤ r ∧ r ≤ b)
  | [], b => ⟨.inl rfl, fun k hk => absurd hk (by simp), fun h => ⟨h, Int.le_refl _⟩⟩
  | k :: ks, b => by
    obtain ⟨h1, h2, h3⟩ := fold_pick f hf ks (pickF f b k)
    simp only [List.foldl_cons]
    cases hk : f k with
    | none =>
      have e : pickF f b k = b := by unfold pickF; rw [hk]
      rw [e] at h1 h2 h3 ⊢
      refine ⟨h1.imp_right (fun ⟨j, hj, hv⟩ => ⟨j, List.mem_cons_of_mem _ hj, hv⟩), fun j hj v hv => ?_, h3⟩
      rcases List.mem_cons.1 hj with rfl | hj
      · rw [hk] at hv; cases hv
      · exact h2 j hj v hv
    | some v =>
      have e : pickF f b k = if b < 0 ∨ v < b then v else b := by unfold pickF; rw [hk]
      have hv0 := hf k v hk
      by_cases hb : b < 0 ∨ v < b
      · rw [if_pos hb] at e
        rw [e] at h1 h2 h3 ⊢
        have h3 := h3 hv0
        refine ⟨?_, fun j hj u hu => ?_, fun h0 => ⟨h3.1, by omega⟩⟩
        · rcases h1 with h1 | ⟨j, hj, hu⟩
          · exact .inr ⟨k, List.mem_cons_self, by rw [h1]; exact hk⟩
          · exact .inr ⟨j, List.mem_cons_of_mem _ hj, hu⟩
        · rcases List.mem_cons.1 hj with rfl | hj
          · rw [hk] at hu; cases hu; exact h3
          · exact h2 j hj u hu
      · rw [if_neg hb] at e
        rw [e] at h1 h2 h3 ⊢
        refine ⟨h1.imp_right (fun ⟨j, hj, hv⟩ => ⟨j, List.mem_cons_of_mem _ hj, hv⟩), fun j hj u hu => ?_, h3⟩
        rcases List.mem_cons.1 hj with rfl | hj
        · rw [hk] at hu; cases hu
          have := h3 (by omega)
          exact ⟨this.1, by omega⟩
        · exact h2 j hj u hu
def Df : Nat → List Int → List Int → Int
  | 0, _, _ => 0
  | n + 1, P, Q => if P = [] ∧ Q = [] then 0 else pick (fun k => (st k P Q).map fun r => r.2.2 + Df n r.1 r.2.1)
theorem Df_nonneg : ∀ (n : Nat) (P Q : List Int), P.length + Q.length ≤ n → 0 ≤ Df n P Q ∧ Al P Q (Df n P Q) ∧ ∀ c, Al P Q c → Df n P Q ≤ c
  | 0, P, Q, h => by
    obtain rfl := List.eq_nil_of_length_eq_zero (show P.length = 0 by omega)
    obtain rfl := List.eq_nil_of_length_eq_zero (show Q.length = 0 by omega)
    exact ⟨Int.le_refl _, .nil, fun c hc => hc.nonneg⟩
  | n + 1, P, Q, h => by
    by_cases he : P = [] ∧ Q = []
    · obtain ⟨rfl, rfl⟩ := he
      have e : Df (n + 1) [] [] = 0 := by rw [Df, if_pos ⟨rfl, rfl⟩]
      rw [e]
      exact ⟨Int.le_refl _, .nil, fun c hc => hc.nonneg⟩
    · have e : Df (n + 1) P Q = pick (fun k => (st k P Q).map fun r => r.2.2 + Df n r.1 r.2.1) := by rw [Df, if_neg he]
      have hf : ∀ k v, ((st k P Q).map fun r => r.2.2 + Df n r.1 r.2.1) = some v → ∃ P' Q' c, st k P Q = some (P', Q', c) ∧ v = c + Df n P' Q' ∧ 0 ≤ v := by
        intro k v hv
        cases hs : st k P Q with
        | none => rw [hs] at hv; cases hv
        | some r =>
          obtain ⟨P', Q', c⟩ := r
          rw [hs] at hv
          simp only [Option.map_some, Option.some.injEq] at hv
          have hl := st_len hs
          have hd := (Df_nonneg n P' Q' (by omega)).1
          obtain ⟨x, y, hp, _⟩ := st_pc hs
          have := hp.nonneg
          exact ⟨P', Q', c, rfl, hv.symm, by omega⟩
      obtain ⟨h1, h2, _⟩ := fold_pick _ (fun k v hv => (hf k v hv).choose_spec.choose_spec.choose_spec.2.2) [0, 1, 2, 3, 4] (-1)
      have hsome : ∃ k ∈ [(0 : Int), 1, 2, 3, 4], ∃ v, ((st k P Q).map fun r => r.2.2 + Df n r.1 r.2.1) = some v := by
        cases P with
        | cons a P' => exact ⟨3, by simp, _, rfl⟩
        | nil => cases Q with
          | cons b Q' => exact ⟨4, by simp, _, rfl⟩
          | nil => exact absurd ⟨rfl, rfl⟩ he
      obtain ⟨k0, hk0, v0, hv0⟩ := hsome
      have hr0 := (h2 k0 hk0 v0 hv0).1
      rw [e]
      refine ⟨hr0, ?_, fun c hc => ?_⟩
      · rcases h1 with h1 | ⟨k, hk, hv⟩
        · exact absurd hr0 (by unfold pick at *; omega)
        · obtain ⟨P', Q', c, hs, hv', _⟩ := hf k _ hv
          have hl := st_len hs
          obtain ⟨x, y, hp, rfl, rfl⟩ := st_pc hs
          unfold pick
          rw [hv']
          exact .step hp (Df_nonneg n P' Q' (by omega)).2.1
      · cases hc with
        | nil => exact absurd ⟨rfl, rfl⟩ he
        | @step x y P' Q' c d hp ha =>
          obtain ⟨k, hk, hs⟩ := hp.st
          have hs := hs P' Q'
          have hl := st_len hs
          have h3 := (Df_nonneg n P' Q' (by omega)).2.2 d ha
          have h4 := (h2 k (by simp; omega) (c + Df n P' Q') (by rw [hs]; rfl)).2
          unfold pick
          omega
def D (P Q : List Int) : Int := Df (P.length + Q.length) P Q
theorem D_al (P Q : List Int) : Al P Q (D P Q) := (Df_nonneg _ P Q (Nat.le_refl _)).2.1
theorem D_le {P Q : List Int} {c : Int} (h : Al P Q c) : D P Q ≤ c := (Df_nonneg _ P Q (Nat.le_refl _)).2.2 c h
theorem D_nonneg (P Q : List Int) : 0 ≤ D P Q := (D_al P Q).nonneg
theorem Df_D {n : Nat} {P Q : List Int} (h : P.length + Q.length ≤ n) : Df n P Q = D P Q := by
  have h1 := Df_nonneg n P Q h
  have h2 := D_le h1.2.1
  have h3 := h1.2.2 _ (D_al P Q)
  omega
theorem D_bound (P Q : List Int) : D P Q ≤ 4 * P.length + 4 * Q.length := D_le (Al.all P Q)
theorem D_nil : D [] [] = 0 := rfl
theorem D_pick {P Q : List Int} (h : ¬ (P = [] ∧ Q = [])) : D P Q = pick (fun k => (st k P Q).map fun r => r.2.2 + D r.1 r.2.1) := by
  obtain ⟨n, hn⟩ : ∃ n, P.length + Q.length = n + 1 := by
    refine ⟨P.length + Q.length - 1, ?_⟩
    rcases Nat.eq_zero_or_pos (P.length + Q.length) with h0 | h0
    · exact absurd ⟨List.eq_nil_of_length_eq_zero (by omega), List.eq_nil_of_length_eq_zero (by omega)⟩ h
    · omega
  have e : D P Q = Df (n + 1) P Q := by unfold D; rw [hn]
  rw [e, Df, if_neg h]
  congr 1
  funext k
  cases hs : st k P Q with
  | none => rfl
  | some r =>
    obtain ⟨P', Q', c⟩ := r
    have hl := st_len hs
    simp only [Option.map_some]
    rw [Df_D (by omega)]
theorem D_swap (P Q : List Int) : D Q P = D P Q := by
  have h1 := D_le (D_al P Q).swap
  have h2 := D_le (D_al Q P).swap
  omega
theorem D_rev (P Q : List Int) : D P.reverse Q.reverse = D P Q := by
  have h1 := D_le (D_al P Q).rev
  have h2 := (D_al P.reverse Q.reverse).rev
  rw [List.reverse_reverse, List.reverse_reverse] at h2
  have h3 := D_le h2
  omega
theorem D_front (F P Q : List Int) : D (F ++ P) (F ++ Q) ≤ D P Q := by
  have := D_le ((Al.same F).app (D_al P Q))
  omega
theorem D_x (P Q : List Int) (i : Nat) (h : i < P.length) : D (P.set i 120) Q ≤ D P Q := by
  obtain ⟨c, h1, h2⟩ := (D_al P Q).x i h
  have := D_le h1
  omega
theorem D_zero (P Q : List Int) : D P Q = 0 ↔ mat P Q = true := by
  constructor
  · intro h
    have h1 := D_al P Q
    rw [h] at h1
    exact al_mat h1 rfl
  · intro h
    have h1 := D_le (mat_al h)
    have h2 := D_nonneg P Q
    omega
theorem D_step {k : Int} {P Q P' Q' : List Int} {c : Int} (h : st k P Q = some (P', Q', c)) : D P Q ≤ c + D P' Q' := by
  obtain ⟨x, y, hp, rfl, rfl⟩ := st_pc h
  exact D_le (.step hp (D_al P' Q'))
theorem D_some {P Q : List Int} (h : ¬ (P = [] ∧ Q = [])) : ∃ k P' Q' c, st k P Q = some (P', Q', c) ∧ D P Q = c + D P' Q' := by
  have h1 := D_al P Q
  generalize hd : D P Q = d at h1
  cases h1 with
  | nil => exact absurd ⟨rfl, rfl⟩ h
  | @step x y P' Q' c d hp ha =>
    obtain ⟨k, hk, hs⟩ := hp.st
    have hs := hs P' Q'
    have h2 := D_step hs
    have h3 := D_le ha
    exact ⟨k, P', Q', c, hs, by omega⟩
end Go.Proofs.Ytnnonjjmlbemfaa.Al
