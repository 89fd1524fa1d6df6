/- Swap exchanges the sides of any steps, and leads back; an alignment becomes one of the patterns the other way round, with the same cost: for any two strings and any steps (strings over 70 bytes and more than 100 steps are left out by the law's own guard). -/
import Derived.Test.YtnnonjjmlbemfaaA3
import Derived.Test.YtnnonjjmlbemfaaR3
import Derived.Test.YtnnonjjmlbemfaaX8
import Derived.Test.YtnnonjjmlbemfaaX21
set_option linter.unusedVariables false
namespace Go.Proofs.Ytnnonjjmlbemfaa.Pure
open Go.RowKit Go.Proofs.Ytnnonjjmlbemfaa.X Go.Proofs.Ytnnonjjmlbemfaa.Lem Go.Proofs.Ytnnonjjmlbemfaa.Al Go.Proofs.YtnnonjjmlbemfaaW.PrintWords Go.Proofs.YtnnonjjmlbemfaaW.PrintLast
/-- the step of the other side -/
def sw (s : Int) : Int := if s = 1 then 2 else if s = 2 then 1 else if s = 3 then 4 else if s = 4 then 3 else s
theorem sw_sw (s : Int) : sw (sw s) = s := by
  unfold sw
  by_cases h1 : s = 1
  · subst h1; rfl
  · by_cases h2 : s = 2
    · subst h2; rfl
    · by_cases h3 : s = 3
      · subst h3; rfl
      · by_cases h4 : s = 4
        · subst h4; rfl
        · rw [if_neg h1, if_neg h2, if_neg h3, if_neg h4, if_neg h1, if_neg h2, if_neg h3, if_neg h4]
theorem st_sw (s : Int) (P Q : List Int) : st (sw s) Q P = (st s P Q).map fun r => (r.2.1, r.1, r.2.2) := by
  by_cases h0 : s = 0
  · subst h0
    cases P with
    | nil => cases Q <;> rfl
    | cons a P => cases Q with
      | nil => rfl
      | cons b Q => show some (Q, P, sub b a) = some (Q, P, sub a b); rw [sub_comm]
  · by_cases h1 : s = 1
    · subst h1
      cases P with
      | nil =>
        cases Q with
        | nil => rfl
        | cons b Q => cases Q <;> rfl
      | cons a P => cases Q with
        | nil => rfl
        | cons b Q => cases Q with
          | nil => rfl
          | cons c Q =>
            show (if (lt b && lt c && hv a) = true then some (Q, P, (1 : Int)) else none) = (if (hv a && lt b && lt c) = true then some (P, Q, (1 : Int)) else none).map _
            cases hv a <;> cases lt b <;> cases lt c <;> rfl
    · by_cases h2 : s = 2
      · subst h2
        cases P with
        | nil =>
          cases Q <;> rfl
        | cons a P => cases P with
          | nil => cases Q <;> rfl
          | cons b P => cases Q with
            | nil => rfl
            | cons c Q =>
              show (if (hv c && lt a && lt b) = true then some (Q, P, (1 : Int)) else none) = (if (lt a && lt b && hv c) = true then some (P, Q, (1 : Int)) else none).map _
              cases hv c <;> cases lt a <;> cases lt b <;> rfl
      · by_cases h3 : s = 3
        · subst h3
          cases P with
          | nil => cases Q <;> rfl
          | cons a P => cases Q <;> rfl
        · by_cases h4 : s = 4
          · subst h4
            cases P with
            | nil => cases Q <;> rfl
            | cons a P => cases Q <;> rfl
          · have e : sw s = s := by unfold sw; rw [if_neg h1, if_neg h2, if_neg h3, if_neg h4]
            rw [e]
            unfold st
            rw [if_neg h0, if_neg h1, if_neg h2, if_neg h3, if_neg h4, if_neg h0, if_neg h1, if_neg h2, if_neg h3, if_neg h4]; rfl
theorem co_sw : ∀ (l P Q : List Int), co Q P (l.map sw) = co P Q l
  | [], P, Q => by
    rw [List.map_nil]
    unfold co
    by_cases h : P = [] ∧ Q = []
    · rw [if_pos h, if_pos ⟨h.2, h.1⟩]
    · rw [if_neg h, if_neg (fun x => h ⟨x.2, x.1⟩)]
  | s :: l, P, Q => by
    rw [List.map_cons]
    unfold co
    rw [st_sw]
    cases st s P Q with
    | none => rfl
    | some r =>
      obtain ⟨P', Q', c⟩ := r
      simp only [Option.map_some]
      rw [co_sw l P' Q']
theorem swap_loop (l : List Int) (hl : l.length ≤ 100) (d : Nat) : ∀ (i : Nat) (acc : List Int), i + d = l.length → acc.length ≤ 1000 - d → Ev (fun k => align_Swap.l0 k acc l (l.length : Int) (i : Int)) (acc ++ (l.drop i).map sw) := by
  induction d with
  | zero =>
    intro i acc hi ha
    rw [List.drop_eq_nil_of_le (show l.length ≤ i by omega), List.map_nil, List.append_nil]
    exact Ev.step (fun k => align_Swap.l0.eq_2 _ _ _ _ _) (Ev.neg (by omega) (Ev.now _))
  | succ d ih =>
    intro i acc hi ha
    refine Ev.step (fun k => align_Swap.l0.eq_2 _ _ _ _ _) (Ev.pos (by omega) (Ev.pos (by omega) (Ev.pos (by omega) ?_)))
    have go : ∀ v, sw (rd l (i : Int)) = v → Ev (fun k => if acc.length < 17592186044416 then (align_Swap.l0 k (acc ++ [v]) l (l.length : Int) (wrap64 ((i : Int) + 1))) else none) (acc ++ (l.drop i).map sw) := fun v e => by
      refine Ev.pos (by omega) ?_
      rw [w64 (by omega) (by omega), drop_rd l i (by omega), List.map_cons, e]
      have := ih (i + 1) (acc ++ [v]) (by omega) (by rw [List.length_append, List.length_singleton]; omega)
      rw [List.append_assoc] at this
      exact this
    refine Ev.cond (fun h => go 2 (by unfold sw; rw [if_pos h])) (fun h1 => Ev.cond (fun h => go 1 (by unfold sw; rw [if_neg h1, if_pos h])) (fun h2 => Ev.cond (fun h => go 4 (by unfold sw; rw [if_neg h1, if_neg h2, if_pos h])) (fun h3 => Ev.cond (fun h => go 3 (by unfold sw; rw [if_neg h1, if_neg h2, if_neg h3, if_pos h])) (fun h4 => go _ (by unfold sw; rw [if_neg h1, if_neg h2, if_neg h3, if_neg h4])))))
theorem swap_ev (l : List Int) (hl : l.length ≤ 100) : Ev (fun k => align_Swap.f k l) (l.map sw) := by
  have := swap_loop l hl l.length 0 [] (by omega) (Nat.zero_le _)
  rw [List.drop_zero, List.nil_append] at this
  exact this
theorem rswap_loop (l : List Int) (hl : l.length ≤ 100) (d : Nat) : ∀ (i : Nat) (acc : List Int), i + d = l.length → acc.length ≤ 1000 - d → Ev (fun k => ancepsref45_Swap.l0 k l acc (i : Int)) (acc ++ (l.drop i).map sw) := by
  induction d with
  | zero =>
    intro i acc hi ha
    rw [List.drop_eq_nil_of_le (show l.length ≤ i by omega), List.map_nil, List.append_nil]
    exact Ev.step (fun k => ancepsref45_Swap.l0.eq_2 _ _ _ _) (Ev.neg (by omega) (Ev.now _))
  | succ d ih =>
    intro i acc hi ha
    refine Ev.step (fun k => ancepsref45_Swap.l0.eq_2 _ _ _ _) (Ev.pos (by omega) (Ev.pos (by omega) ?_))
    have go : ∀ v, sw (rd l (i : Int)) = v → Ev (fun k => if acc.length < 17592186044416 then (ancepsref45_Swap.l0 k l (acc ++ [v]) (wrap64 ((i : Int) + 1))) else none) (acc ++ (l.drop i).map sw) := fun v e => by
      refine Ev.pos (by omega) ?_
      rw [w64 (by omega) (by omega), drop_rd l i (by omega), List.map_cons, e]
      have := ih (i + 1) (acc ++ [v]) (by omega) (by rw [List.length_append, List.length_singleton]; omega)
      rw [List.append_assoc] at this
      exact this
    refine Ev.cond (fun h => go 2 (by unfold sw; rw [if_pos h])) (fun h1 => Ev.cond (fun h => go 1 (by unfold sw; rw [if_neg h1, if_pos h])) (fun h2 => Ev.cond (fun h => go 4 (by unfold sw; rw [if_neg h1, if_neg h2, if_pos h])) (fun h3 => Ev.cond (fun h => go 3 (by unfold sw; rw [if_neg h1, if_neg h2, if_neg h3, if_pos h])) (fun h4 => go _ (by unfold sw; rw [if_neg h1, if_neg h2, if_neg h3, if_neg h4])))))
theorem rswap_ev (l : List Int) (hl : l.length ≤ 100) : Ev (fun k => ancepsref45_Swap.f k l) (l.map sw) := by
  have := rswap_loop l hl l.length 0 [] (by omega) (Nat.zero_le _)
  rw [List.drop_zero, List.nil_append] at this
  exact this
theorem eq_loop (l : List Int) (hl : l.length ≤ 1000) (d : Nat) : ∀ i : Nat, i + d = l.length → Ev (fun k => slices_Equal_int_int.l0 k l l (l.length : Int) (i : Int)) true := by
  induction d with
  | zero =>
    intro i hi
    exact Ev.step (fun k => slices_Equal_int_int.l0.eq_2 _ _ _ _ _) (Ev.neg (by omega) (Ev.now _))
  | succ d ih =>
    intro i hi
    refine Ev.step (fun k => slices_Equal_int_int.l0.eq_2 _ _ _ _ _) (Ev.pos (by omega) (Ev.pos (by omega) (Ev.pos (by omega) (Ev.pos (by omega) (Ev.pos rfl ?_)))))
    rw [w64 (by omega) (by omega)]
    exact ih (i + 1) (by omega)
theorem eq_ev (l : List Int) (hl : l.length ≤ 1000) : Ev (fun k => slices_Equal_int_int.f k l l) true := by
  unfold slices_Equal_int_int.f
  exact Ev.pos rfl (eq_loop l hl l.length 0 (by omega))
theorem AlignSwap : ancepslaw45_AlignSwap.Pure := by
  intro p q steps _ _ _ _ _
  refine Ev.rounds ?_
  unfold ancepslaw45_AlignSwap.f
  have out : Ev (fun k => ancepslaw45_AlignSwap.j0 k p q steps true) true := Ev.step (fun k => ancepslaw45_AlignSwap.j0.eq_2 _ _ _ _ _) (Ev.pos rfl (Ev.bind awake_ev (Ev.now _)))
  obtain ⟨b, hb⟩ := short_f p q
  refine Ev.bind awake_ev (Ev.pos rfl ?_)
  rw [hb]
  refine Ev.just (Ev.cond (fun _ => ?_) (fun _ => out))
  by_cases hs : (steps.length : Int) > 100
  · rw [decide_eq_true hs]; exact out
  · rw [decide_eq_false hs]
    have hl : steps.length ≤ 100 := by omega
    have hml : (steps.map sw).length ≤ 100 := by rw [List.length_map]; exact hl
    have hss : (steps.map sw).map sw = steps := by rw [List.map_map]; exact (List.map_congr_left (g := id) fun x _ => sw_sw x).trans (List.map_id _)
    have hcl : slices_Clone_int_int.f steps = some steps := by
      unfold slices_Clone_int_int.f
      rw [Option.bind_some, if_pos (by simp; omega), List.nil_append]
    refine Ev.step (fun k => ancepslaw45_AlignSwap.j0.eq_2 _ _ _ _ _) (Ev.neg (by decide) ?_)
    rw [hcl]
    have h2 := swap_ev (steps.map sw) hml
    rw [hss] at h2
    refine Ev.just (Ev.bind (swap_ev steps hl) (Ev.bind (rswap_ev steps hl) (Ev.bind (eq_ev _ (by omega)) (Ev.pos rfl (Ev.bind h2 (Ev.bind (eq_ev _ (by omega)) ?_))))))
    refine Ev.step (fun k => ancepslaw45_AlignSwap.j1.eq_2 _ _ _ _ _ _) (Ev.neg (by decide) (Ev.bind (rgiven_ev p q) (Ev.cond (fun hg => ?_) (fun _ => Ev.now _))))
    have G := giv_ok hg
    obtain ⟨c, ok, c1, c2, c3⟩ := cost_ev G steps hl
    obtain ⟨c', ok', d1, d2, d3⟩ := cost_ev G.swap (steps.map sw) hml
    rw [co_sw] at d2 d3
    refine Ev.bind c1 (Ev.bind d1 ?_)
    cases ok with
    | false =>
      cases ok' with
      | false => exact Ev.pos rfl (Ev.neg Bool.false_ne_true (Ev.now _))
      | true => have := c3 rfl; rw [d2 rfl] at this; cases this
    | true =>
      cases ok' with
      | false => have := d3 rfl; rw [c2 rfl] at this; cases this
      | true =>
        refine Ev.pos rfl (Ev.pos rfl (Ev.val ?_))
        have h3 := c2 rfl
        rw [d2 rfl] at h3
        rw [Option.some.inj h3]; simp
end Go.Proofs.Ytnnonjjmlbemfaa.Pure
