/- Chapter 54: the reference's masks; both fit alike; the next word. -/
import Derived.Test.YtdaooagikacboaaW2
import Derived.Test.YtdaooagikacboaaX14
import Derived.Test.YtdaooagikacboaaX15
namespace Go.Proofs.Ytdaooagikacboaa.Lem
open Go.RowKit Go.Proofs.Ytdaooagikacboaa.X Go.Proofs.YtdaooagikacboaaW.PrintWords Go.Proofs.YtdaooagikacboaaW.PrintLast
theorem small42 : smallB 42 = true := by decide
theorem mB42 : mB 42 = true := by decide
theorem rmask_loop (m : ByteArray) (hm : m.size ≤ 1000000) (d : Nat) : ∀ i n : Nat, i + d = m.size → n ≤ 1 → Ev (fun k => ancepsref54_Mask.l0 k m (n : Int) (i : Int)) (if n + ((bytesOf m).drop i).count 42 ≤ 1 ∧ ((bytesOf m).drop i).all mB = true then 0 else 2) := by
  induction d with
  | zero =>
    intro i n hi hn
    rw [drop_ge m i (by omega), if_pos ⟨by simpa using hn, rfl⟩]
    exact Ev.step (fun k => rfl) (Ev.neg (by omega) (Ev.val rfl))
  | succ d ih =>
    intro i n hi hn
    have h0 := ih (i + 1) n (by omega) hn
    rw [drop_lt m i (by omega), List.count_cons, List.all_cons]
    refine Ev.step (fun k => rfl) (Ev.pos (by omega) (Ev.pos (by omega) ?_))
    rw [w64 (by omega) (by omega), w64 (by omega) (by omega)]
    refine Ev.cond (fun h1 => ?_) (fun h1 => ?_)
    · rw [h1, show ((42 : Int) == 42) = true from rfl, mB42, Bool.true_and]
      refine Ev.neg (by decide) ?_
      refine Ev.bind (rsmall_ev (by decide)) ?_
      rw [small42]
      refine Ev.pos rfl (Ev.cond (fun h2 => Ev.val ?_) (fun h2 => ?_))
      · rw [if_neg (fun h3 => by have := h3.1; simp only [if_true] at this; omega)]
      · have h4 := ih (i + 1) (n + 1) (by omega) (by omega)
        rw [show ((n : Int) + 1) = ((n + 1 : Nat) : Int) by omega]
        refine Ev.eq ?_ h4
        simp only [if_true]
        congr 1
        rw [Nat.add_right_comm, Nat.add_assoc]
    · rw [show (bt m i == 42) = false from beq_eq_false_iff_ne.2 h1]
      have hc : (((bytesOf m).drop (i + 1)).count 42 + if false = true then 1 else 0) = ((bytesOf m).drop (i + 1)).count 42 := by simp
      rw [hc]
      refine Ev.cond (fun h2 => ?_) (fun h2 => ?_)
      · refine Ev.neg (by omega) ?_
        rw [show mB (bt m i) = true by unfold mB; rw [beq_iff_eq.2 h2]; rfl, Bool.true_and]
        exact h0
      · refine Ev.bind (rsmall_ev (bt_range m i)) ?_
        have hb : mB (bt m i) = smallB (bt m i) := by unfold mB; rw [beq_eq_false_iff_ne.2 h2, Bool.false_or]
        rw [hb]
        cases smallB (bt m i) with
        | true => rw [Bool.true_and]; exact Ev.pos rfl (Ev.neg (by omega) h0)
        | false => exact Ev.neg Bool.false_ne_true (Ev.val (by rw [if_neg (fun h3 => by cases h3.2)]))
theorem rmask_ev (m : ByteArray) : Ev (fun k => ancepsref54_Mask.f k m) (maskS m) := by
  unfold ancepsref54_Mask.f maskS starsS
  refine Ev.cond (fun h => Ev.val (by rw [if_pos (by omega)])) (fun h => ?_)
  rw [if_neg (by omega)]
  have := rmask_loop m (by omega) m.size 0 0 (by omega) (by omega)
  rw [List.drop_zero, Nat.zero_add] at this
  exact this
theorem tail_bytes (s : ByteArray) : bytesOf (s.extract 1 s.size) = (bytesOf s).drop 1 := bytesOf_tail s 1
theorem tail_size (s : ByteArray) : (s.extract 1 s.size).size = s.size - 1 := by rw [extract_size]; omega
theorem head_bytes (s : ByteArray) (h : 0 < s.size) : bytesOf s = bt s 0 :: (bytesOf s).drop 1 := by
  have := drop_lt s 0 h
  rw [List.drop_zero] at this
  exact this
theorem rfits_ev (n : Nat) : ∀ w m : ByteArray, w.size + m.size ≤ n → w.size ≤ 1000000 → m.size ≤ 1000000 → Ev (fun k => ancepsref54_fits.f k w m) (fitR (bytesOf w) (bytesOf m)) := by
  induction n with
  | zero =>
    intro w m h hw hm
    have h1 : w.size = 0 := by omega
    have h2 : m.size = 0 := by omega
    rw [bytesOf_nil.2 h1, bytesOf_nil.2 h2]
    refine Ev.step (fun k => rfl) (Ev.pos (list_nil.2 h2) (Ev.val ?_))
    rw [list_nil.2 h1]
    rw [fitR]; rfl
  | succ n ih =>
    intro w m h hw hm
    refine Ev.step (fun k => rfl) (Ev.cond (fun h1 => Ev.val ?_) (fun h1 => ?_))
    · rw [bytesOf_nil.2 (list_nil.1 h1), fitR]
      by_cases hw0 : w.size = 0
      · rw [bytesOf_nil.2 hw0, list_nil.2 hw0]; rfl
      · rw [beq_eq_false_iff_ne.2 (fun e => hw0 (list_nil.1 e)), head_bytes w (by omega)]; rfl
    · have hm0 : 0 < m.size := by have : m.size ≠ 0 := fun e => h1 (list_nil.2 e); omega
      refine Ev.pos (by omega) ?_
      rw [head_bytes m hm0]
      by_cases hw0 : w.size = 0
      · rw [bytesOf_nil.2 hw0, fitR]
        refine Ev.cond (fun h2 => ?_) (fun h2 => ?_)
        · rw [if_pos h2]
          refine Ev.pos (by omega) ?_
          have := ih w (m.extract 1 m.size) (by rw [tail_size]; omega) hw (by rw [tail_size]; omega)
          rw [tail_bytes, bytesOf_nil.2 hw0] at this
          refine Ev.bind this ?_
          refine Ev.cond (fun h3 => Ev.val h3.symm) (fun h3 => Ev.pos (list_nil.2 hw0) (Ev.val (Bool.eq_false_iff.2 h3).symm))
        · rw [if_neg h2]
          exact Ev.pos (list_nil.2 hw0) (Ev.val rfl)
      · have hne : ¬ w.toList = ([] : List UInt8) := fun e => hw0 (list_nil.1 e)
        rw [head_bytes w (by omega), fitR, ← head_bytes w (by omega), ← head_bytes m hm0]
        refine Ev.cond (fun h2 => ?_) (fun h2 => ?_)
        · rw [if_pos h2]
          refine Ev.pos (by omega) ?_
          have h3 := ih w (m.extract 1 m.size) (by rw [tail_size]; omega) hw (by rw [tail_size]; omega)
          rw [tail_bytes] at h3
          refine Ev.bind h3 ?_
          cases fitR (bytesOf w) ((bytesOf m).drop 1) with
          | true => exact Ev.pos rfl (Ev.val rfl)
          | false =>
            rw [Bool.false_or]
            refine Ev.neg Bool.false_ne_true (Ev.neg hne (Ev.pos (by omega) (Ev.bind (rletter_ev (bt_range w 0)) ?_)))
            cases letB (bt w 0) with
            | false => exact Ev.neg Bool.false_ne_true (Ev.val rfl)
            | true =>
              rw [Bool.true_and]
              have h4 := ih (w.extract 1 w.size) m (by rw [tail_size]; omega) (by rw [tail_size]; omega) hm
              rw [tail_bytes] at h4
              exact Ev.pos rfl (Ev.pos (by omega) (Ev.bind h4 (Ev.val rfl)))
        · rw [if_neg h2]
          refine Ev.neg hne ?_
          have h4 := ih (w.extract 1 w.size) (m.extract 1 m.size) (by rw [tail_size, tail_size]; omega) (by rw [tail_size]; omega) (by rw [tail_size]; omega)
          rw [tail_bytes, tail_bytes] at h4
          refine Ev.cond (fun h3 => ?_) (fun h3 => ?_)
          · rw [if_pos h3]
            refine Ev.pos (by omega) (Ev.bind (rletter_ev (bt_range w 0)) ?_)
            cases letB (bt w 0) with
            | false => exact Ev.neg Bool.false_ne_true (Ev.val rfl)
            | true => rw [Bool.true_and]; exact Ev.pos rfl (Ev.pos (by omega) (Ev.pos (by omega) (Ev.bind h4 (Ev.val rfl))))
          · rw [if_neg h3]
            refine Ev.pos (by omega) (Ev.cond (fun h5 => ?_) (fun h5 => Ev.val (by rw [decide_eq_false h5]; rfl)))
            rw [decide_eq_true h5, Bool.true_and]
            exact Ev.pos (by omega) (Ev.pos (by omega) (Ev.bind h4 (Ev.val rfl)))
/-! both fit alike -/
theorem fitR_plain : ∀ M W : List Int, 42 ∉ M → 63 ∉ W → fitR W M = matchL W M
  | [], [], _, _ => by rw [fitR]; rfl
  | [], _ :: _, _, _ => by rw [fitR]; rfl
  | c :: m, [], hM, _ => by
    rw [fitR, if_neg (fun e => hM (by rw [e]; exact List.mem_cons_self)), matchL]
  | c :: m, a :: r, hM, hW => by
    rw [fitR, if_neg (fun e => hM (by rw [e]; exact List.mem_cons_self)), matchL, fitR_plain m r (fun h => hM (List.mem_cons_of_mem _ h)) (fun h => hW (List.mem_cons_of_mem _ h))]
    by_cases h63 : c = 63
    · have ha : a ≠ c := fun e => hW (by rw [← h63, ← e]; exact List.mem_cons_self)
      rw [if_pos h63, decide_eq_false ha, decide_eq_true h63, Bool.false_or, Bool.true_and]
    · rw [if_neg h63, decide_eq_false h63, Bool.false_and, Bool.or_false]
theorem matchL_bad {a b : List Int} (h : a.length ≠ b.length) : matchL a b = false := by
  cases hh : matchL a b with
  | false => rfl
  | true => exact absurd (matchL_len a b hh) h
theorem fitR_star (q : List Int) (hq : 42 ∉ q) : ∀ W : List Int, 63 ∉ W → fitR W (42 :: q) = starL W [] q
  | [], hW => by
    rw [fitR, if_pos rfl, fitR_plain q [] hq hW]
    unfold starL
    cases q with
    | nil => rfl
    | cons c m => rfl
  | a :: r, hW => by
    have hr : 63 ∉ r := fun h => hW (List.mem_cons_of_mem _ h)
    rw [fitR, if_pos rfl, fitR_plain q (a :: r) hq hW, fitR_star q hq r hr]
    unfold starL
    simp only [List.length_nil, Nat.zero_add, List.take_zero, List.drop_zero, List.length_cons]
    by_cases h1 : q.length ≤ r.length
    · rw [matchL_bad (by rw [List.length_cons]; omega), decide_eq_true h1, decide_eq_true (show q.length ≤ r.length + 1 by omega), show r.length + 1 - q.length = (r.length - q.length) + 1 by omega, List.drop_succ_cons, List.take_succ_cons, List.all_cons]
      simp only [Bool.false_or, Bool.true_and]
      cases letB a <;> cases matchL [] [] <;> cases matchL (r.drop (r.length - q.length)) q <;> simp
    · rw [decide_eq_false h1, Bool.false_and, Bool.and_false, Bool.or_false]
      by_cases h2 : q.length = r.length + 1
      · rw [decide_eq_true (show q.length ≤ r.length + 1 by omega), h2, Nat.sub_self, List.drop_zero, List.take_zero]
        cases matchL (a :: r) q <;> rfl
      · rw [matchL_bad (by rw [List.length_cons]; omega), decide_eq_false (show ¬ q.length ≤ r.length + 1 by omega)]; rfl
theorem fitR_pre (q : List Int) (hq : 42 ∉ q) : ∀ (p W : List Int), 42 ∉ p → 63 ∉ W → fitR W (p ++ 42 :: q) = starL W p q
  | [], W, _, hW => fitR_star q hq W hW
  | c :: p, [], hp, hW => by
    rw [List.cons_append, fitR, if_neg (fun e => hp (by rw [e]; exact List.mem_cons_self))]
    unfold starL
    rw [decide_eq_false (by simp)]; rfl
  | c :: p, a :: r, hp, hW => by
    have hr : 63 ∉ r := fun h => hW (List.mem_cons_of_mem _ h)
    rw [List.cons_append, fitR, if_neg (fun e => hp (by rw [e]; exact List.mem_cons_self)), fitR_pre q hq p r (fun h => hp (List.mem_cons_of_mem _ h)) hr]
    have key : starL (a :: r) (c :: p) q = ((decide (a = c) || (decide (c = 63) && letB a)) && starL r p q) := by
      unfold starL
      simp only [List.length_cons]
      by_cases h1 : p.length + q.length ≤ r.length
      · rw [decide_eq_true h1, decide_eq_true (show p.length + 1 + q.length ≤ r.length + 1 by omega), show r.length + 1 - q.length = (r.length - q.length) + 1 by omega, List.drop_succ_cons, List.take_succ_cons, List.take_succ_cons, List.drop_succ_cons, matchL]
        simp only [Bool.true_and, Bool.and_assoc]
      · rw [decide_eq_false h1, decide_eq_false (show ¬ p.length + 1 + q.length ≤ r.length + 1 by omega), Bool.false_and, Bool.false_and, Bool.and_false]
    rw [key]
    by_cases h63 : c = 63
    · have ha : a ≠ c := fun e => hW (by rw [← h63, ← e]; exact List.mem_cons_self)
      rw [if_pos h63, decide_eq_false ha, decide_eq_true h63, Bool.false_or, Bool.true_and]
    · rw [if_neg h63, decide_eq_false h63, Bool.false_and, Bool.or_false]
theorem fit_eq (w m : ByteArray) (h63 : 63 ∉ bytesOf w) (hm : starsS m ≤ 1) : fitR (bytesOf w) (bytesOf m) = fitS w m := by
  unfold fitS
  by_cases h42 : 42 ∈ bytesOf m
  · obtain ⟨p, q, e, hpq, hp⟩ := cut_some m h42
    rw [e]
    dsimp only
    rw [if_pos rfl, hpq]
    refine fitR_pre _ ?_ _ _ hp h63
    intro hq
    unfold starsS at hm
    rw [hpq, List.count_append, List.count_cons, List.count_eq_zero_of_not_mem hp] at hm
    have := List.count_pos_iff.2 hq
    simp only [beq_self_eq_true, if_true] at hm
    omega
  · rw [cut_none m h42]
    dsimp only
    rw [if_neg Bool.false_ne_true]
    exact fitR_plain _ _ h42 h63
theorem word63 {s : ByteArray} (h : wrongS s = 0) : 63 ∉ bytesOf s := fun hm => let_not63 (small_let (List.all_eq_true.1 (wrongS_ok h).2.2 63 hm)) rfl
theorem mask_ok {m : ByteArray} (h : maskS m = 0) : m.size ≤ 40 ∧ starsS m ≤ 1 := by
  unfold maskS at h
  by_cases h1 : 40 < m.size
  · rw [if_pos h1] at h; cases h
  · rw [if_neg h1] at h
    by_cases h2 : starsS m ≤ 1 ∧ (bytesOf m).all mB = true
    · exact ⟨by omega, h2.1⟩
    · rw [if_neg h2] at h; cases h
/-! the next word -/
def after1 (x m : ByteArray) (s : ByteArray) : Bool := less x s && fitS s m
def resN : Option ByteArray → ByteArray × Int
  | some s => (s, 0)
  | none => (⟨#[]⟩, 10)
def nextL (l : List ByteArray) (x m : ByteArray) : ByteArray × Int := resN (l.find? (after1 x m))
theorem nextL_cons (s : ByteArray) (l : List ByteArray) (x m : ByteArray) : nextL (s :: l) x m = if after1 x m s = true then (s, 0) else nextL l x m := by
  unfold nextL
  rw [List.find?_cons]
  cases after1 x m s <;> rfl
theorem next_loop (l : List ByteArray) (x m : ByteArray) (hl : l.length ≤ 1000000000) (hw : ∀ s ∈ l, s.size ≤ 1000000) (hm : m.size ≤ 1000000) (d : Nat) : ∀ i : Nat, i + d = l.length → Ev (fun k => wordlist_Next.l0 k x m l (l.length : Int) (i : Int)) (nextL (l.drop i) x m) := by
  induction d with
  | zero =>
    intro i hi
    rw [List.drop_eq_nil_of_le (by omega)]
    exact Ev.step (fun k => rfl) (Ev.neg (by omega) (Ev.val rfl))
  | succ d ih =>
    intro i hi
    have hn := ih (i + 1) (by omega)
    rw [List.drop_eq_getElem_cons (show i < l.length by omega), nextL_cons]
    refine Ev.step (fun k => rfl) (Ev.pos (by omega) (Ev.pos (by omega) (Ev.pos (by omega) ?_)))
    rw [rdOf_at l i (by omega), w64 (by omega) (by omega)]
    unfold after1
    refine Ev.cond (fun h1 => ?_) (fun h1 => ?_)
    · rw [show less x l[i] = true from h1, Bool.true_and]
      refine Ev.bind (fits_ev _ m (hw _ (List.getElem_mem _)) hm) ?_
      exact Ev.cond (fun h2 => Ev.val (by rw [if_pos h2])) (fun h2 => by rw [if_neg h2]; exact hn)
    · rw [show less x l[i] = false from Bool.eq_false_iff.2 h1, Bool.false_and, if_neg Bool.false_ne_true]
      exact hn
def nextS (l : List ByteArray) (x m : ByteArray) : ByteArray × Int := if askedS l m = 0 then nextL l x m else (⟨#[]⟩, askedS l m)
theorem asked_ok {l : List ByteArray} {m : ByteArray} (h : askedS l m = 0) : validS l = 0 ∧ maskS m = 0 := by
  unfold askedS at h
  by_cases h1 : validS l = 0
  · rw [if_pos h1] at h; exact ⟨h1, h⟩
  · rw [if_neg h1] at h; exact absurd h h1
theorem next_ev (l : List ByteArray) (x m : ByteArray) (hl : l.length ≤ 1000000000) : Ev (fun k => wordlist_Next.f k l x m) (nextS l x m) := by
  unfold wordlist_Next.f nextS
  refine Ev.bind (asked_ev l m hl) (Ev.cond (fun h => ?_) (fun h => Ev.val (by rw [if_neg h])))
  rw [if_pos h]
  obtain ⟨h1, h2⟩ := asked_ok h
  exact next_loop l x m hl (fun s hs => by have := (wrongS_ok (valid_word h1 s hs)).2.1; omega) (by have := (mask_ok h2).1; omega) l.length 0 (by omega)
end Go.Proofs.Ytdaooagikacboaa.Lem
