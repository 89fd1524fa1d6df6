/- CheckTree accepts a tree exactly if it is right for a list. -/
import Derived.Test.YtdaooagikacboaaW5
import Derived.Test.YtdaooagikacboaaWE
import Derived.Test.YtdaooagikacboaaX8
import Derived.Test.YtdaooagikacboaaX6
import Derived.Test.YtdaooagikacboaaX11
namespace Go.Proofs.Ytdaooagikacboaa.Pure
open Go.RowKit Go.Proofs.Ytdaooagikacboaa.X Go.Proofs.Ytdaooagikacboaa.Lem Go.Proofs.YtdaooagikacboaaW.PrintWords Go.Proofs.YtdaooagikacboaaW.PrintLast
theorem awake_ev : Ev (fun k => ancepslaw54_awake.f k) true := Ev.of (fun k => ancepslaw54_awake.mono k) (k := 60) (by kernel_rfl)
theorem both_ev (ws : List ByteArray) (l : List Lf) (hw : ws.length ≤ 1000000000) (hl : l.length ≤ 1000000) (hS : (EK l l.length).length ≤ 1000000) :
    ∃ r, Ev (fun k => wordlist_CheckTree.f k ws l) r ∧ Ev (fun k => ancepsref54_CheckTree.f k ws l) r := by
  unfold wordlist_CheckTree.f ancepsref54_CheckTree.f
  have h0 : ∀ ws, Ev (fun k => ancepsref54_CheckTree.j0 k l true ws) false := fun ws => Ev.step (fun k => ancepsref54_CheckTree.j0.eq_2 _ _ _ _) (Ev.pos rfl (Ev.now _))
  by_cases hv : validS ws = 0
  · by_cases hn : (l.length : Int) = 0
    · exact ⟨false, Ev.bind (valid_ev ws hw) (Ev.pos hv (Ev.pos hn (Ev.now _))), Ev.bind (rvalid_ev ws hw) (Ev.pos hv (Ev.pos hn (h0 ws)))⟩
    · by_cases hz : (nd l 0).f0 = 0
      · have hz' : ((rd_T46 l 0).f0 != 0) = false := by rw [show (rd_T46 l 0).f0 = 0 from hz]; rfl
        have key : ∃ r : Bool, (allP l → oneT l → Ev (fun k => wordlist_CheckTree.fin k ws l) r) ∧ (allR l → oneT l → Ev (fun k => (ancepsref54_spell.f k l 0 ([] : List Int)).bind fun t => (ancepsref54_Strings.f k t ws).bind fun u => some u) r) ∧ (¬ (allP l ∧ oneT l) → r = false) := by
          by_cases hA : allP l ∧ oneT l
          · obtain ⟨hG, hL⟩ := allP_good hA.1
            have hk : ∀ i, (KD l i).length ≤ 1000000 := by
              intro i
              unfold KD nd rd_T46
              rw [List.getD_eq_getElem?_getD]
              by_cases h : i.toNat < l.length
              · rw [List.getElem?_eq_getElem h]
                have h1 := KD_len l i.toNat
                unfold KD nd rd_T46 at h1
                rw [Int.toNat_natCast, List.getD_eq_getElem?_getD, List.getElem?_eq_getElem h] at h1
                exact Nat.le_trans (Nat.le_trans h1 (EK_len_le l (show i.toNat + 1 ≤ l.length by omega))) hS
              · rw [List.getElem?_eq_none (by omega)]
                show (([] : List Int)).length ≤ 1000000
                simp
            have hvr := vis_root l (by omega) hG (fun m h1 h2 => Nat.le_of_eq (hA.2 m h1 h2))
            have hsp := spl_len l.length l 0 []
            obtain ⟨r, h1, h2⟩ := eqS_ev ((spl l.length l 0 []).map strOfNums) ws (by rw [List.length_map]; omega)
            refine ⟨r, fun _ _ => ?_, fun _ _ => ?_, fun h => absurd hA h⟩
            · unfold wordlist_CheckTree.fin
              have hw0 := walk_ev l hG hL hk l.length 0 [] [] (by omega) (by omega) (by omega) (by rw [List.length_nil]; omega) (by rw [List.length_nil]; omega)
              rw [List.nil_append, show strOfNums [] = (⟨#[]⟩ : ByteArray) from rfl] at hw0
              exact Ev.bind hw0 h1
            · exact Ev.bind (spell_ev l hG hL hk l.length 0 [] (by omega) (by omega) (by omega) (by omega) (by rw [List.length_nil]; omega)) (Ev.bind h2 (Ev.now _))
          · exact ⟨false, fun a b => absurd ⟨a, b⟩ hA, fun a b => absurd ⟨allR_P a, b⟩ hA, fun _ => rfl⟩
        obtain ⟨r, k1, k2, k3⟩ := key
        refine ⟨r, Ev.bind (valid_ev ws hw) (Ev.pos hv (Ev.neg hn (Ev.pos hz (Ev.pos hl ?_)))), Ev.bind (rvalid_ev ws hw) (Ev.pos hv (Ev.neg hn (Ev.pos (by omega) ?_)))⟩
        · have h := o0_ev ws l hl hS r l.length 0 (by omega)
          rw [show EK l 0 = [] from rfl, cntL_nil] at h
          refine h (fun hP => ?_) (fun ⟨m, _, hm, hb⟩ => k3 (fun hh => by rw [hh.1 m hm] at hb; cases hb))
          have hP' : allP l := fun m hm => hP m (Nat.zero_le _) hm
          exact p0_ev ws l hl r (fun ho => k1 hP' ho) (fun ho => k3 (fun hh => ho hh.2)) (l.length - 1) 0 (by omega) (fun m h1 h2 => by omega)
        · rw [hz']
          refine Ev.step (fun k => ancepsref54_CheckTree.j0.eq_2 _ _ _ _) (Ev.neg Bool.false_ne_true (Ev.pos (by omega) (Ev.pos (by rw [Int.toNat_natCast]; omega) ?_)))
          have h := l0_ev ws l hl hS r l.length 0 (by omega)
          rw [show EK l 0 = [] from rfl, cntL_nil] at h
          rw [Int.toNat_natCast]
          refine h (fun hR => ?_) (fun ⟨m, _, hm, hb⟩ => k3 (fun hh => by rw [allP_R hh.1 hh.2 m hm] at hb; cases hb))
          have hR' : allR l := fun m hm => hR m (Nat.zero_le _) hm
          exact l2_ev ws l hl r (fun ho => k2 hR' ho) (fun ho => k3 (fun hh => ho hh.2)) (l.length - 1) 1 (by omega) (by omega) (fun m h1 h2 => by omega)
      · have hz' : ((rd_T46 l 0).f0 != 0) = true := by
          have : (rd_T46 l 0).f0 ≠ 0 := hz
          simp [this]
        refine ⟨false, Ev.bind (valid_ev ws hw) (Ev.pos hv (Ev.neg hn (Ev.neg hz (Ev.now _)))), Ev.bind (rvalid_ev ws hw) (Ev.pos hv (Ev.neg hn (Ev.pos (by omega) ?_)))⟩
        rw [hz']; exact h0 ws
  · exact ⟨false, Ev.bind (valid_ev ws hw) (Ev.neg hv (Ev.now _)), Ev.bind (rvalid_ev ws hw) (Ev.neg hv (h0 ws))⟩
def sumK (n : Int) : List Lf → Int
  | [] => n
  | x :: r => sumK (wrap64 (n + (x.f2.length : Int))) r
theorem sumK_of : ∀ (l : List Lf) (n : Int), 0 ≤ n → (∀ x ∈ l, x.f2.length * 8 ≤ 140737488351232) → n + 17592186043904 * l.length ≤ 9223372036854775807 → sumK n l = n + ((l.map (fun x => x.f2.length)).sum : Nat)
  | [], n, _, _, _ => by simp [sumK]
  | x :: r, n, h0, h, hb => by
    have h1 := h x (List.mem_cons_self ..)
    rw [List.length_cons] at hb
    rw [sumK, w64 (by omega) (by omega), sumK_of r _ (by omega) (fun y hy => h y (List.mem_cons_of_mem _ hy)) (by omega), List.map_cons, List.sum_cons]
    omega
theorem nd_at (l : List Lf) (i : Nat) (h : i < l.length) : rd_T46 l (i : Int) = l[i] := by
  unfold rd_T46
  rw [Int.toNat_natCast, List.getD_eq_getElem?_getD, List.getElem?_eq_getElem h]; rfl
theorem EK_sum (l : List Lf) : (EK l l.length).length = (l.map (fun x => x.f2.length)).sum := by
  have : ∀ m, m ≤ l.length → (EK l m).length = ((l.take m).map (fun x => x.f2.length)).sum := by
    intro m
    induction m with
    | zero => intro _; simp [EK]
    | succ m ih =>
      intro h
      rw [EK_succ, List.length_append, ih (by omega), List.take_succ_eq_append_getElem (by omega), List.map_append, List.sum_append]
      congr 1
      unfold KD nd
      rw [nd_at l m (by omega)]; simp
  rw [this _ (Nat.le_refl _), List.take_length]
theorem clone_f (l : List Int) (hl : l.length * 8 ≤ 140737488351232) : slices_Clone_int_int.f l = some l := by
  unfold slices_Clone_int_int.f
  rw [Option.bind_some, if_pos (by simp; omega)]; rfl
theorem clones_loop (l : List Lf) (ws : List ByteArray) (hl : l.length ≤ 1000000) (hx : ∀ x ∈ l, x.f2.length * 8 ≤ 140737488351232) (hw : ws.length ≤ 1000000000) (hS : (EK l l.length).length ≤ 1000000) (d : Nat) : ∀ i : Nat, i + d = l.length →
    Ev (fun k => ancepslaw54_WordlistChecks.l1 k l (l.take i) l (l.length : Int) (i : Int) ws) true := by
  induction d with
  | zero =>
    intro i hi
    rw [List.take_of_length_le (by omega)]
    obtain ⟨r, h1, h2⟩ := both_ev ws l hw hl hS
    exact Ev.step (fun k => ancepslaw54_WordlistChecks.l1.eq_2 _ _ _ _ _ _ _) (Ev.neg (by omega) (Ev.bind (copied_ev ws hw) (Ev.bind h1 (Ev.bind h2 (Ev.val (by simp))))))
  | succ d ih =>
    intro i hi
    have hlt : i < l.length := by omega
    refine Ev.step (fun k => ancepslaw54_WordlistChecks.l1.eq_2 _ _ _ _ _ _ _) (Ev.pos (by omega) (Ev.pos (by omega) (Ev.pos (by omega) ?_)))
    rw [nd_at l i hlt, w64 (i := (i : Int) + 1) (by omega) (by omega)]
    refine Ev.bind (Ev.now' (clone_f _ (hx _ (List.getElem_mem hlt)))) (Ev.pos (by rw [List.length_take]; omega) ?_)
    have h := ih (i + 1) (by omega)
    rw [List.take_succ_eq_append_getElem hlt] at h
    exact h
theorem checks_j1 (l : List Lf) (ws : List ByteArray) (hx : ∀ x ∈ l, x.f2.length * 8 ≤ 140737488351232) (x : Bool) (h : x = false → l.length ≤ 1000000 ∧ ws.length ≤ 1000000000 ∧ (EK l l.length).length ≤ 1000000) : Ev (fun k => ancepslaw54_WordlistChecks.j1 k l x ws) true := by
  refine Ev.step (fun k => ancepslaw54_WordlistChecks.j1.eq_2 _ _ _ _) (Ev.cond (fun c => Ev.bind awake_ev (Ev.now _)) (fun c => ?_))
  obtain ⟨h1, h2, h3⟩ := h (Bool.eq_false_iff.2 c)
  exact clones_loop l ws h1 hx h2 h3 l.length 0 (by omega)
theorem checks_l0 (l : List Lf) (ws : List ByteArray) (hs : ∀ w ∈ ws, w.size ≤ 140737488351232) (hl : l.length ≤ 140737488351232) (hx : ∀ x ∈ l, x.f2.length * 8 ≤ 140737488351232) (d : Nat) : ∀ (i : Nat) (n : Int), i + d = l.length → sumK n (l.drop i) = sumK 0 l →
    Ev (fun k => ancepslaw54_WordlistChecks.l0 k l n l (l.length : Int) (i : Int) ws) true := by
  induction d with
  | zero =>
    intro i n hi hn
    rw [List.drop_of_length_le (by omega), sumK] at hn
    refine Ev.step (fun k => ancepslaw54_WordlistChecks.l0.eq_2 _ _ _ _ _ _ _) (Ev.neg (by omega) (Ev.bind awake_ev (Ev.pos rfl ?_)))
    obtain ⟨t, ht, hf⟩ := rfew_ev ws hs
    refine Ev.bind ht (Ev.cond (fun c => ?_) (fun c => checks_j1 l ws hx true (fun h => by cases h)))
    have hf := hf c
    refine Ev.cond (fun c1 => checks_j1 l ws hx true (fun h => by cases h)) (fun c1 => checks_j1 l ws hx _ (fun h => ?_))
    have h2 := of_decide_eq_false h
    have h3 := sumK_of l 0 (by omega) hx (by omega)
    rw [hn, h3, ← EK_sum] at h2
    exact ⟨by omega, by omega, by omega⟩
  | succ d ih =>
    intro i n hi hn
    have hlt : i < l.length := by omega
    rw [List.drop_eq_getElem_cons hlt, sumK] at hn
    refine Ev.step (fun k => ancepslaw54_WordlistChecks.l0.eq_2 _ _ _ _ _ _ _) (Ev.pos (by omega) (Ev.pos (by omega) (Ev.pos (by omega) ?_)))
    rw [nd_at l i hlt, w64 (i := (i : Int) + 1) (by omega) (by omega)]
    exact ih (i + 1) _ (by omega) hn
theorem WordlistChecks : ancepslaw54_WordlistChecks.Pure := by
  intro ws l _ _ hs _ h40 hx
  refine Ev.rounds ?_
  unfold ancepslaw54_WordlistChecks.f
  have h := checks_l0 l ws hs (by omega) (fun x hm => (hx x hm).2.2.2.1) l.length 0 0 (by omega) (by rw [List.drop_zero])
  exact h
end Go.Proofs.Ytdaooagikacboaa.Pure
