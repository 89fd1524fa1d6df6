/- Plain lemmas over the printed functions of chapter 4: Morae, Expand, by the program and by the reference. -/
import Derived.Test.YtbecdafbkdchkaaP2
import Derived.Test.YtbecdafbkdchkaaX2
namespace Go.Proofs.Ytbecdafbkdchkaa.Lem
open Go.RowKit Go.Proofs.Ytbecdafbkdchkaa.X Go.Proofs.YtbecdafbkdchkaaW.PrintWords Go.Proofs.YtbecdafbkdchkaaW.PrintLast Go.Proofs.YtbecdafbkdchkaaW.PrintMore
def cnt (x : Int) : List Int → Nat
  | [] => 0
  | c :: r => if c = x then cnt x r + 1 else cnt x r
theorem cnt_le (x : Int) : ∀ l : List Int, cnt x l ≤ l.length
  | [] => Nat.le_refl _
  | c :: r => by have := cnt_le x r; rw [cnt, List.length_cons]; split <;> omega
theorem count_cnt (b : UInt8) : ∀ l : List UInt8, l.count b = cnt (b.toNat : Int) (l.map fun x => (x.toNat : Int))
  | [] => rfl
  | c :: r => by
    rw [List.map_cons, cnt, List.count_cons, count_cnt b r]
    by_cases h : c = b
    · rw [h, if_pos (by simp), if_pos rfl]
    · rw [if_neg (by simpa using h), if_neg (fun e => h (UInt8.toNat_inj.1 (by omega)))]; rfl
theorem count_f (s : ByteArray) (b : UInt8) : strings_Count.f s ⟨#[b]⟩ = some ((cnt (b.toNat : Int) (bytesOf s) : Nat) : Int) := by
  unfold strings_Count.f
  rw [if_pos (show (⟨#[b]⟩ : ByteArray).size = 1 from rfl)]
  show some ((s.data.toList.count b : Nat) : Int) = _
  rw [count_cnt]; rfl
/-! Morae -/
def moraeS (s : ByteArray) : Int × Int × Int := if validS s = 0 then ((s.size : Int) + cnt 45 (bytesOf s), (s.size : Int) + cnt 45 (bytesOf s) + cnt 120 (bytesOf s), 0) else (0, 0, validS s)
theorem morae_ev (s : ByteArray) : Ev (fun k => pattern_Morae.f k s) (moraeS s) := by
  unfold pattern_Morae.f moraeS
  refine Ev.bind (valid_ev s) (Ev.cond (fun h => ?_) (fun h => Ev.val (if_neg h).symm))
  rw [if_pos h, count_f, count_f]
  have h1 := (valid_size h).1
  have h2 := cnt_le 45 (bytesOf s)
  have h3 := cnt_le 120 (bytesOf s)
  rw [bytesOf_length] at h2 h3
  refine Ev.just (Ev.just (Ev.val ?_))
  rw [show (((45 : UInt8).toNat : Nat) : Int) = 45 from rfl, show (((120 : UInt8).toNat : Nat) : Int) = 120 from rfl, w64 (i := (s.size : Int) + _) (by omega) (by omega), w64 (by omega) (by omega)]
/-! Expand -/
def expandL : List Int → List (List Int)
  | [] => [[]]
  | c :: r => if c = 120 then (expandL r).map (117 :: ·) ++ (expandL r).map (45 :: ·) else (expandL r).map (c :: ·)
def bitS (m k : Nat) : Int := if m / 2 ^ k % 2 = 0 then 117 else 45
def pickL (m : Nat) : List Int → List Int
  | [] => []
  | c :: r => if c = 120 then bitS m (cnt 120 r) :: pickL m r else c :: pickL m r
theorem bit_add (n k m : Nat) (h : k < n) : bitS (2 ^ n + m) k = bitS m k := by
  unfold bitS
  obtain ⟨d, rfl⟩ : ∃ d, n = k + (d + 1) := ⟨n - k - 1, by omega⟩
  rw [Nat.pow_add, Nat.pow_succ, Nat.mul_add_div (Nat.two_pow_pos k)]
  rw [show (2 ^ d * 2 + m / 2 ^ k) % 2 = m / 2 ^ k % 2 by omega]
theorem pick_add (n m : Nat) : ∀ r : List Int, cnt 120 r ≤ n → pickL (2 ^ n + m) r = pickL m r
  | [], _ => rfl
  | c :: r, h => by
    rw [cnt] at h
    rw [pickL, pickL]
    by_cases hc : c = 120
    · rw [if_pos hc] at h
      rw [if_pos hc, if_pos hc, pick_add n m r (by omega), bit_add n _ m (by omega)]
    · rw [if_neg hc] at h
      rw [if_neg hc, if_neg hc, pick_add n m r h]
theorem pick_expand : ∀ l : List Int, (List.range (2 ^ cnt 120 l)).map (fun m => pickL m l) = expandL l
  | [] => rfl
  | c :: r => by
    have ih := pick_expand r
    rw [cnt, expandL]
    by_cases hc : c = 120
    · rw [if_pos hc, if_pos hc, Nat.pow_succ, Nat.mul_two, List.range_add, List.map_append, List.map_map]
      congr 1
      · rw [← ih, List.map_map]
        refine List.map_congr_left fun m hm => ?_
        rw [List.mem_range] at hm
        simp only [Function.comp, pickL, if_pos hc]
        congr 1
        unfold bitS
        rw [Nat.div_eq_of_lt hm]; rfl
      · rw [← ih, List.map_map]
        refine List.map_congr_left fun m hm => ?_
        rw [List.mem_range] at hm
        simp only [Function.comp, pickL, if_pos hc]
        rw [pick_add _ m r (Nat.le_refl _)]
        congr 1
        unfold bitS
        rw [Nat.add_div_left _ (Nat.two_pow_pos _), Nat.div_eq_of_lt hm]; rfl
    · rw [if_neg hc, if_neg hc, ← ih, List.map_map]
      refine List.map_congr_left fun m hm => ?_
      simp only [Function.comp, pickL, if_neg hc]
theorem bits_all : ∀ m : Fin 1024, ∀ k : Fin 10, bits .and .i64 (shr .i64 ((m.val : Nat) : Int) ((k.val : Nat) : Int)) 1 = ((m.val / 2 ^ k.val % 2 : Nat) : Int) := by decide +kernel
theorem shl_all : ∀ n : Fin 11, shl .i64 1 ((n.val : Nat) : Int) = ((2 ^ n.val : Nat) : Int) := by decide +kernel
theorem sgn_bit (m k : Nat) : bt (⟨#[117, 45, 120]⟩ : ByteArray) ((m / 2 ^ k % 2 : Nat) : Int) = bitS m k := by
  unfold bitS
  rcases Nat.mod_two_eq_zero_or_one (m / 2 ^ k) with h | h
  · rw [h, if_pos rfl]; rfl
  · rw [h, if_neg (by decide)]; rfl
theorem pick_len (m : Nat) : ∀ l : List Int, (pickL m l).length = l.length
  | [] => rfl
  | c :: r => by rw [pickL]; split <;> rw [List.length_cons, pick_len m r, List.length_cons]
/-- the inner loop: one string, of the bits of m -/
theorem expand_l1 (s : ByteArray) (hs : s.size ≤ 60) (n : Int) (out : List ByteArray) (m : Nat) (hm : m < 1024) (N : Int) (c29 : Int) (hc : c29 = (s.size : Int)) (r : List ByteArray × Int)
    (hend : out.length < 8796093022208 → Ev (fun k => pattern_Expand.l0 k s n (out ++ [strOfNums (pickL m (bytesOf s))]) N (wrap64 ((m : Int) + 1))) r) (ho : out.length < 8796093022208) (d : Nat) :
    ∀ (i : Nat) (pre : List Int), i + d = s.size → pre.length = i → pre ++ pickL m ((bytesOf s).drop i) = pickL m (bytesOf s) → cnt 120 ((bytesOf s).drop i) ≤ 10 →
      Ev (fun k => pattern_Expand.l1 k s n out (m : Int) ((cnt 120 ((bytesOf s).drop i) : Nat) : Int) N (m : Int) (pre ++ (bytesOf s).drop i) c29 (i : Int)) r := by
  subst hc
  induction d with
  | zero =>
    intro i pre hi hl hp hk
    rw [drop_ge s i (by omega), pickL, List.append_nil] at hp
    rw [drop_ge s i (by omega), List.append_nil, hp]
    refine Ev.step (fun k => pattern_Expand.l1.eq_2 _ _ _ _ _ _ _ _ _ _ _) (Ev.neg (by omega) (Ev.pos ho (hend ho)))
  | succ d ih =>
    intro i pre hi hl hp hk
    have hlen : (pre ++ (bytesOf s).drop i).length = s.size := by rw [List.length_append, drop_len]; omega
    have hnx := drop_lt s i (by omega)
    refine Ev.step (fun k => pattern_Expand.l1.eq_2 _ _ _ _ _ _ _ _ _ _ _) (Ev.pos (by omega) (Ev.pos (by omega) (Ev.pos (by omega) ?_)))
    rw [hnx] at hp hk
    rw [hnx, rd_mid _ _ _ _ hl.symm]
    rw [pickL] at hp
    rw [cnt] at hk ⊢
    by_cases h : bt s i = 120
    · rw [if_pos h] at hp hk ⊢
      have hb := bits_all ⟨m, hm⟩ ⟨cnt 120 ((bytesOf s).drop (i + 1)), by omega⟩
      simp only at hb
      rw [w64 (i := ((cnt 120 ((bytesOf s).drop (i + 1)) + 1 : Nat) : Int) - 1) (by omega) (by omega), show ((cnt 120 ((bytesOf s).drop (i + 1)) + 1 : Nat) : Int) - 1 = ((cnt 120 ((bytesOf s).drop (i + 1)) : Nat) : Int) by omega, hb, sgn_bit, Int.toNat_natCast, set_mid _ _ _ _ _ hl.symm, w64 (i := (i : Int) + 1) (by omega) (by omega)]
      have hlt := Nat.mod_lt (m / 2 ^ cnt 120 ((bytesOf s).drop (i + 1))) (by decide : 0 < 2)
      refine Ev.pos h (Ev.pos (by omega) (Ev.pos (by omega) (Ev.pos (by omega) ?_)))
      exact ih (i + 1) (pre ++ [bitS m (cnt 120 ((bytesOf s).drop (i + 1)))]) (by omega) (by rw [List.length_append, hl]; rfl) (by rw [List.append_assoc]; exact hp) (by omega)
    · rw [if_neg h] at hp hk ⊢
      rw [mid, w64 (i := (i : Int) + 1) (by omega) (by omega)]
      refine Ev.neg h ?_
      exact ih (i + 1) (pre ++ [bt s i]) (by omega) (by rw [List.length_append, hl]; rfl) (by rw [List.append_assoc]; exact hp) hk
theorem expand_l0 (s : ByteArray) (hs : s.size ≤ 60) (hx : cnt 120 (bytesOf s) ≤ 10) (d : Nat) : ∀ m : Nat, m + d = 2 ^ cnt 120 (bytesOf s) → Ev (fun k => pattern_Expand.l0 k s ((cnt 120 (bytesOf s) : Nat) : Int) ((List.range m).map fun j => strOfNums (pickL j (bytesOf s))) ((2 ^ cnt 120 (bytesOf s) : Nat) : Int) (m : Int)) ((expandL (bytesOf s)).map strOfNums, 0) := by
  have hpow : 2 ^ cnt 120 (bytesOf s) ≤ 1024 := Nat.pow_le_pow_right (by decide) hx
  induction d with
  | zero =>
    intro m hm
    refine Ev.step (fun k => pattern_Expand.l0.eq_2 _ _ _ _ _ _) (Ev.neg (by omega) (Ev.val ?_))
    rw [show m = 2 ^ cnt 120 (bytesOf s) by omega, ← pick_expand, List.map_map]; rfl
  | succ d ih =>
    intro m hm
    refine Ev.step (fun k => pattern_Expand.l0.eq_2 _ _ _ _ _ _) (Ev.pos (by omega) (Ev.pos (by omega) (Ev.just ?_)))
    have h0 := expand_l1 s hs ((cnt 120 (bytesOf s) : Nat) : Int) ((List.range m).map fun j => strOfNums (pickL j (bytesOf s))) m (by omega) ((2 ^ cnt 120 (bytesOf s) : Nat) : Int) ((bytesOf s).length : Int) (by rw [bytesOf_length]) ((expandL (bytesOf s)).map strOfNums, 0) (fun _ => by
      rw [w64 (by omega) (by omega)]
      have := ih (m + 1) (by omega)
      rw [List.range_succ, List.map_append] at this
      exact this) (by rw [List.length_map, List.length_range]; omega) s.size 0 [] (by omega) rfl rfl (by rw [List.drop_zero]; exact hx)
    rw [List.drop_zero] at h0
    exact h0
def expandS (s : ByteArray) : List ByteArray × Int := if validS s = 0 then (if cnt 120 (bytesOf s) > 10 then ([], 3) else ((expandL (bytesOf s)).map strOfNums, 0)) else ([], validS s)
theorem expand_ev (s : ByteArray) : Ev (fun k => pattern_Expand.f k s) (expandS s) := by
  unfold pattern_Expand.f expandS
  refine Ev.bind (valid_ev s) (Ev.cond (fun h => ?_) (fun h => Ev.val (if_neg h).symm))
  rw [if_pos h, count_f, show (((120 : UInt8).toNat : Nat) : Int) = 120 from rfl]
  refine Ev.just (Ev.cond (fun h1 => Ev.val ?_) (fun h1 => Ev.pos (by omega) ?_))
  · rw [if_pos (c := cnt 120 (bytesOf s) > 10) (by omega)]
  · rw [if_neg (c := cnt 120 (bytesOf s) > 10) (by omega)]
    have hsh := shl_all ⟨cnt 120 (bytesOf s), by omega⟩
    simp only at hsh
    rw [hsh]
    exact expand_l0 s (valid_size h).1 (by omega) (2 ^ cnt 120 (bytesOf s)) 0 (by omega)
/-! what Expand gives -/
theorem expand_mem : ∀ (l e : List Int), e ∈ expandL l → e.length = l.length
  | [], e, h => by rw [expandL, List.mem_singleton] at h; rw [h]
  | c :: r, e, h => by
    rw [expandL] at h
    split at h
    · rcases List.mem_append.1 h with h | h
      · obtain ⟨x, hx, rfl⟩ := List.mem_map.1 h
        rw [List.length_cons, List.length_cons, expand_mem r x hx]
      · obtain ⟨x, hx, rfl⟩ := List.mem_map.1 h
        rw [List.length_cons, List.length_cons, expand_mem r x hx]
    · obtain ⟨x, hx, rfl⟩ := List.mem_map.1 h
      rw [List.length_cons, List.length_cons, expand_mem r x hx]
theorem expand_sign : ∀ (l e : List Int), l.all isS = true → e ∈ expandL l → e.all isS = true
  | [], e, _, h => by rw [expandL, List.mem_singleton] at h; rw [h]; rfl
  | c :: r, e, hl, h => by
    rw [List.all_cons, Bool.and_eq_true] at hl
    rw [expandL] at h
    split at h
    · rcases List.mem_append.1 h with h | h
      · obtain ⟨x, hx, rfl⟩ := List.mem_map.1 h
        rw [List.all_cons, expand_sign r x hl.2 hx]; rfl
      · obtain ⟨x, hx, rfl⟩ := List.mem_map.1 h
        rw [List.all_cons, expand_sign r x hl.2 hx]; rfl
    · obtain ⟨x, hx, rfl⟩ := List.mem_map.1 h
      rw [List.all_cons, expand_sign r x hl.2 hx, hl.1]; rfl
theorem expand_match : ∀ (l e : List Int), e ∈ expandL l → matchL l e = true
  | [], e, h => rfl
  | c :: r, e, h => by
    rw [expandL] at h
    split at h
    · next hc =>
      rcases List.mem_append.1 h with h | h
      · obtain ⟨x, hx, rfl⟩ := List.mem_map.1 h
        rw [matchL, expand_match r x hx]; unfold Lem.mt; rw [decide_eq_true hc]; simp
      · obtain ⟨x, hx, rfl⟩ := List.mem_map.1 h
        rw [matchL, expand_match r x hx]; unfold Lem.mt; rw [decide_eq_true hc]; simp
    · obtain ⟨x, hx, rfl⟩ := List.mem_map.1 h
      rw [matchL, expand_match r x hx]; unfold Lem.mt; simp
end Go.Proofs.Ytbecdafbkdchkaa.Lem
