-- printed by this session's xprint.py: out of the translation, by the kit's print with additions; Lean checks it
import Derived.Test.YtdaooagikacboaaWN
import Derived.Test.YtdaooagikacboaaWShare
import Derived.Test.YtdaooagikacboaaWRepsOne
import Derived.Test.YtdaooagikacboaaWGuard
import Derived.Test.YtdaooagikacboaaX0
import Derived.Test.YtdaooagikacboaaX2
namespace Go.Proofs.Ytdaooagikacboaa.X
open Go.RowKit Go.Proofs.YtdaooagikacboaaW.PrintWords Go.Proofs.YtdaooagikacboaaW.PrintLast Go.Proofs.YtdaooagikacboaaW.PrintMore
attribute [local go_sem] max2_int min2_int max_two min_two max_three min_three max_four min_four isSome_setCell binOp_gtr_str binOp_leq_str binOp_geq_str   -- for this text's walks alone
set_option linter.unusedVariables false
set_option linter.unusedSimpArgs false

-- the closure of grow, and slices.IndexFunc at it
/-- the closure: whether a word has another letter there -/
theorem wordlist_grow.other (s : ByteArray) (at_ c : Int) (b6 b10 : Nat) (w : World) (h6 : w.heap[b6]? = some (.cells #[.int .i64 at_] 3 (0, 0))) (h10 : w.heap[b10]? = some (.cells #[.int .u8 c] 5 (0, 0))) (h0 : 0 ≤ at_) (h1 : at_ < s.size) :
    Calls Try.prog 60 #[.string s, .pointer (some ⟨b6, 0, none⟩), .pointer (some ⟨b10, 0, none⟩)] w fun e w' => e = .returned (.bool (bt s at_ != c)) ∧ Drawn0 w w' := by
  have hc6 : w.cell? ⟨b6, 0, none⟩ = some (.int .i64 at_) := (blk_cell h6 0).trans rfl
  have hc10 : w.cell? ⟨b10, 0, none⟩ = some (.int .u8 c) := (blk_cell h10 0).trans rfl
  have p0 := eq_true h0
  have p1 := eq_true h1
  go_enter Try.func60, Try.ntmps60
  go_wp2_with (fail)
  go_quiet (fail)
  go_wp2_with (fail)
  go_ret
  refine ⟨?_, ⟨_, rfl⟩⟩
  show Ending.returned (.bool (((s[at_.toNat]'(by omega)).toNat : Int) != c)) = _
  rw [bt_at]
def wordlist_grow.i0 : Nat → List ByteArray → Int → Int → Int → Option Int
  | 0, _, _, _, _ => none
  | k + 1, l, at_, c, i => if i < (l.length : Int) then (if 0 ≤ i then (if 0 ≤ at_ ∧ at_ < ((rdOf ByteArray.empty l i).size : Int) then (if (bt (rdOf ByteArray.empty l i) at_ != c) = true then some i else wordlist_grow.i0 k l at_ c (wrap64 (i + 1))) else none) else none) else some (-1)
theorem wordlist_grow.index (k : Nat) (A : Option Addr) (cap : Nat) (l : List ByteArray) (at_ c : Int) (b6 b10 : Nat) (r : Int) (w : World) (hr : Kd.string.C w A l.length l) (hc : l.length ≤ cap) (h6 : w.heap[b6]? = some (.cells #[.int .i64 at_] 3 (0, 0))) (h10 : w.heap[b10]? = some (.cells #[.int .u8 c] 5 (0, 0)))
    (h : wordlist_grow.i0 k l at_ c 0 = some r) :
    Calls Try.prog 59 #[.slice A l.length cap, .func (.func 60) #[] #[.pointer (some ⟨b6, 0, none⟩), .pointer (some ⟨b10, 0, none⟩)]] w fun e w' => e = .returned (.int .i64 r) ∧ Drawn0 w w' := by
  have HR := Lib.hid hr; have HH := Lib.hid h; have HC := Lib.hid hc
  have H6 := Lib.hid h6; have H10 := Lib.hid h10
  clear hr h hc h6 h10
  have HD := Lib.hid (show Drawn0 w w from ⟨0, rfl⟩)
  go_enter Try.func59, Try.ntmps59
  go_wp2_with (fail)
  go_loopg [8] k (fun kq v8 wr => ∃ (i : Int), v8 = .int .i64 i ∧ Hid (wordlist_grow.i0 kq l at_ c i = some r) ∧ Hid (kq ≤ k) ∧ Hid (Drawn0 w wr))
  case atStart => exact ⟨0, rfl, HH, Lib.hid (Nat.le_refl _), HD⟩
  case round =>
    clear HH HD
    obtain ⟨i, rfl, HA, HK, HD⟩ := hrel
    cases gk with
    | zero => exact absurd HA.out (by simp [wordlist_grow.i0])
    | succ k1 =>
      have H := HA.out
      clear HA
      rw [wordlist_grow.i0] at H
      by_cases c1 : i < (l.length : Int)
      · rw [if_pos c1] at H
        by_cases c2 : 0 ≤ i
        · rw [if_pos c2] at H
          by_cases c3 : 0 ≤ at_ ∧ at_ < ((rdOf ByteArray.empty l i).size : Int)
          · rw [if_pos c3] at H
            have HE := Lib.hid H
            have b1 : decide (i < (l.length : Int)) = true := decide_eq_true c1
            obtain ⟨nd, hnd⟩ := HD.out
            have hC := Kd.C_below HR.out (show Below w.heap.size w wr by rw [hnd]; exact pw_below_drewN (Below.refl _ _) nd)
            obtain ⟨ad, rfl, hx⟩ := Kd.at_string hC i c2 c1
            have g6 : wr.heap[b6]? = some (.cells #[.int .i64 at_] 3 (0, 0)) := by rw [hnd]; exact H6.out
            have g10 : wr.heap[b10]? = some (.cells #[.int .u8 c] 5 (0, 0)) := by rw [hnd]; exact H10.out
            have HO := Lib.hid (wordlist_grow.other _ at_ c b6 b10 wr g6 g10 c3.1 c3.2)
            have q1 := eq_true c1
            have q2 := eq_true c2
            have HN := Lib.hid hnd
            clear H hC g6 g10 c1 c2 c3 hnd
            go_wp2_with (fail)
            refine (HO.out).mono ?_
            (first | rintro e w2 rfl hd | rintro e w2 ⟨rfl, hd⟩)
            have D2 := Lib.hid (show Drawn0 w w2 by obtain ⟨n2, rfl⟩ := hd; exact ⟨nd + n2, by rw [HN.out, World.drewN_drewN]⟩)
            clear hd HO hx
            by_cases c4 : (bt (rdOf ByteArray.empty l i) at_ != c) = true
            · have h5 := HE.out
              rw [if_pos c4] at h5
              obtain rfl := Option.some.inj h5
              clear h5 HE
              rw [c4]
              go_wp2_with (fail)
              go_ret
              exact ⟨rfl, D2.out⟩
            · have h5 := HE.out
              rw [if_neg c4] at h5
              have H5 := Lib.hid h5
              rw [Bool.eq_false_iff.2 c4]
              clear h5 HE c4
              go_wp2_with (fail)
              go_roundg k1
              case measure => have := HK.out; omega
              case rel => exact ⟨wrap64 (i + 1), rfl, H5, Lib.hid (by have := HK.out; omega), D2⟩
          · rw [if_neg c3] at H; cases H
        · rw [if_neg c2] at H; cases H
      · rw [if_neg c1] at H
        obtain rfl := Option.some.inj H
        have b1 : decide (i < (l.length : Int)) = false := decide_eq_false c1
        clear H c1
        go_wp2_with (fail)
        go_ret
        exact ⟨rfl, HD.out⟩
/-! the function: the list of leaves grown by the node of some words and all below it, and the node's index -/
mutual
def wordlist_grow.f : Nat → List S46 → List ByteArray → Int → Int → Option (List S46 × Int)
  | 0, _, _, _, _ => none
  | k + 1, L, ws, at_, sign => if L.length ≤ 1000000 then (if 0 < (ws.length : Int) then (if ((rdOf ByteArray.empty ws 0).size : Int) = at_ then wordlist_grow.l0 k (L ++ [⟨sign, true, []⟩]) (ws.drop 1) at_ L.length else wordlist_grow.l0 k (L ++ [⟨sign, false, []⟩]) ws at_ L.length) else wordlist_grow.l0 k (L ++ [⟨sign, false, []⟩]) ws at_ L.length) else none
def wordlist_grow.l0 : Nat → List S46 → List ByteArray → Int → Nat → Option (List S46 × Int)
  | 0, _, _, _, _ => none
  | k + 1, L, ws, at_, n => if 0 < (ws.length : Int) then (if 0 ≤ at_ ∧ at_ < ((rdOf ByteArray.empty ws 0).size : Int) then ((wordlist_grow.i0 k ws at_ (bt (rdOf ByteArray.empty ws 0) at_) 0).bind fun r => if r ≤ (ws.length : Int) then ((wordlist_grow.f k L (ws.take (if r < 0 then (ws.length : Int) else r).toNat) (wrap64 (at_ + 1)) (bt (rdOf ByteArray.empty ws 0) at_)).bind fun t => if n < t.1.length ∧ (t.1.getD n ⟨0, false, []⟩).f2.length ≤ 1000000 then wordlist_grow.l0 k (t.1.set n ⟨(t.1.getD n ⟨0, false, []⟩).f0, (t.1.getD n ⟨0, false, []⟩).f1, (t.1.getD n ⟨0, false, []⟩).f2 ++ [t.2]⟩) (ws.drop (if r < 0 then (ws.length : Int) else r).toNat) at_ n else none) else none) else none) else some (L, (n : Int))
end
theorem wordlist_grow.mono_i : ∀ k y0 y1 y2 y3, LeO (wordlist_grow.i0 k y0 y1 y2 y3) (wordlist_grow.i0 (k + 1) y0 y1 y2 y3)
  | 0 => fun _ _ _ _ r h => by simp [wordlist_grow.i0] at h
  | k + 1 => by
    have ih := wordlist_grow.mono_i k
    intro y0 y1 y2 y3
    rw [wordlist_grow.i0, wordlist_grow.i0]
    exact LeO.ite (LeO.ite (LeO.ite (LeO.ite (LeO.refl _) (ih _ _ _ _)) (LeO.refl _)) (LeO.refl _)) (LeO.refl _)
theorem wordlist_grow.mono_l : ∀ k, (∀ y0 y1 y2 y3, LeO (wordlist_grow.f k y0 y1 y2 y3) (wordlist_grow.f (k + 1) y0 y1 y2 y3)) ∧ (∀ y0 y1 y2 y3, LeO (wordlist_grow.l0 k y0 y1 y2 y3) (wordlist_grow.l0 (k + 1) y0 y1 y2 y3))
  | 0 => ⟨fun _ _ _ _ r h => by simp [wordlist_grow.f] at h, fun _ _ _ _ r h => by simp [wordlist_grow.l0] at h⟩
  | k + 1 => by
    obtain ⟨ih1, ih2⟩ := wordlist_grow.mono_l k
    refine ⟨?_, ?_⟩
    · intro y0 y1 y2 y3
      rw [wordlist_grow.f, wordlist_grow.f]
      exact LeO.ite (LeO.ite (LeO.ite (ih2 _ _ _ _) (ih2 _ _ _ _)) (ih2 _ _ _ _)) (LeO.refl _)
    · intro y0 y1 y2 y3
      rw [wordlist_grow.l0, wordlist_grow.l0]
      exact LeO.ite (LeO.ite (LeO.bind (wordlist_grow.mono_i _ _ _ _ _) fun _ => LeO.ite (LeO.bind (ih1 _ _ _ _) fun _ => LeO.ite (ih2 _ _ _ _) (LeO.refl _)) (LeO.refl _)) (LeO.refl _)) (LeO.refl _)
def wordlist_grow.okA (b : Nat) (ok : Nat → Prop) (q : Nat) : Prop := (ok q ∧ q < b) ∨ b < q
theorem wordlist_grow.okA_X {b X : Nat} {ok : Nat → Prop} (h1 : X < b) (h2 : ¬ ok X) : ∀ q, wordlist_grow.okA b ok q → q ≠ X := by
  rintro q (⟨h, _⟩ | h) rfl
  · exact h2 h
  · omega
theorem wordlist_grow.okA_b {b : Nat} {ok : Nat → Prop} : ∀ q, wordlist_grow.okA b ok q → q ≠ b := by
  rintro q (⟨_, h⟩ | h) rfl <;> omega
theorem wordlist_grow.okA_H {b H : Nat} {ok : Nat → Prop} (h : H ≤ b) : ∀ q, wordlist_grow.okA b ok q → ok q ∨ H ≤ q := by
  rintro q (⟨h, _⟩ | h)
  · exact .inl h
  · exact .inr (by omega)
set_option pp.deepTerms true in
set_option pp.maxSteps 1000000 in
set_option maxHeartbeats 8000000 in
set_option maxRecDepth 100000 in
theorem wordlist_grow.calls (k : Nat) : ∀ (L : List S46) (ws : List ByteArray) (at_ sign : Int) (L' : List S46) (n : Int) (X : Nat) (v : Value) (A : Option Addr) (cap : Nat) (ok : Nat → Prop) (w0 w : World),
  w.heap[X]? = some (.cells #[v] 38 (0, 0)) → w0.heap.size ≤ X → ¬ ok X → Kd.S k46 46 w w0.heap.size ok v L → Kd.string.C w0 A ws.length ws → ws.length ≤ cap → Below w0.heap.size w0 w → wordlist_grow.f k L ws at_ sign = some (L', n) →
  Calls Try.prog 38 #[.pointer (some ⟨X, 0, none⟩), .slice A ws.length cap, .int .i64 at_, .int .i64 sign] w fun e w' => e = .returned (.int .i64 n) ∧ ∃ v', w'.heap[X]? = some (.cells #[v'] 38 (0, 0)) ∧ Kd.S k46 46 w' w0.heap.size (fun q => ok q ∨ w.heap.size ≤ q) v' L' ∧ Kept w w' (fun q => q = X ∨ ok q) ∧ Below w0.heap.size w0 w' := by
 induction k using Nat.strongRecOn with
 | ind k ihk =>
 cases k with
 | zero => intro L ws at_ sign L' n X v A cap ok w0 w _ _ _ _ _ _ _ h; simp [wordlist_grow.f] at h
 | succ k =>
  intro L ws at_ sign L' n X v A cap ok w0 w hX hXB hok hS hW hcap hB h
  rw [wordlist_grow.f] at h
  by_cases hL : L.length ≤ 1000000
  ·rw [if_pos hL] at h
   obtain ⟨A0, c0, rfl⟩ := Kd.S_slice hS
   have HX := Lib.hid hX; have HXB := Lib.hid hXB; have HOK := Lib.hid hok; have HS := Lib.hid hS; have HW := Lib.hid hW; have HCP := Lib.hid hcap; have HB := Lib.hid hB; have HH := Lib.hid h; have HL := Lib.hid hL; have IH := Lib.hid ihk
   clear hX hXB hok hS hW hcap hB h hL ihk
   go_enter Try.func38, Try.ntmps38
   go_wp2_with (first | ((with_reducible refine gate_dst (N := 6) rfl ?_); (try (refine gate_guard (by rfl) ?_; dsimp only)); refine box_event ?hg (N := 6) ?hd (cs := #[.int .i64 at_]) (t := 3) ?hr ?_; (case hd => rfl); (case hg => rfl); (case hr => first | (go_simp; done) | (go_simp; rfl)); intro b6 hb6 w1 hbox hbb; have H6 := Lib.hid hbox; have B1 := Lib.hid (HB.out.trans (hbb.mono HB.out.size)); have X1 := Lib.hid (blk_below HX.out hbb); have N6 := Lib.hid (show X < b6 ∧ w.heap.size = b6 ∧ b6 < w1.heap.size from ⟨by have := blk_lt HX.out; omega, hb6.symm, blk_lt hbox⟩); have K1 := Lib.hid (Kept.of_below hbb (fun q => q = X ∨ ok q)); have S2 := Lib.hid (Kd.S_below (Kd.S_mono (Kd.S_bound HS.out) (ok' := fun q => wordlist_grow.okA b6 ok q ∧ ¬ False) (fun q hq => ⟨Or.inl ⟨hq.1, by have := hq.2.2.1; omega⟩, fun h => h⟩)) hbb); clear hb6 hbox hbb; have hcx := (blk_cell X1.out 0).trans (show _ = some (Value.slice A0 L.length c0) from rfl)) | ((with_reducible refine gate_builtin (b := .append) (xs := #[.tmp 20, .tmp 23]) rfl ?_); at_builtin; refine Kd.S_append k46 (w0 := w0) w0.heap.size rfl (.tmp 20) (.tmp 23) 38 46 (.agg #[(.int .i64 0), .bool false, .slice none 0 0]) 40 rfl Try.underlying38 (by kernel_rfl) rfl (by decide) (by omega) (.slice A0 L.length c0) L (⟨sign, false, []⟩ : S46) [.int .i64 sign, .bool false, .slice none 0 0] (wordlist_grow.okA b6 ok) (fun _ => False) rfl rfl ?aP (fun _ hk => hk.elim) ?aF ?aO ?aB ?aS ?aL ?_; (case aP => exact k46_mkM _ _ _ (⟨sign, false, []⟩ : S46) (Kd.R_nil _ _ _ _ _)); (case aF => exact fun q hq => Or.inr (by have := N6.out.2.2; omega)); (case aO => exact S2.out); (case aB => exact B1.out); (case aS => exact B1.out.size); (case aL => have := HL.out; omega); intro v1 w3 hS3 hB3 hg3 hv3; obtain ⟨A1, cA, rfl⟩ := Kd.S_slice hS3; rw [List.length_append, List.length_singleton] at hS3 hv3 ⊢; have g1 := Kd.S_away S2.out (g := X) (fun q hq => wordlist_grow.okA_X N6.out.1 HOK.out q hq.1); have g2 := Kd.S_away S2.out (g := b6) (fun q hq => wordlist_grow.okA_b q hq.1); have X3 := Lib.hid (blk_grown X1.out hg3 g1); have H3 := Lib.hid (blk_grown H6.out hg3 g2); have S3 := Lib.hid hS3; have B3 := Lib.hid hB3; have K3 := Lib.hid (Kept.of_grown hg3 K1.out (fun q hq => Or.inl (Or.inr ((Kd.S_R HS.out).1 q hq)))); clear hS3 hB3 hg3 hv3 g1 g2 hcx; have hcx := (blk_cell X3.out 0).trans (show _ = some (Value.slice A0 L.length c0) from rfl); have hfx := blk_frozen X3.out 0))
   have X4 := Lib.hid (blk_put X3.out 0 (.slice A1 (L.length + 1) cA) rfl)
   have H4 := Lib.hid (blk_far H3.out (p := ⟨X, 0, none⟩) (Nat.ne_of_gt N6.out.1) (.slice A1 (L.length + 1) cA))
   have S4 := Lib.hid (Kd.S_far S3.out (p := ⟨X, 0, none⟩) (wordlist_grow.okA_X N6.out.1 HOK.out) (.slice A1 (L.length + 1) cA))
   have B4 := Lib.hid (below_set B3.out HXB.out (j := 0) (v := .slice A1 (L.length + 1) cA))
   have K4 := Lib.hid (K3.out.setCell (p := ⟨X, 0, none⟩) (Or.inl (Or.inl rfl)) (.slice A1 (L.length + 1) cA))
   clear X3 H3 S3 B3 S2 X1 H6 B1 HX HS HB hcx hfx K1 K3
   generalize w3.setCell ⟨X, 0, none⟩ (.slice A1 (L.length + 1) cA) = w4 at X4 H4 S4 B4 K4 ⊢
   have hh := HH.out
   clear HH
   by_cases c1 : 0 < (ws.length : Int)
   ·rw [if_pos c1] at hh
    have b1 : decide (0 < (ws.length : Int)) = true := decide_eq_true c1
    have b1' : decide (0 < ws.length) = true := decide_eq_true (by omega)
    obtain ⟨ad, rfl, hx⟩ := Kd.at_string (Kd.C_below HW.out B4.out) 0 (by decide) c1
    have hc6 : w4.cell? ⟨b6, 0, none⟩ = some (.int .i64 at_) := (blk_cell H4.out 0).trans rfl
    have p1 := eq_true c1
    have p2 := eq_true (show 0 < ws.length by omega)
    have p3 := eq_true (show ws ≠ [] by rintro rfl; simp at c1)
    have hx0 : w4.cell? (ad.add 0) = some (.string (rdOf ByteArray.empty ws 0)) := hx
    have hx1 : w4.cell? ad = some (.string (rdOf ByteArray.empty ws 0)) := by
     have e : ad.add 0 = ad := by cases ad; simp [Addr.add]
     rw [← e]; exact hx0
    by_cases c2 : ((rdOf ByteArray.empty ws 0).size : Int) = at_
    ·rw [if_pos c2] at hh
     have b2 : (((rdOf ByteArray.empty ws 0).size : Int) == at_) = true := beq_iff_eq.2 c2
     have H9 := Lib.hid hh
     clear hh
     go_quiet (fail)
     have X5 := Lib.hid (blk_drewN X4.out nq)
     have H5 := Lib.hid (blk_drewN H4.out nq)
     have S5 := Lib.hid (Kd.S_drewN S4.out nq)
     have B5 := Lib.hid (pw_below_drewN B4.out nq)
     have K5 := Lib.hid (K4.out.drewN nq)
     clear X4 H4 S4 B4 K4 hc6 hx0 hx1 hx
     generalize w4.drewN nq = w5 at X5 H5 S5 B5 K5 ⊢
     obtain ⟨g, cg, eg, hg1, hg2, cl, hg3⟩ := Kd.S_form S5.out (by simp)
     injection eg with e1 e2 e3
     subst e1; subst e3; clear e2
     obtain ⟨oki, ce, hcl, hM, hcc, hfr, hoki, hH⟩ := Kd.S_elem S5.out ⟨0, false, []⟩ (L.length : Int) (by omega) (by omega)
     have eL : (L ++ [(⟨sign, false, []⟩ : S46)]).getD (L.length : Int).toNat ⟨0, false, []⟩ = ⟨sign, false, []⟩ := by simp
     rw [eL] at hM
     obtain ⟨v2, rfl, hR⟩ := k46_openM hM
     have hc0 := hcc 1 _ rfl
     have hf0 := hfr 1
     have hsz : k46.sz = 3 := rfl
     rw [hsz] at hc0 hf0
     simp only [Int.toNat_natCast] at hc0 hf0
     have hcx := (blk_cell X5.out 0).trans (show _ = some (Value.slice (some ⟨g, 0, none⟩) (L.length + 1) cA) from rfl)
     have P := Kd.S_seg0 hH (by omega) (by omega) (seg := [.bool true]) (j := 1) (by decide) (x' := (⟨sign, true, []⟩ : S46)) (k46_mkM _ _ _ (⟨sign, true, []⟩ : S46) hR) (fun _ h => h)
     have eS : (L ++ [(⟨sign, false, []⟩ : S46)]).set (L.length : Int).toNat ⟨sign, true, []⟩ = L ++ [⟨sign, true, []⟩] := by simp
     rw [hsz, eS] at P
     have NG := Lib.hid (show wordlist_grow.okA b6 ok g from (Kd.S_R S5.out).1 g rfl)
     have P1 := Lib.hid P.1
     have P2 := Lib.hid P.2
     have GB := Lib.hid hg1
     clear P eS eL hM hcc hfr hoki hH hR hcl hg1 hg2 hg3
     have hi0 : (0 ≤ (L.length : Int)) = True := eq_true (by omega)
     have hi1 : ((L.length : Int) < ((L.length + 1 : Nat) : Int)) = True := eq_true (by omega)
     have hi2 : ((L.length : Int) < (L.length : Int) + 1) = True := eq_true (by omega)
     obtain ⟨i9, hi9, _, hs9, _⟩ := info_parts info9
     obtain ⟨Ad, hrun, hrd, hcd⟩ := print_drop_of (P := Try.prog) Value.string ByteArray.empty 24 9 .i64 Try.underlying24 hi9 hs9 (some ad) cap ws 1 (by decide) (by omega) HCP.out
     have W5 := Lib.hid (show Kd.string.C w0 Ad (ws.drop 1).length (ws.drop 1) from Kd.C_of_reads (hrd w0 (Kd.reads_of_C HW.out)))
     have C5 := Lib.hid (show (ws.drop 1).length ≤ cap - 1 from hcd)
     have hrun1 : ∀ W : World, (Instr.slice 24 (.slice (some ad) ws.length cap) (some (.int .i64 1)) none none).run Try.prog W = .ok (.slice Ad (ws.drop 1).length (cap - 1)) W := hrun
     clear hrun hrd hcd hi9 hs9 c2
     go_wp2_with (fail)
     have NX := wordlist_grow.okA_X N6.out.1 HOK.out g NG.out
     have X6 := Lib.hid (blk_far X5.out (p := ⟨g, L.length * 3 + 1, none⟩) NX.symm (.bool true))
     have H6 := Lib.hid (blk_far H5.out (p := ⟨g, L.length * 3 + 1, none⟩) (wordlist_grow.okA_b g NG.out).symm (.bool true))
     have S6 := Lib.hid (show Kd.S k46 46 (w5.setCell ⟨g, L.length * 3 + 1, none⟩ (.bool true)) w0.heap.size (wordlist_grow.okA b6 ok) _ _ from P1.out)
     have B6 := Lib.hid (below_set B5.out GB.out (j := L.length * 3 + 1) (v := .bool true))
     have K6 := Lib.hid (K5.out.setCell (p := ⟨g, L.length * 3 + 1, none⟩) ((wordlist_grow.okA_H (Nat.le_of_eq N6.out.2.1) g NG.out).elim (fun h => Or.inl (Or.inr h)) Or.inr) (.bool true))
     clear X5 H5 S5 B5 K5 P1 P2 NG GB NX hc0 hf0 hcx
     generalize w5.setCell ⟨g, L.length * 3 + 1, none⟩ (.bool true) = w6 at X6 H6 S6 B6 K6 ⊢
     have X5 := X6; have H5 := H6; have S5 := S6; have B5 := B6; have K5 := K6
     clear X6 H6 S6 B6 K6
     go_wp2_with (fail)
     go_loopg [1] k (fun kq v1 wr => ∃ (Lr : List S46) (wsr : List ByteArray) (Ar : Option Addr) (cr : Nat) (vr : Value), v1 = .slice Ar wsr.length cr ∧ Hid (wordlist_grow.l0 kq Lr wsr at_ L.length = some (L', n)) ∧ Hid (kq ≤ k) ∧ Hid (wr.heap[X]? = some (.cells #[vr] 38 (0, 0))) ∧ Hid (wr.heap[b6]? = some (.cells #[.int .i64 at_] 3 (0, 0))) ∧ Hid (Kd.S k46 46 wr w0.heap.size (wordlist_grow.okA b6 ok) vr Lr) ∧ Hid (Kd.string.C w0 Ar wsr.length wsr) ∧ Hid (wsr.length ≤ cr) ∧ Hid (Below w0.heap.size w0 wr) ∧ Hid (Kept w wr (fun q => q = X ∨ ok q)))
     case atStart => exact ⟨_, _, _, _, _, (by first | rfl | (simp only [List.length_drop])), H9, Lib.hid (Nat.le_refl _), (by first | exact X5 | exact Lib.hid (blk_drewN X5.out _)), (by first | exact H5 | exact Lib.hid (blk_drewN H5.out _)), (by first | exact S5 | exact Lib.hid (Kd.S_drewN S5.out _)), W5, C5, (by first | exact B5 | exact Lib.hid (pw_below_drewN B5.out _)), (by first | exact K5 | exact Lib.hid (K5.out.drewN _))⟩
     case round =>
      clear H9 X5 H5 S5 W5 C5 B5 K5 HW HCP
      obtain ⟨Lr, wsr, Ar, cr, vr, rfl, HA, HK, XR, HR, SR, WR, CR, BR, KR⟩ := hrel
      cases gk with
      | zero => exact absurd HA.out (by simp [wordlist_grow.l0])
      | succ k1 =>
       have H := HA.out
       clear HA
       rw [wordlist_grow.l0] at H
       by_cases c3 : 0 < (wsr.length : Int)
       ·rw [if_pos c3] at H
        have b3 : decide (0 < (wsr.length : Int)) = true := decide_eq_true c3
        have b3' : decide (0 < wsr.length) = true := decide_eq_true (by omega)
        have q1 := eq_true c3
        have q2 := eq_true (show 0 < wsr.length by omega)
        by_cases c4 : 0 ≤ at_ ∧ at_ < ((rdOf ByteArray.empty wsr 0).size : Int)
        ·rw [if_pos c4] at H
         obtain ⟨r, hi0, H2⟩ := Option.bind_eq_some_iff.1 H
         clear H
         by_cases c5 : r ≤ (wsr.length : Int)
         ·rw [if_pos c5] at H2
          obtain ⟨⟨L2, kid⟩, hf, H3⟩ := Option.bind_eq_some_iff.1 H2
          clear H2
          dsimp only at H3
          by_cases c6 : L.length < L2.length ∧ (L2.getD L.length ⟨0, false, []⟩).f2.length ≤ 1000000
          ·rw [if_pos c6] at H3
           have HI0 := Lib.hid hi0; have HF := Lib.hid hf; have H3' := Lib.hid H3; have C6 := Lib.hid c6; have C5 := Lib.hid c5; have C3 := Lib.hid c3
           clear hi0 hf H3 c6 c5 c3
           obtain ⟨ad, rfl, hx⟩ := Kd.at_string (Kd.C_below WR.out BR.out) 0 (by decide) C3.out
           have hx1 : wr.cell? ad = some (.string (rdOf ByteArray.empty wsr 0)) := by
            have e : ad.add 0 = ad := by cases ad; simp [Addr.add]
            rw [← e]; exact hx
           have hc6 : wr.cell? ⟨b6, 0, none⟩ = some (.int .i64 at_) := (blk_cell HR.out 0).trans rfl
           have C4 := Lib.hid c4
           obtain ⟨d1, d2⟩ := c4
           have e1 := eq_true d1
           have e2 := eq_true d2
           clear d1 d2 hx
           go_wp2_with (fail)
           refine start_ (n := 7) (S := fun w' => w'.cell? ad = some (.string (rdOf ByteArray.empty wsr 0)) ∧ w'.cell? ⟨b6, 0, none⟩ = some (.int .i64 at_)) (ds := [6]) #[false, false, false, false, false, false, false] (by kernel_rfl) rfl rfl ⟨hx1, hc6⟩ (fun hHeld => ?_)
           have X7 := Lib.hid (blk_drew XR.out); have H7 := Lib.hid (blk_drew HR.out); have S7 := Lib.hid (Kd.S_drew SR.out); have B7 := Lib.hid (below_drew1 BR.out); have K7 := Lib.hid KR.out.drew
           clear XR HR SR BR KR hx1 hc6
           generalize wr.drew = w7 at X7 H7 S7 B7 K7 hHeld ⊢
           refine pure_ (i := 0) (N := (some 48)) (v := ?_) (a' := ?_) #[true, false, false, false, false, false, false] rfl rfl (by kernel_rfl) (fun _ _ _ h => h) (Or.inl ⟨by rfl, ?_⟩) ?_ ?_
           rotate_left
           ·intro w'
            go_simp
            with_reducible rfl
           rotate_left
           ·simp only [Act.put, List.setIfInBounds_toArray, List.set_cons_zero, List.set_cons_succ, i64_w, i32_w]
            rfl
           refine pure_ (i := 1) (N := (some 49)) (v := ?_) (a' := ?_) #[true, true, false, false, false, false, false] rfl rfl (by kernel_rfl) (fun _ _ _ h => h) (Or.inl ⟨by rfl, ?_⟩) ?_ ?_
           rotate_left
           ·intro w'
            go_simp
            with_reducible rfl
           rotate_left
           ·simp only [Act.put, List.setIfInBounds_toArray, List.set_cons_zero, List.set_cons_succ, i64_w, i32_w]
            rfl
           refine take_ (i := 2) (N := (some 50)) (v := ?_) (a' := ?_) #[true, true, true, false, false, false, false] rfl rfl (by kernel_rfl) (fun _ _ _ h => h) (Or.inl ⟨by rfl, ?_⟩) hHeld ?_ ?_
           rotate_left
           ·rintro w' ⟨s0, s1⟩
            go_simp
            with_reducible rfl
           rotate_left
           ·simp only [Act.put, List.setIfInBounds_toArray, List.set_cons_zero, List.set_cons_succ, i64_w, i32_w]
            rfl
           refine take_ (i := 3) (N := (some 51)) (v := ?_) (a' := ?_) #[true, true, true, true, false, false, false] rfl rfl (by kernel_rfl) (fun _ _ _ h => h) (Or.inl ⟨by rfl, ?_⟩) hHeld ?_ ?_
           rotate_left
           ·rintro w' ⟨s0, s1⟩
            go_simp
            with_reducible rfl
           rotate_left
           ·simp only [Act.put, List.setIfInBounds_toArray, List.set_cons_zero, List.set_cons_succ, i64_w, i32_w]
            rfl
           refine pure_ (i := 4) (N := (some 52)) (v := .int .u8 (bt (rdOf ByteArray.empty wsr 0) at_)) (a' := ?_) #[true, true, true, true, true, false, false] rfl rfl (by kernel_rfl) (fun _ _ _ h => h) (Or.inl ⟨by rfl, ?_⟩) ?_ ?_
           ·intro w'
            go_simp
            first | (rw [bt_at]; done) | (rw [bt_at]; rfl) | (simp only [bt_at]; done)
           rotate_left
           ·simp only [Act.put, List.setIfInBounds_toArray, List.set_cons_zero, List.set_cons_succ, i64_w, i32_w]
            rfl
           refine one_ (i := 5) (N := (some 10)) #[true, true, true, true, true, true, false] rfl rfl (by kernel_rfl) (by decide) (fun K hK => ?_)
           refine value_ (w1 := ?_) (v := ?_) (by rfl) rfl ?_ ?_
           rotate_left 2
           ·go_simp
            constructor
            ·rfl
            ·rfl
           refine hK.out _ _ ⟨(World.cell?_alloc_lt _ _ _ (World.block_lt_of_cell? _ _ hHeld.1)).trans hHeld.1, (World.cell?_alloc_lt _ _ _ (World.block_lt_of_cell? _ _ hHeld.2)).trans hHeld.2⟩ (fun hHeld => ?_)
           clear hK K
           refine norm_ (a' := ?_) ?_ ?_
           rotate_left
           ·show Act.put _ (some 10) _ = _
            simp only [Act.put, List.setIfInBounds_toArray, List.set_cons_zero, List.set_cons_succ, i64_w, i32_w]
            rfl
           refine last_ (i := 6) (N := none) #[true, true, true, true, true, true, true] rfl rfl (by kernel_rfl) (by decide) (fun K hK => ?_)
           refine skip_ (w1 := ?_) (by rfl) rfl ?_ ?_
           rotate_left
           ·go_simp
            rfl
           refine hK.out _ _ ?_
           clear hK K
           refine done_ (by kernel_rfl) ?_
           have X8 := Lib.hid (blk_alloc X7.out (.cells #[.int .u8 (bt (rdOf ByteArray.empty wsr 0) at_)] 5)); have H8 := Lib.hid (blk_alloc H7.out (.cells #[.int .u8 (bt (rdOf ByteArray.empty wsr 0) at_)] 5)); have S8 := Lib.hid (Kd.S_alloc (Kd.S_elderB S7.out w7.heap.size (Nat.le_refl _)) (.cells #[.int .u8 (bt (rdOf ByteArray.empty wsr 0) at_)] 5)); have B8 := Lib.hid (below_alloc B7.out (.cells #[.int .u8 (bt (rdOf ByteArray.empty wsr 0) at_)] 5)); have K8 := Lib.hid (K7.out.alloc (.cells #[.int .u8 (bt (rdOf ByteArray.empty wsr 0) at_)] 5)); have T8 := Lib.hid (blk_new w7 (.cells #[.int .u8 (bt (rdOf ByteArray.empty wsr 0) at_)] 5))
           have N8 := Lib.hid (show b6 < w7.heap.size from blk_lt H7.out)
           have N8' := Lib.hid (show X < w7.heap.size from blk_lt X7.out)
           clear X7 H7 S7 B7 K7 hHeld
           generalize w7.alloc (.cells #[.int .u8 (bt (rdOf ByteArray.empty wsr 0) at_)] 5) = w8 at X8 H8 S8 B8 K8 T8 ⊢
           generalize w7.heap.size = b10 at S8 T8 N8 N8' ⊢
           go_wp2_with (fail)
           refine (wordlist_grow.index k1 (some ad) cr wsr at_ (bt (rdOf ByteArray.empty wsr 0) at_) b6 b10 r _ (Kd.C_below WR.out B8.out) CR.out H8.out T8.out HI0.out).mono ?_
           rintro e w9 ⟨rfl, ⟨nd, rfl⟩⟩
           by_cases c7 : r < 0
           ·have HC7 := Lib.hid c7
            have b7 : decide (r < 0) = true := decide_eq_true c7
            clear c7
            go_wp2_with (fail)
            have X9 := Lib.hid (blk_drew (blk_drewN X8.out nd)); have H9' := Lib.hid (blk_drew (blk_drewN H8.out nd)); have S9 := Lib.hid (Kd.S_drew (Kd.S_drewN S8.out nd)); have B9 := Lib.hid (below_drew1 (pw_below_drewN B8.out nd)); have K9 := Lib.hid ((K8.out.drewN nd).drew); have T9 := Lib.hid (blk_drew (blk_drewN T8.out nd))
            clear X8 H8 S8 B8 K8 T8
            obtain ⟨i9, hi9, _, hs9, _⟩ := info_parts info9
            have hk0 : 0 ≤ (wsr.length : Int) := by have := HC7.out; omega
            have hk1 : (wsr.length : Int) ≤ (wsr.length : Int) := by have := C5.out; omega
            obtain ⟨hrun, hrd, hcd⟩ := print_take_of (P := Try.prog) Value.string ByteArray.empty 24 9 .i64 Try.underlying24 hi9 hs9 (some ad) cr wsr (wsr.length : Int) hk0 hk1 CR.out
            obtain ⟨Ad, hrun2, hrd2, hcd2⟩ := print_drop_of (P := Try.prog) Value.string ByteArray.empty 24 9 .i64 Try.underlying24 hi9 hs9 (some ad) cr wsr (wsr.length : Int) hk0 hk1 CR.out
            have W9 := Lib.hid (show Kd.string.C w0 (some ad) (wsr.take ((wsr.length : Int)).toNat).length (wsr.take ((wsr.length : Int)).toNat) from Kd.C_of_reads (hrd w0 (Kd.reads_of_C WR.out)))
            have C9 := Lib.hid hcd
            have WD := Lib.hid (show Kd.string.C w0 Ad (wsr.drop ((wsr.length : Int)).toNat).length (wsr.drop ((wsr.length : Int)).toNat) from Kd.C_of_reads (hrd2 w0 (Kd.reads_of_C WR.out)))
            have CD := Lib.hid hcd2
            have HF' := Lib.hid (show wordlist_grow.f k1 Lr (wsr.take ((wsr.length : Int)).toNat) (wrap64 (at_ + 1)) (bt (rdOf ByteArray.empty wsr 0) at_) = some (L2, kid) from by have h := HF.out; rw [if_pos HC7.out] at h; exact h)
            have H3d := Lib.hid (show wordlist_grow.l0 k1 (L2.set L.length ⟨(L2.getD L.length ⟨0, false, []⟩).f0, (L2.getD L.length ⟨0, false, []⟩).f1, (L2.getD L.length ⟨0, false, []⟩).f2 ++ [kid]⟩) (wsr.drop ((wsr.length : Int)).toNat) at_ L.length = some (L', n) from by have h := H3'.out; rw [if_pos HC7.out] at h; exact h)
            clear hrd hcd hrd2 hcd2 HF H3' hi9 hs9 hk0 hk1
            generalize wsr.take ((wsr.length : Int)).toNat = wk at hrun W9 C9 HF'
            generalize wsr.drop ((wsr.length : Int)).toNat = wd at hrun2 WD CD H3d
            generalize cr - ((wsr.length : Int)).toNat = cd at hrun2 CD
            have hbr := bt_range (rdOf ByteArray.empty wsr 0) at_
            have hw8 : (wrap64 (bt (rdOf ByteArray.empty wsr 0) at_)) = (bt (rdOf ByteArray.empty wsr 0) at_) := by unfold wrap64; omega
            have hw8' : (IntKind.i64.wrap (bt (rdOf ByteArray.empty wsr 0) at_)) = (bt (rdOf ByteArray.empty wsr 0) at_) := (i64_w _).trans hw8
            have HW8 := Lib.hid hw8; have HW8' := Lib.hid hw8'; have HBR := Lib.hid hbr
            clear hw8 hw8' hbr
            have HRUN2 := Lib.hid hrun2
            clear hrun2
            refine start_ (n := 10) (S := fun w' => w'.cell? ⟨b6, 0, none⟩ = some (.int .i64 at_) ∧ w'.cell? ⟨b10, 0, none⟩ = some (.int .u8 (bt (rdOf ByteArray.empty wsr 0) at_))) (ds := [9]) #[false, false, false, false, false, false, false, false, false, false] (by kernel_rfl) rfl rfl ⟨(blk_cell H9'.out 0).trans rfl, (blk_cell T9.out 0).trans rfl⟩ (fun hHeld => ?_)
            generalize (w8.drewN nd).drew = w10 at X9 H9' S9 B9 K9 T9 hHeld ⊢
            refine pure_ (i := 0) (N := (some 60)) (v := ?_) (a' := ?_) #[true, false, false, false, false, false, false, false, false, false] rfl rfl (by kernel_rfl) (fun _ _ _ h => h) (Or.inl ⟨by rfl, ?_⟩) ?_ ?_
            rotate_left
            ·intro w'
             go_simp
             with_reducible rfl
            rotate_left
            ·simp only [Act.put, List.setIfInBounds_toArray, List.set_cons_zero, List.set_cons_succ, i64_w, i32_w]
             rfl
            refine pure_ (i := 1) (N := (some 61)) (v := ?_) (a' := ?_) #[true, true, false, false, false, false, false, false, false, false] rfl rfl (by kernel_rfl) (fun _ _ _ h => h) (Or.inl ⟨by rfl, ?_⟩) ?_ ?_
            rotate_left
            ·intro w'
             go_simp
             with_reducible rfl
            rotate_left
            ·simp only [Act.put, List.setIfInBounds_toArray, List.set_cons_zero, List.set_cons_succ, i64_w, i32_w]
             rfl
            refine pure_ (i := 2) (N := (some 62)) (v := ?_) (a' := ?_) #[true, true, true, false, false, false, false, false, false, false] rfl rfl (by kernel_rfl) (fun _ _ _ h => h) (Or.inl ⟨by rfl, ?_⟩) ?_ ?_
            rotate_left
            ·intro w'
             go_simp
             with_reducible rfl
            rotate_left
            ·simp only [Act.put, List.setIfInBounds_toArray, List.set_cons_zero, List.set_cons_succ, i64_w, i32_w]
             rfl
            refine pure_ (i := 3) (N := (some 63)) (v := ?_) (a' := ?_) #[true, true, true, true, false, false, false, false, false, false] rfl rfl (by kernel_rfl) (fun _ _ _ h => h) (Or.inl ⟨by rfl, ?_⟩) ?_ ?_
            rotate_left
            ·intro w'
             go_simp
             with_reducible rfl
            rotate_left
            ·simp only [Act.put, List.setIfInBounds_toArray, List.set_cons_zero, List.set_cons_succ, i64_w, i32_w]
             rfl
            refine take_ (i := 4) (N := (some 64)) (v := ?_) (a' := ?_) #[true, true, true, true, true, false, false, false, false, false] rfl rfl (by kernel_rfl) (fun _ _ _ h => h) (Or.inl ⟨by rfl, ?_⟩) hHeld ?_ ?_
            rotate_left
            ·rintro w' ⟨s0, s1⟩
             go_simp
             with_reducible rfl
            rotate_left
            ·simp only [Act.put, List.setIfInBounds_toArray, List.set_cons_zero, List.set_cons_succ, i64_w, i32_w]
             rfl
            refine pure_ (i := 5) (N := (some 65)) (v := ?_) (a' := ?_) #[true, true, true, true, true, true, false, false, false, false] rfl rfl (by kernel_rfl) (fun _ _ _ h => h) (Or.inl ⟨by rfl, ?_⟩) ?_ ?_
            rotate_left
            ·intro w'
             go_simp
             with_reducible rfl
            rotate_left
            ·simp only [Act.put, List.setIfInBounds_toArray, List.set_cons_zero, List.set_cons_succ, i64_w, i32_w]
             rfl
            refine take_ (i := 6) (N := (some 66)) (v := ?_) (a' := ?_) #[true, true, true, true, true, true, true, false, false, false] rfl rfl (by kernel_rfl) (fun _ _ _ h => h) (Or.inl ⟨by rfl, ?_⟩) hHeld ?_ ?_
            rotate_left
            ·rintro w' ⟨s0, s1⟩
             go_simp
             with_reducible rfl
            rotate_left
            ·simp only [Act.put, List.setIfInBounds_toArray, List.set_cons_zero, List.set_cons_succ, i64_w, i32_w]
             rfl
            refine pure_ (i := 7) (N := (some 67)) (v := .int .i64 (bt (rdOf ByteArray.empty wsr 0) at_)) (a' := ?_) #[true, true, true, true, true, true, true, true, false, false] rfl rfl (by kernel_rfl) (fun _ _ _ h => h) (Or.inl ⟨by rfl, ?_⟩) ?_ ?_
            ·intro w'
             go_simp
             first | (rw [HW8.out]; done) | (rw [HW8.out]; rfl) | (rw [HW8'.out]; done) | (rw [HW8'.out]; rfl)
            rotate_left
            ·simp only [Act.put, List.setIfInBounds_toArray, List.set_cons_zero, List.set_cons_succ, i64_w, i32_w]
             rfl
            clear hrun
            refine one_ (i := 8) (N := (some 68)) #[true, true, true, true, true, true, true, true, true, false] rfl rfl (by kernel_rfl) (by decide) (fun K hK => ?_)
            refine goes_ Try.func38 (by kernel_rfl) rfl #[.pointer (some ⟨X, 0, none⟩), .slice (some ad) wk.length cr, .int .i64 (wrap64 (at_ + 1)), .int .i64 (bt (rdOf ByteArray.empty wsr 0) at_)] (by rfl) rfl rfl (by (try simp only [List.map_toArray, List.map_cons, List.map_nil]); first | done | rfl) ?_
            refine (IH.out k1 (by have := HK.out; omega) Lr wk (wrap64 (at_ + 1)) (bt (rdOf ByteArray.empty wsr 0) at_) L2 kid X vr (some ad) cr (fun q => wordlist_grow.okA b6 ok q ∧ q ≠ b10) w0 w10 X9.out HXB.out (fun h => wordlist_grow.okA_X N6.out.1 HOK.out X h.1 rfl) S9.out W9.out C9.out B9.out HF'.out).mono ?_
            rintro e w11 ⟨rfl, v2, x11, s11, k11, b11⟩
            refine ⟨_, rfl, ?_⟩
            have NB10 : b10 < w10.heap.size := blk_lt T9.out
            have N68 := N8.out
            have X11 := Lib.hid x11
            have S11 := Lib.hid (Kd.S_mono s11 (ok' := wordlist_grow.okA b6 ok) (fun q hq => hq.elim (fun h => h.1) (fun h => Or.inr (by omega))))
            have K11 := Lib.hid (K9.out.then_ k11 (fun q hq => hq.elim (fun h => Or.inl (Or.inl h)) (fun h => (wordlist_grow.okA_H (Nat.le_of_eq N6.out.2.1) q h.1).elim (fun h2 => Or.inl (Or.inr h2)) Or.inr)))
            have B11 := Lib.hid b11
            have H11 := Lib.hid (blk_kept H9'.out k11 (fun h => h.elim (fun e => absurd e (Nat.ne_of_gt N6.out.1)) (fun h2 => wordlist_grow.okA_b b6 h2.1 rfl)))
            have T11 := Lib.hid (blk_kept T9.out k11 (fun h => h.elim (fun e => absurd e (Nat.ne_of_gt N8'.out)) (fun h2 => h2.2 rfl)))
            refine hK.out _ _ ⟨(blk_cell H11.out 0).trans rfl, (blk_cell T11.out 0).trans rfl⟩ (fun hHeld => ?_)
            clear hK K x11 s11 k11 b11 X9 S9 K9 B9 H9' T9 T11 NB10 N68 HF' W9 C9
            refine norm_ (a' := ?_) ?_ ?_
            rotate_left
            ·show Act.put _ (some 68) _ = _
             simp only [Act.put, List.setIfInBounds_toArray, List.set_cons_zero, List.set_cons_succ, i64_w, i32_w]
             rfl
            refine pure_ (i := 9) (N := (some 12)) (v := ?_) (a' := ?_) #[true, true, true, true, true, true, true, true, true, true] rfl rfl (by kernel_rfl) (fun _ _ _ h => h) (Or.inl ⟨by rfl, ?_⟩) ?_ ?_
            rotate_left
            ·intro w'
             go_simp
             with_reducible rfl
            rotate_left
            ·simp only [Act.put, List.setIfInBounds_toArray, List.set_cons_zero, List.set_cons_succ, i64_w, i32_w]
             rfl
            refine done_ (by kernel_rfl) ?_
            clear hHeld
            go_wp2_with (fail)
            have X12 := Lib.hid (blk_drew X11.out); have H12 := Lib.hid (blk_drew H11.out); have S12 := Lib.hid (Kd.S_drew S11.out); have B12 := Lib.hid (below_drew1 B11.out); have K12 := Lib.hid K11.out.drew
            clear X11 H11 S11 B11 K11
            have h6 := C6.out
            obtain ⟨g, cg, eg, hg1, hg2, cl, hg3⟩ := Kd.S_form S12.out (by omega)
            subst eg
            obtain ⟨oki, ce, hcl, hM, hcc, hfr, hoki, hH⟩ := Kd.S_elem S12.out (⟨0, false, []⟩ : S46) (L.length : Int) (by omega) (by omega)
            obtain ⟨lf, hlf⟩ : ∃ lf, L2.getD L.length (⟨0, false, []⟩ : S46) = lf := ⟨_, rfl⟩
            rw [Int.toNat_natCast, hlf] at hM
            obtain ⟨vk, rfl, hR⟩ := k46_openM hM
            obtain ⟨Ak, ck, rfl⟩ := Kd.R_slice hR
            have hsz : k46.sz = 3 := rfl
            have hc2 := hcc 2 _ rfl
            rw [hsz] at hc2
            simp only [Int.toNat_natCast] at hc2
            have GB := Lib.hid hg1
            have NG := Lib.hid (show wordlist_grow.okA b6 ok g from (Kd.S_R S12.out).1 g rfl)
            have HRK := Lib.hid hR
            have HH := Lib.hid hH
            have HOI := Lib.hid hoki
            have LK := Lib.hid (show lf.f2.length ≤ 1000000 from by rw [← hlf]; exact h6.2)
            have H3e := Lib.hid (show wordlist_grow.l0 k1 (L2.set L.length (⟨lf.f0, lf.f1, lf.f2 ++ [kid]⟩ : S46)) wd at_ L.length = some (L', n) from by rw [← hlf]; exact H3d.out)
            clear hlf H3d hcc hfr hoki hH hR hcl hg1 hg2 hg3 cl
            have hj0 : (0 ≤ (L.length : Int)) = True := eq_true (by omega)
            have hj1 : ((L.length : Int) < (L2.length : Int)) = True := eq_true (by omega)
            clear h6
            refine start_ (n := 17) (S := fun w' => w'.cell? ⟨X, 0, none⟩ = some (.slice (some ⟨g, 0, none⟩) L2.length cg) ∧ w'.cell? ⟨g, L.length * 3 + 2, none⟩ = some (.slice Ak lf.f2.length ck)) (ds := [16]) #[false, false, false, false, false, false, false, false, false, false, false, false, false, false, false, false, false] (by kernel_rfl) rfl rfl ⟨(blk_cell X12.out 0).trans rfl, hc2⟩ (fun hHeld => ?_)
            have X13 := X12; have H13 := H12; have S13 := S12; have B13 := B12; have K13 := K12; have HRK3 := HRK; have HH3 := HH
            clear X12 H12 S12 B12 K12 HRK HH hc2
            generalize w11.drew = w12 at X13 H13 S13 B13 K13 HRK3 HH3 hHeld ⊢
            refine pure_ (i := 0) (N := (some 69)) (v := ?_) (a' := ?_) #[true, false, false, false, false, false, false, false, false, false, false, false, false, false, false, false, false] rfl rfl (by kernel_rfl) (fun _ _ _ h => h) (Or.inl ⟨by rfl, ?_⟩) ?_ ?_
            rotate_left
            ·intro w'
             go_simp
             with_reducible rfl
            rotate_left
            ·simp only [Act.put, List.setIfInBounds_toArray, List.set_cons_zero, List.set_cons_succ, i64_w, i32_w]
             rfl
            refine pure_ (i := 1) (N := (some 70)) (v := ?_) (a' := ?_) #[true, true, false, false, false, false, false, false, false, false, false, false, false, false, false, false, false] rfl rfl (by kernel_rfl) (fun _ _ _ h => h) (Or.inl ⟨by rfl, ?_⟩) ?_ ?_
            rotate_left
            ·intro w'
             go_simp
             with_reducible rfl
            rotate_left
            ·simp only [Act.put, List.setIfInBounds_toArray, List.set_cons_zero, List.set_cons_succ, i64_w, i32_w]
             rfl
            refine take_ (i := 2) (N := (some 71)) (v := ?_) (a' := ?_) #[true, true, true, false, false, false, false, false, false, false, false, false, false, false, false, false, false] rfl rfl (by kernel_rfl) (fun _ _ _ h => h) (Or.inl ⟨by rfl, ?_⟩) hHeld ?_ ?_
            rotate_left
            ·rintro w' ⟨s0, s1⟩
             go_simp
             with_reducible rfl
            rotate_left
            ·simp only [Act.put, List.setIfInBounds_toArray, List.set_cons_zero, List.set_cons_succ, i64_w, i32_w]
             rfl
            refine pure_ (i := 3) (N := (some 72)) (v := ?_) (a' := ?_) #[true, true, true, true, false, false, false, false, false, false, false, false, false, false, false, false, false] rfl rfl (by kernel_rfl) (fun _ _ _ h => h) (Or.inl ⟨by rfl, ?_⟩) ?_ ?_
            rotate_left
            ·intro w'
             go_simp
             with_reducible rfl
            rotate_left
            ·simp only [Act.put, List.setIfInBounds_toArray, List.set_cons_zero, List.set_cons_succ, i64_w, i32_w]
             rfl
            refine pure_ (i := 4) (N := (some 73)) (v := ?_) (a' := ?_) #[true, true, true, true, true, false, false, false, false, false, false, false, false, false, false, false, false] rfl rfl (by kernel_rfl) (fun _ _ _ h => h) (Or.inl ⟨by rfl, ?_⟩) ?_ ?_
            rotate_left
            ·intro w'
             go_simp
             with_reducible rfl
            rotate_left
            ·simp only [Act.put, List.setIfInBounds_toArray, List.set_cons_zero, List.set_cons_succ, i64_w, i32_w]
             rfl
            refine pure_ (i := 5) (N := (some 74)) (v := ?_) (a' := ?_) #[true, true, true, true, true, true, false, false, false, false, false, false, false, false, false, false, false] rfl rfl (by kernel_rfl) (fun _ _ _ h => h) (Or.inl ⟨by rfl, ?_⟩) ?_ ?_
            rotate_left
            ·intro w'
             go_simp
             with_reducible rfl
            rotate_left
            ·simp only [Act.put, List.setIfInBounds_toArray, List.set_cons_zero, List.set_cons_succ, i64_w, i32_w]
             rfl
            refine take_ (i := 6) (N := (some 75)) (v := ?_) (a' := ?_) #[true, true, true, true, true, true, true, false, false, false, false, false, false, false, false, false, false] rfl rfl (by kernel_rfl) (fun _ _ _ h => h) (Or.inl ⟨by rfl, ?_⟩) hHeld ?_ ?_
            rotate_left
            ·rintro w' ⟨s0, s1⟩
             go_simp
             with_reducible rfl
            rotate_left
            ·simp only [Act.put, List.setIfInBounds_toArray, List.set_cons_zero, List.set_cons_succ, i64_w, i32_w]
             rfl
            refine pure_ (i := 7) (N := (some 76)) (v := ?_) (a' := ?_) #[true, true, true, true, true, true, true, true, false, false, false, false, false, false, false, false, false] rfl rfl (by kernel_rfl) (fun _ _ _ h => h) (Or.inl ⟨by rfl, ?_⟩) ?_ ?_
            rotate_left
            ·intro w'
             go_simp
             with_reducible rfl
            rotate_left
            ·simp only [Act.put, List.setIfInBounds_toArray, List.set_cons_zero, List.set_cons_succ, i64_w, i32_w]
             rfl
            refine pure_ (i := 8) (N := (some 77)) (v := ?_) (a' := ?_) #[true, true, true, true, true, true, true, true, true, false, false, false, false, false, false, false, false] rfl rfl (by kernel_rfl) (fun _ _ _ h => h) (Or.inl ⟨by rfl, ?_⟩) ?_ ?_
            rotate_left
            ·intro w'
             go_simp
             with_reducible rfl
            rotate_left
            ·simp only [Act.put, List.setIfInBounds_toArray, List.set_cons_zero, List.set_cons_succ, i64_w, i32_w]
             rfl
            refine pure_ (i := 9) (N := (some 78)) (v := ?_) (a' := ?_) #[true, true, true, true, true, true, true, true, true, true, false, false, false, false, false, false, false] rfl rfl (by kernel_rfl) (fun _ _ _ h => h) (Or.inl ⟨by rfl, ?_⟩) ?_ ?_
            rotate_left
            ·intro w'
             go_simp
             with_reducible rfl
            rotate_left
            ·simp only [Act.put, List.setIfInBounds_toArray, List.set_cons_zero, List.set_cons_succ, i64_w, i32_w]
             rfl
            refine take_ (i := 10) (N := (some 79)) (v := ?_) (a' := ?_) #[true, true, true, true, true, true, true, true, true, true, true, false, false, false, false, false, false] rfl rfl (by kernel_rfl) (fun _ _ _ h => h) (Or.inl ⟨by rfl, ?_⟩) hHeld ?_ ?_
            rotate_left
            ·rintro w' ⟨s0, s1⟩
             go_simp
             with_reducible rfl
            rotate_left
            ·simp only [Act.put, List.setIfInBounds_toArray, List.set_cons_zero, List.set_cons_succ, i64_w, i32_w]
             rfl
            refine pure_ (i := 11) (N := (some 80)) (v := ?_) (a' := ?_) #[true, true, true, true, true, true, true, true, true, true, true, true, false, false, false, false, false] rfl rfl (by kernel_rfl) (fun _ _ _ h => h) (Or.inl ⟨by rfl, ?_⟩) ?_ ?_
            rotate_left
            ·intro w'
             go_simp
             with_reducible rfl
            rotate_left
            ·simp only [Act.put, List.setIfInBounds_toArray, List.set_cons_zero, List.set_cons_succ, i64_w, i32_w]
             rfl
            have hX12 := hHeld.1; have hG12 := hHeld.2
            refine one_ (i := 12) (N := (some 81)) #[true, true, true, true, true, true, true, true, true, true, true, true, true, false, false, false, false] rfl rfl (by kernel_rfl) (by decide) (fun K hK => ?_)
            refine value_ (w1 := ?_) (v := ?_) (by rfl) rfl ?_ ?_
            rotate_left 2
            ·go_simp
             constructor
             ·rfl
             ·rfl
            refine hK.out _ _ ⟨(World.cell?_alloc_lt _ _ _ (World.block_lt_of_cell? _ _ hHeld.1)).trans hHeld.1, (World.cell?_alloc_lt _ _ _ (World.block_lt_of_cell? _ _ hHeld.2)).trans hHeld.2⟩ (fun hHeld => ?_)
            clear hK K
            refine norm_ (a' := ?_) ?_ ?_
            rotate_left
            ·show Act.put _ (some 81) _ = _
             simp only [Act.put, List.setIfInBounds_toArray, List.set_cons_zero, List.set_cons_succ, i64_w, i32_w]
             rfl
            refine one_ (i := 13) (N := (some 82)) #[true, true, true, true, true, true, true, true, true, true, true, true, true, true, false, false, false] rfl rfl (by kernel_rfl) (by decide) (fun K hK => ?_)
            refine Kd.R_append_step (Kd.int .i64) (w0 := w0) w0.heap.size (by rfl) (.tmp 79) (.tmp 81) 44 3 (.int .i64 0) 8 rfl Try.underlying44 info3 rfl (by decide) (by omega) (.slice Ak lf.f2.length ck) lf.f2 kid [.int .i64 kid] (fun q => oki q ∨ (wordlist_grow.okA b6 ok q ∧ w12.heap.size ≤ q)) (fun _ => False) rfl rfl ?aP (fun _ hk => hk.elim) ?aF ?aO ?aB ?aS ?aL ?_
            (case aP => exact rfl)
            (case aF => exact fun q hq => Or.inr ⟨Or.inr (by have := blk_lt H13.out; omega), hq⟩)
            (case aO => exact Kd.R_mono HRK3.out (fun _ hk => .inl hk))
            (case aB => exact B13.out)
            (case aS => exact B13.out.size)
            (case aL => have := LK.out; omega)
            intro v1 w13 ho hb hg hat
            have hown : ∀ q, (Value.slice Ak lf.f2.length ck).ownBlock = some q → wordlist_grow.okA b6 ok q ∧ q ≠ g := fun q hq => HOI.out q (HRK3.out.1 q hq)
            have nX : some X ≠ (Value.slice Ak lf.f2.length ck).ownBlock := fun e => wordlist_grow.okA_X N6.out.1 HOK.out X (hown X e.symm).1 rfl
            have nb : some b6 ≠ (Value.slice Ak lf.f2.length ck).ownBlock := fun e => wordlist_grow.okA_b b6 (hown b6 e.symm).1 rfl
            have ng : some g ≠ (Value.slice Ak lf.f2.length ck).ownBlock := fun e => (hown g e.symm).2 rfl
            have X14 := Lib.hid (blk_grown X13.out hg nX)
            have H14 := Lib.hid (blk_grown H13.out hg nb)
            have hX14 := cell_grown hg hX12 nX
            have hG14 := cell_grown hg hG12 ng
            have B14 := Lib.hid hb
            have K14 := Lib.hid (Kept.of_grown hg K13.out (fun q hq => (wordlist_grow.okA_H (Nat.le_of_eq N6.out.2.1) q (hown q hq).1).elim (fun h2 => Or.inl (Or.inr h2)) Or.inr))
            have HH14 := Lib.hid (Kd.H_grown (Kd.H_widen HH3.out) hg (fun q e => .inl (HRK3.out.1 q e)))
            have NL := C6.out.1
            obtain ⟨hcc14, hfr14⟩ := Kd.H_at HH14.out (by omega) (by omega)
            obtain ⟨A3, c3, rfl⟩ := Kd.R_slice ho
            have hc14 := hcc14 2 _ rfl
            have hf14 := hfr14 2
            rw [hsz] at hc14 hf14
            simp only [Int.toNat_natCast] at hc14 hf14
            have HP := Kd.S_seg0 HH14.out (by omega) (by omega) (seg := [.slice A3 (lf.f2 ++ [kid]).length c3]) (j := 2) (Nat.le_refl 3) (x' := (⟨lf.f0, lf.f1, lf.f2 ++ [kid]⟩ : S46)) (k46_mkM _ _ _ (⟨lf.f0, lf.f1, lf.f2 ++ [kid]⟩ : S46) ho) (fun _ hk => hk)
            rw [hsz, Int.toNat_natCast] at HP
            have P1 := Lib.hid HP.1
            clear HP hcc14 hfr14 ho hb hg hat hown nX nb ng HH3 HRK3 S13 B13 K13 X13 H13 HH14 hX12 hG12
            rw [List.length_append, List.length_singleton] at P1 ⊢
            refine hK.out _ _ ⟨hX14, hG14⟩ (fun hHeld => ?_)
            clear hK K
            refine norm_ (a' := ?_) ?_ ?_
            rotate_left
            ·show Act.put _ (some 82) _ = _
             simp only [Act.put, List.setIfInBounds_toArray, List.set_cons_zero, List.set_cons_succ, i64_w, i32_w]
             rfl
            refine pure_ (i := 14) (N := (some 83)) (v := ?_) (a' := ?_) #[true, true, true, true, true, true, true, true, true, true, true, true, true, true, true, false, false] rfl rfl (by kernel_rfl) (fun _ _ _ h => h) (Or.inl ⟨by rfl, ?_⟩) ?_ ?_
            rotate_left
            ·intro w'
             go_simp
             with_reducible rfl
            rotate_left
            ·simp only [Act.put, List.setIfInBounds_toArray, List.set_cons_zero, List.set_cons_succ, i64_w, i32_w]
             rfl
            refine pure_ (i := 15) (N := (some 84)) (v := ?_) (a' := ?_) #[true, true, true, true, true, true, true, true, true, true, true, true, true, true, true, true, false] rfl rfl (by kernel_rfl) (fun _ _ _ h => h) (Or.inl ⟨by rfl, ?_⟩) ?_ ?_
            rotate_left
            ·intro w'
             go_simp
             with_reducible rfl
            rotate_left
            ·simp only [Act.put, List.setIfInBounds_toArray, List.set_cons_zero, List.set_cons_succ, i64_w, i32_w]
             rfl
            clear hX14 hG14
            refine last_ (i := 16) (N := none) #[true, true, true, true, true, true, true, true, true, true, true, true, true, true, true, true, true] rfl rfl (by kernel_rfl) (by decide) (fun K hK => ?_)
            refine skip_ (w1 := ?_) (by rfl) rfl ?_ ?_
            rotate_left
            ·go_simp
             rfl
            refine hK.out _ _ ?_
            clear hK K
            refine done_ (by kernel_rfl) ?_
            clear hHeld hc14 hf14
            have X15 := Lib.hid (blk_far X14.out (p := ⟨g, L.length * 3 + 2, none⟩) (wordlist_grow.okA_X N6.out.1 HOK.out g NG.out).symm (.slice A3 (lf.f2.length + 1) c3))
            have H15 := Lib.hid (blk_far H14.out (p := ⟨g, L.length * 3 + 2, none⟩) (wordlist_grow.okA_b g NG.out).symm (.slice A3 (lf.f2.length + 1) c3))
            have S15 := Lib.hid (show Kd.S k46 46 (w13.setCell ⟨g, L.length * 3 + 2, none⟩ (.slice A3 (lf.f2.length + 1) c3)) w0.heap.size (wordlist_grow.okA b6 ok) _ _ from P1.out)
            have B15 := Lib.hid (below_set B14.out GB.out (j := L.length * 3 + 2) (v := .slice A3 (lf.f2.length + 1) c3))
            have K15 := Lib.hid (K14.out.setCell (p := ⟨g, L.length * 3 + 2, none⟩) ((wordlist_grow.okA_H (Nat.le_of_eq N6.out.2.1) g NG.out).elim (fun h => Or.inl (Or.inr h)) Or.inr) (.slice A3 (lf.f2.length + 1) c3))
            clear X14 H14 P1 B14 K14
            generalize w13.setCell ⟨g, L.length * 3 + 2, none⟩ (.slice A3 (lf.f2.length + 1) c3) = w15 at X15 H15 S15 B15 K15 ⊢
            have hrun2 := HRUN2.out
            go_wp2_with (fail)
            go_roundg k1
            case measure => have := HK.out; omega
            case rel => exact ⟨_, wd, Ad, cd, _, rfl, H3e, Lib.hid (by have := HK.out; omega), X15, H15, S15, WD, CD, B15, K15⟩
           ·have HC7 := Lib.hid c7
            have b7 : decide (r < 0) = false := decide_eq_false c7
            clear c7
            go_wp2_with (fail)
            have X9 := Lib.hid (blk_drew (blk_drewN X8.out nd)); have H9' := Lib.hid (blk_drew (blk_drewN H8.out nd)); have S9 := Lib.hid (Kd.S_drew (Kd.S_drewN S8.out nd)); have B9 := Lib.hid (below_drew1 (pw_below_drewN B8.out nd)); have K9 := Lib.hid ((K8.out.drewN nd).drew); have T9 := Lib.hid (blk_drew (blk_drewN T8.out nd))
            clear X8 H8 S8 B8 K8 T8
            obtain ⟨i9, hi9, _, hs9, _⟩ := info_parts info9
            have hk0 : 0 ≤ r := by have := HC7.out; omega
            have hk1 : r ≤ (wsr.length : Int) := by have := C5.out; omega
            obtain ⟨hrun, hrd, hcd⟩ := print_take_of (P := Try.prog) Value.string ByteArray.empty 24 9 .i64 Try.underlying24 hi9 hs9 (some ad) cr wsr r hk0 hk1 CR.out
            obtain ⟨Ad, hrun2, hrd2, hcd2⟩ := print_drop_of (P := Try.prog) Value.string ByteArray.empty 24 9 .i64 Try.underlying24 hi9 hs9 (some ad) cr wsr r hk0 hk1 CR.out
            have W9 := Lib.hid (show Kd.string.C w0 (some ad) (wsr.take (r).toNat).length (wsr.take (r).toNat) from Kd.C_of_reads (hrd w0 (Kd.reads_of_C WR.out)))
            have C9 := Lib.hid hcd
            have WD := Lib.hid (show Kd.string.C w0 Ad (wsr.drop (r).toNat).length (wsr.drop (r).toNat) from Kd.C_of_reads (hrd2 w0 (Kd.reads_of_C WR.out)))
            have CD := Lib.hid hcd2
            have HF' := Lib.hid (show wordlist_grow.f k1 Lr (wsr.take (r).toNat) (wrap64 (at_ + 1)) (bt (rdOf ByteArray.empty wsr 0) at_) = some (L2, kid) from by have h := HF.out; rw [if_neg (Int.not_lt.2 HC7.out)] at h; exact h)
            have H3d := Lib.hid (show wordlist_grow.l0 k1 (L2.set L.length ⟨(L2.getD L.length ⟨0, false, []⟩).f0, (L2.getD L.length ⟨0, false, []⟩).f1, (L2.getD L.length ⟨0, false, []⟩).f2 ++ [kid]⟩) (wsr.drop (r).toNat) at_ L.length = some (L', n) from by have h := H3'.out; rw [if_neg (Int.not_lt.2 HC7.out)] at h; exact h)
            clear hrd hcd hrd2 hcd2 HF H3' hi9 hs9 hk0 hk1
            generalize wsr.take (r).toNat = wk at hrun W9 C9 HF'
            generalize wsr.drop (r).toNat = wd at hrun2 WD CD H3d
            generalize cr - (r).toNat = cd at hrun2 CD
            have hbr := bt_range (rdOf ByteArray.empty wsr 0) at_
            have hw8 : (wrap64 (bt (rdOf ByteArray.empty wsr 0) at_)) = (bt (rdOf ByteArray.empty wsr 0) at_) := by unfold wrap64; omega
            have hw8' : (IntKind.i64.wrap (bt (rdOf ByteArray.empty wsr 0) at_)) = (bt (rdOf ByteArray.empty wsr 0) at_) := (i64_w _).trans hw8
            have HW8 := Lib.hid hw8; have HW8' := Lib.hid hw8'; have HBR := Lib.hid hbr
            clear hw8 hw8' hbr
            have HRUN2 := Lib.hid hrun2
            clear hrun2
            refine start_ (n := 10) (S := fun w' => w'.cell? ⟨b6, 0, none⟩ = some (.int .i64 at_) ∧ w'.cell? ⟨b10, 0, none⟩ = some (.int .u8 (bt (rdOf ByteArray.empty wsr 0) at_))) (ds := [9]) #[false, false, false, false, false, false, false, false, false, false] (by kernel_rfl) rfl rfl ⟨(blk_cell H9'.out 0).trans rfl, (blk_cell T9.out 0).trans rfl⟩ (fun hHeld => ?_)
            generalize (w8.drewN nd).drew = w10 at X9 H9' S9 B9 K9 T9 hHeld ⊢
            refine pure_ (i := 0) (N := (some 60)) (v := ?_) (a' := ?_) #[true, false, false, false, false, false, false, false, false, false] rfl rfl (by kernel_rfl) (fun _ _ _ h => h) (Or.inl ⟨by rfl, ?_⟩) ?_ ?_
            rotate_left
            ·intro w'
             go_simp
             with_reducible rfl
            rotate_left
            ·simp only [Act.put, List.setIfInBounds_toArray, List.set_cons_zero, List.set_cons_succ, i64_w, i32_w]
             rfl
            refine pure_ (i := 1) (N := (some 61)) (v := ?_) (a' := ?_) #[true, true, false, false, false, false, false, false, false, false] rfl rfl (by kernel_rfl) (fun _ _ _ h => h) (Or.inl ⟨by rfl, ?_⟩) ?_ ?_
            rotate_left
            ·intro w'
             go_simp
             with_reducible rfl
            rotate_left
            ·simp only [Act.put, List.setIfInBounds_toArray, List.set_cons_zero, List.set_cons_succ, i64_w, i32_w]
             rfl
            refine pure_ (i := 2) (N := (some 62)) (v := ?_) (a' := ?_) #[true, true, true, false, false, false, false, false, false, false] rfl rfl (by kernel_rfl) (fun _ _ _ h => h) (Or.inl ⟨by rfl, ?_⟩) ?_ ?_
            rotate_left
            ·intro w'
             go_simp
             with_reducible rfl
            rotate_left
            ·simp only [Act.put, List.setIfInBounds_toArray, List.set_cons_zero, List.set_cons_succ, i64_w, i32_w]
             rfl
            refine pure_ (i := 3) (N := (some 63)) (v := ?_) (a' := ?_) #[true, true, true, true, false, false, false, false, false, false] rfl rfl (by kernel_rfl) (fun _ _ _ h => h) (Or.inl ⟨by rfl, ?_⟩) ?_ ?_
            rotate_left
            ·intro w'
             go_simp
             with_reducible rfl
            rotate_left
            ·simp only [Act.put, List.setIfInBounds_toArray, List.set_cons_zero, List.set_cons_succ, i64_w, i32_w]
             rfl
            refine take_ (i := 4) (N := (some 64)) (v := ?_) (a' := ?_) #[true, true, true, true, true, false, false, false, false, false] rfl rfl (by kernel_rfl) (fun _ _ _ h => h) (Or.inl ⟨by rfl, ?_⟩) hHeld ?_ ?_
            rotate_left
            ·rintro w' ⟨s0, s1⟩
             go_simp
             with_reducible rfl
            rotate_left
            ·simp only [Act.put, List.setIfInBounds_toArray, List.set_cons_zero, List.set_cons_succ, i64_w, i32_w]
             rfl
            refine pure_ (i := 5) (N := (some 65)) (v := ?_) (a' := ?_) #[true, true, true, true, true, true, false, false, false, false] rfl rfl (by kernel_rfl) (fun _ _ _ h => h) (Or.inl ⟨by rfl, ?_⟩) ?_ ?_
            rotate_left
            ·intro w'
             go_simp
             with_reducible rfl
            rotate_left
            ·simp only [Act.put, List.setIfInBounds_toArray, List.set_cons_zero, List.set_cons_succ, i64_w, i32_w]
             rfl
            refine take_ (i := 6) (N := (some 66)) (v := ?_) (a' := ?_) #[true, true, true, true, true, true, true, false, false, false] rfl rfl (by kernel_rfl) (fun _ _ _ h => h) (Or.inl ⟨by rfl, ?_⟩) hHeld ?_ ?_
            rotate_left
            ·rintro w' ⟨s0, s1⟩
             go_simp
             with_reducible rfl
            rotate_left
            ·simp only [Act.put, List.setIfInBounds_toArray, List.set_cons_zero, List.set_cons_succ, i64_w, i32_w]
             rfl
            refine pure_ (i := 7) (N := (some 67)) (v := .int .i64 (bt (rdOf ByteArray.empty wsr 0) at_)) (a' := ?_) #[true, true, true, true, true, true, true, true, false, false] rfl rfl (by kernel_rfl) (fun _ _ _ h => h) (Or.inl ⟨by rfl, ?_⟩) ?_ ?_
            ·intro w'
             go_simp
             first | (rw [HW8.out]; done) | (rw [HW8.out]; rfl) | (rw [HW8'.out]; done) | (rw [HW8'.out]; rfl)
            rotate_left
            ·simp only [Act.put, List.setIfInBounds_toArray, List.set_cons_zero, List.set_cons_succ, i64_w, i32_w]
             rfl
            clear hrun
            refine one_ (i := 8) (N := (some 68)) #[true, true, true, true, true, true, true, true, true, false] rfl rfl (by kernel_rfl) (by decide) (fun K hK => ?_)
            refine goes_ Try.func38 (by kernel_rfl) rfl #[.pointer (some ⟨X, 0, none⟩), .slice (some ad) wk.length cr, .int .i64 (wrap64 (at_ + 1)), .int .i64 (bt (rdOf ByteArray.empty wsr 0) at_)] (by rfl) rfl rfl (by (try simp only [List.map_toArray, List.map_cons, List.map_nil]); first | done | rfl) ?_
            refine (IH.out k1 (by have := HK.out; omega) Lr wk (wrap64 (at_ + 1)) (bt (rdOf ByteArray.empty wsr 0) at_) L2 kid X vr (some ad) cr (fun q => wordlist_grow.okA b6 ok q ∧ q ≠ b10) w0 w10 X9.out HXB.out (fun h => wordlist_grow.okA_X N6.out.1 HOK.out X h.1 rfl) S9.out W9.out C9.out B9.out HF'.out).mono ?_
            rintro e w11 ⟨rfl, v2, x11, s11, k11, b11⟩
            refine ⟨_, rfl, ?_⟩
            have NB10 : b10 < w10.heap.size := blk_lt T9.out
            have N68 := N8.out
            have X11 := Lib.hid x11
            have S11 := Lib.hid (Kd.S_mono s11 (ok' := wordlist_grow.okA b6 ok) (fun q hq => hq.elim (fun h => h.1) (fun h => Or.inr (by omega))))
            have K11 := Lib.hid (K9.out.then_ k11 (fun q hq => hq.elim (fun h => Or.inl (Or.inl h)) (fun h => (wordlist_grow.okA_H (Nat.le_of_eq N6.out.2.1) q h.1).elim (fun h2 => Or.inl (Or.inr h2)) Or.inr)))
            have B11 := Lib.hid b11
            have H11 := Lib.hid (blk_kept H9'.out k11 (fun h => h.elim (fun e => absurd e (Nat.ne_of_gt N6.out.1)) (fun h2 => wordlist_grow.okA_b b6 h2.1 rfl)))
            have T11 := Lib.hid (blk_kept T9.out k11 (fun h => h.elim (fun e => absurd e (Nat.ne_of_gt N8'.out)) (fun h2 => h2.2 rfl)))
            refine hK.out _ _ ⟨(blk_cell H11.out 0).trans rfl, (blk_cell T11.out 0).trans rfl⟩ (fun hHeld => ?_)
            clear hK K x11 s11 k11 b11 X9 S9 K9 B9 H9' T9 T11 NB10 N68 HF' W9 C9
            refine norm_ (a' := ?_) ?_ ?_
            rotate_left
            ·show Act.put _ (some 68) _ = _
             simp only [Act.put, List.setIfInBounds_toArray, List.set_cons_zero, List.set_cons_succ, i64_w, i32_w]
             rfl
            refine pure_ (i := 9) (N := (some 12)) (v := ?_) (a' := ?_) #[true, true, true, true, true, true, true, true, true, true] rfl rfl (by kernel_rfl) (fun _ _ _ h => h) (Or.inl ⟨by rfl, ?_⟩) ?_ ?_
            rotate_left
            ·intro w'
             go_simp
             with_reducible rfl
            rotate_left
            ·simp only [Act.put, List.setIfInBounds_toArray, List.set_cons_zero, List.set_cons_succ, i64_w, i32_w]
             rfl
            refine done_ (by kernel_rfl) ?_
            clear hHeld
            go_wp2_with (fail)
            have X12 := Lib.hid (blk_drew X11.out); have H12 := Lib.hid (blk_drew H11.out); have S12 := Lib.hid (Kd.S_drew S11.out); have B12 := Lib.hid (below_drew1 B11.out); have K12 := Lib.hid K11.out.drew
            clear X11 H11 S11 B11 K11
            have h6 := C6.out
            obtain ⟨g, cg, eg, hg1, hg2, cl, hg3⟩ := Kd.S_form S12.out (by omega)
            subst eg
            obtain ⟨oki, ce, hcl, hM, hcc, hfr, hoki, hH⟩ := Kd.S_elem S12.out (⟨0, false, []⟩ : S46) (L.length : Int) (by omega) (by omega)
            obtain ⟨lf, hlf⟩ : ∃ lf, L2.getD L.length (⟨0, false, []⟩ : S46) = lf := ⟨_, rfl⟩
            rw [Int.toNat_natCast, hlf] at hM
            obtain ⟨vk, rfl, hR⟩ := k46_openM hM
            obtain ⟨Ak, ck, rfl⟩ := Kd.R_slice hR
            have hsz : k46.sz = 3 := rfl
            have hc2 := hcc 2 _ rfl
            rw [hsz] at hc2
            simp only [Int.toNat_natCast] at hc2
            have GB := Lib.hid hg1
            have NG := Lib.hid (show wordlist_grow.okA b6 ok g from (Kd.S_R S12.out).1 g rfl)
            have HRK := Lib.hid hR
            have HH := Lib.hid hH
            have HOI := Lib.hid hoki
            have LK := Lib.hid (show lf.f2.length ≤ 1000000 from by rw [← hlf]; exact h6.2)
            have H3e := Lib.hid (show wordlist_grow.l0 k1 (L2.set L.length (⟨lf.f0, lf.f1, lf.f2 ++ [kid]⟩ : S46)) wd at_ L.length = some (L', n) from by rw [← hlf]; exact H3d.out)
            clear hlf H3d hcc hfr hoki hH hR hcl hg1 hg2 hg3 cl
            have hj0 : (0 ≤ (L.length : Int)) = True := eq_true (by omega)
            have hj1 : ((L.length : Int) < (L2.length : Int)) = True := eq_true (by omega)
            clear h6
            refine start_ (n := 17) (S := fun w' => w'.cell? ⟨X, 0, none⟩ = some (.slice (some ⟨g, 0, none⟩) L2.length cg) ∧ w'.cell? ⟨g, L.length * 3 + 2, none⟩ = some (.slice Ak lf.f2.length ck)) (ds := [16]) #[false, false, false, false, false, false, false, false, false, false, false, false, false, false, false, false, false] (by kernel_rfl) rfl rfl ⟨(blk_cell X12.out 0).trans rfl, hc2⟩ (fun hHeld => ?_)
            have X13 := X12; have H13 := H12; have S13 := S12; have B13 := B12; have K13 := K12; have HRK3 := HRK; have HH3 := HH
            clear X12 H12 S12 B12 K12 HRK HH hc2
            generalize w11.drew = w12 at X13 H13 S13 B13 K13 HRK3 HH3 hHeld ⊢
            refine pure_ (i := 0) (N := (some 69)) (v := ?_) (a' := ?_) #[true, false, false, false, false, false, false, false, false, false, false, false, false, false, false, false, false] rfl rfl (by kernel_rfl) (fun _ _ _ h => h) (Or.inl ⟨by rfl, ?_⟩) ?_ ?_
            rotate_left
            ·intro w'
             go_simp
             with_reducible rfl
            rotate_left
            ·simp only [Act.put, List.setIfInBounds_toArray, List.set_cons_zero, List.set_cons_succ, i64_w, i32_w]
             rfl
            refine pure_ (i := 1) (N := (some 70)) (v := ?_) (a' := ?_) #[true, true, false, false, false, false, false, false, false, false, false, false, false, false, false, false, false] rfl rfl (by kernel_rfl) (fun _ _ _ h => h) (Or.inl ⟨by rfl, ?_⟩) ?_ ?_
            rotate_left
            ·intro w'
             go_simp
             with_reducible rfl
            rotate_left
            ·simp only [Act.put, List.setIfInBounds_toArray, List.set_cons_zero, List.set_cons_succ, i64_w, i32_w]
             rfl
            refine take_ (i := 2) (N := (some 71)) (v := ?_) (a' := ?_) #[true, true, true, false, false, false, false, false, false, false, false, false, false, false, false, false, false] rfl rfl (by kernel_rfl) (fun _ _ _ h => h) (Or.inl ⟨by rfl, ?_⟩) hHeld ?_ ?_
            rotate_left
            ·rintro w' ⟨s0, s1⟩
             go_simp
             with_reducible rfl
            rotate_left
            ·simp only [Act.put, List.setIfInBounds_toArray, List.set_cons_zero, List.set_cons_succ, i64_w, i32_w]
             rfl
            refine pure_ (i := 3) (N := (some 72)) (v := ?_) (a' := ?_) #[true, true, true, true, false, false, false, false, false, false, false, false, false, false, false, false, false] rfl rfl (by kernel_rfl) (fun _ _ _ h => h) (Or.inl ⟨by rfl, ?_⟩) ?_ ?_
            rotate_left
            ·intro w'
             go_simp
             with_reducible rfl
            rotate_left
            ·simp only [Act.put, List.setIfInBounds_toArray, List.set_cons_zero, List.set_cons_succ, i64_w, i32_w]
             rfl
            refine pure_ (i := 4) (N := (some 73)) (v := ?_) (a' := ?_) #[true, true, true, true, true, false, false, false, false, false, false, false, false, false, false, false, false] rfl rfl (by kernel_rfl) (fun _ _ _ h => h) (Or.inl ⟨by rfl, ?_⟩) ?_ ?_
            rotate_left
            ·intro w'
             go_simp
             with_reducible rfl
            rotate_left
            ·simp only [Act.put, List.setIfInBounds_toArray, List.set_cons_zero, List.set_cons_succ, i64_w, i32_w]
             rfl
            refine pure_ (i := 5) (N := (some 74)) (v := ?_) (a' := ?_) #[true, true, true, true, true, true, false, false, false, false, false, false, false, false, false, false, false] rfl rfl (by kernel_rfl) (fun _ _ _ h => h) (Or.inl ⟨by rfl, ?_⟩) ?_ ?_
            rotate_left
            ·intro w'
             go_simp
             with_reducible rfl
            rotate_left
            ·simp only [Act.put, List.setIfInBounds_toArray, List.set_cons_zero, List.set_cons_succ, i64_w, i32_w]
             rfl
            refine take_ (i := 6) (N := (some 75)) (v := ?_) (a' := ?_) #[true, true, true, true, true, true, true, false, false, false, false, false, false, false, false, false, false] rfl rfl (by kernel_rfl) (fun _ _ _ h => h) (Or.inl ⟨by rfl, ?_⟩) hHeld ?_ ?_
            rotate_left
            ·rintro w' ⟨s0, s1⟩
             go_simp
             with_reducible rfl
            rotate_left
            ·simp only [Act.put, List.setIfInBounds_toArray, List.set_cons_zero, List.set_cons_succ, i64_w, i32_w]
             rfl
            refine pure_ (i := 7) (N := (some 76)) (v := ?_) (a' := ?_) #[true, true, true, true, true, true, true, true, false, false, false, false, false, false, false, false, false] rfl rfl (by kernel_rfl) (fun _ _ _ h => h) (Or.inl ⟨by rfl, ?_⟩) ?_ ?_
            rotate_left
            ·intro w'
             go_simp
             with_reducible rfl
            rotate_left
            ·simp only [Act.put, List.setIfInBounds_toArray, List.set_cons_zero, List.set_cons_succ, i64_w, i32_w]
             rfl
            refine pure_ (i := 8) (N := (some 77)) (v := ?_) (a' := ?_) #[true, true, true, true, true, true, true, true, true, false, false, false, false, false, false, false, false] rfl rfl (by kernel_rfl) (fun _ _ _ h => h) (Or.inl ⟨by rfl, ?_⟩) ?_ ?_
            rotate_left
            ·intro w'
             go_simp
             with_reducible rfl
            rotate_left
            ·simp only [Act.put, List.setIfInBounds_toArray, List.set_cons_zero, List.set_cons_succ, i64_w, i32_w]
             rfl
            refine pure_ (i := 9) (N := (some 78)) (v := ?_) (a' := ?_) #[true, true, true, true, true, true, true, true, true, true, false, false, false, false, false, false, false] rfl rfl (by kernel_rfl) (fun _ _ _ h => h) (Or.inl ⟨by rfl, ?_⟩) ?_ ?_
            rotate_left
            ·intro w'
             go_simp
             with_reducible rfl
            rotate_left
            ·simp only [Act.put, List.setIfInBounds_toArray, List.set_cons_zero, List.set_cons_succ, i64_w, i32_w]
             rfl
            refine take_ (i := 10) (N := (some 79)) (v := ?_) (a' := ?_) #[true, true, true, true, true, true, true, true, true, true, true, false, false, false, false, false, false] rfl rfl (by kernel_rfl) (fun _ _ _ h => h) (Or.inl ⟨by rfl, ?_⟩) hHeld ?_ ?_
            rotate_left
            ·rintro w' ⟨s0, s1⟩
             go_simp
             with_reducible rfl
            rotate_left
            ·simp only [Act.put, List.setIfInBounds_toArray, List.set_cons_zero, List.set_cons_succ, i64_w, i32_w]
             rfl
            refine pure_ (i := 11) (N := (some 80)) (v := ?_) (a' := ?_) #[true, true, true, true, true, true, true, true, true, true, true, true, false, false, false, false, false] rfl rfl (by kernel_rfl) (fun _ _ _ h => h) (Or.inl ⟨by rfl, ?_⟩) ?_ ?_
            rotate_left
            ·intro w'
             go_simp
             with_reducible rfl
            rotate_left
            ·simp only [Act.put, List.setIfInBounds_toArray, List.set_cons_zero, List.set_cons_succ, i64_w, i32_w]
             rfl
            have hX12 := hHeld.1; have hG12 := hHeld.2
            refine one_ (i := 12) (N := (some 81)) #[true, true, true, true, true, true, true, true, true, true, true, true, true, false, false, false, false] rfl rfl (by kernel_rfl) (by decide) (fun K hK => ?_)
            refine value_ (w1 := ?_) (v := ?_) (by rfl) rfl ?_ ?_
            rotate_left 2
            ·go_simp
             constructor
             ·rfl
             ·rfl
            refine hK.out _ _ ⟨(World.cell?_alloc_lt _ _ _ (World.block_lt_of_cell? _ _ hHeld.1)).trans hHeld.1, (World.cell?_alloc_lt _ _ _ (World.block_lt_of_cell? _ _ hHeld.2)).trans hHeld.2⟩ (fun hHeld => ?_)
            clear hK K
            refine norm_ (a' := ?_) ?_ ?_
            rotate_left
            ·show Act.put _ (some 81) _ = _
             simp only [Act.put, List.setIfInBounds_toArray, List.set_cons_zero, List.set_cons_succ, i64_w, i32_w]
             rfl
            refine one_ (i := 13) (N := (some 82)) #[true, true, true, true, true, true, true, true, true, true, true, true, true, true, false, false, false] rfl rfl (by kernel_rfl) (by decide) (fun K hK => ?_)
            refine Kd.R_append_step (Kd.int .i64) (w0 := w0) w0.heap.size (by rfl) (.tmp 79) (.tmp 81) 44 3 (.int .i64 0) 8 rfl Try.underlying44 info3 rfl (by decide) (by omega) (.slice Ak lf.f2.length ck) lf.f2 kid [.int .i64 kid] (fun q => oki q ∨ (wordlist_grow.okA b6 ok q ∧ w12.heap.size ≤ q)) (fun _ => False) rfl rfl ?aP (fun _ hk => hk.elim) ?aF ?aO ?aB ?aS ?aL ?_
            (case aP => exact rfl)
            (case aF => exact fun q hq => Or.inr ⟨Or.inr (by have := blk_lt H13.out; omega), hq⟩)
            (case aO => exact Kd.R_mono HRK3.out (fun _ hk => .inl hk))
            (case aB => exact B13.out)
            (case aS => exact B13.out.size)
            (case aL => have := LK.out; omega)
            intro v1 w13 ho hb hg hat
            have hown : ∀ q, (Value.slice Ak lf.f2.length ck).ownBlock = some q → wordlist_grow.okA b6 ok q ∧ q ≠ g := fun q hq => HOI.out q (HRK3.out.1 q hq)
            have nX : some X ≠ (Value.slice Ak lf.f2.length ck).ownBlock := fun e => wordlist_grow.okA_X N6.out.1 HOK.out X (hown X e.symm).1 rfl
            have nb : some b6 ≠ (Value.slice Ak lf.f2.length ck).ownBlock := fun e => wordlist_grow.okA_b b6 (hown b6 e.symm).1 rfl
            have ng : some g ≠ (Value.slice Ak lf.f2.length ck).ownBlock := fun e => (hown g e.symm).2 rfl
            have X14 := Lib.hid (blk_grown X13.out hg nX)
            have H14 := Lib.hid (blk_grown H13.out hg nb)
            have hX14 := cell_grown hg hX12 nX
            have hG14 := cell_grown hg hG12 ng
            have B14 := Lib.hid hb
            have K14 := Lib.hid (Kept.of_grown hg K13.out (fun q hq => (wordlist_grow.okA_H (Nat.le_of_eq N6.out.2.1) q (hown q hq).1).elim (fun h2 => Or.inl (Or.inr h2)) Or.inr))
            have HH14 := Lib.hid (Kd.H_grown (Kd.H_widen HH3.out) hg (fun q e => .inl (HRK3.out.1 q e)))
            have NL := C6.out.1
            obtain ⟨hcc14, hfr14⟩ := Kd.H_at HH14.out (by omega) (by omega)
            obtain ⟨A3, c3, rfl⟩ := Kd.R_slice ho
            have hc14 := hcc14 2 _ rfl
            have hf14 := hfr14 2
            rw [hsz] at hc14 hf14
            simp only [Int.toNat_natCast] at hc14 hf14
            have HP := Kd.S_seg0 HH14.out (by omega) (by omega) (seg := [.slice A3 (lf.f2 ++ [kid]).length c3]) (j := 2) (Nat.le_refl 3) (x' := (⟨lf.f0, lf.f1, lf.f2 ++ [kid]⟩ : S46)) (k46_mkM _ _ _ (⟨lf.f0, lf.f1, lf.f2 ++ [kid]⟩ : S46) ho) (fun _ hk => hk)
            rw [hsz, Int.toNat_natCast] at HP
            have P1 := Lib.hid HP.1
            clear HP hcc14 hfr14 ho hb hg hat hown nX nb ng HH3 HRK3 S13 B13 K13 X13 H13 HH14 hX12 hG12
            rw [List.length_append, List.length_singleton] at P1 ⊢
            refine hK.out _ _ ⟨hX14, hG14⟩ (fun hHeld => ?_)
            clear hK K
            refine norm_ (a' := ?_) ?_ ?_
            rotate_left
            ·show Act.put _ (some 82) _ = _
             simp only [Act.put, List.setIfInBounds_toArray, List.set_cons_zero, List.set_cons_succ, i64_w, i32_w]
             rfl
            refine pure_ (i := 14) (N := (some 83)) (v := ?_) (a' := ?_) #[true, true, true, true, true, true, true, true, true, true, true, true, true, true, true, false, false] rfl rfl (by kernel_rfl) (fun _ _ _ h => h) (Or.inl ⟨by rfl, ?_⟩) ?_ ?_
            rotate_left
            ·intro w'
             go_simp
             with_reducible rfl
            rotate_left
            ·simp only [Act.put, List.setIfInBounds_toArray, List.set_cons_zero, List.set_cons_succ, i64_w, i32_w]
             rfl
            refine pure_ (i := 15) (N := (some 84)) (v := ?_) (a' := ?_) #[true, true, true, true, true, true, true, true, true, true, true, true, true, true, true, true, false] rfl rfl (by kernel_rfl) (fun _ _ _ h => h) (Or.inl ⟨by rfl, ?_⟩) ?_ ?_
            rotate_left
            ·intro w'
             go_simp
             with_reducible rfl
            rotate_left
            ·simp only [Act.put, List.setIfInBounds_toArray, List.set_cons_zero, List.set_cons_succ, i64_w, i32_w]
             rfl
            clear hX14 hG14
            refine last_ (i := 16) (N := none) #[true, true, true, true, true, true, true, true, true, true, true, true, true, true, true, true, true] rfl rfl (by kernel_rfl) (by decide) (fun K hK => ?_)
            refine skip_ (w1 := ?_) (by rfl) rfl ?_ ?_
            rotate_left
            ·go_simp
             rfl
            refine hK.out _ _ ?_
            clear hK K
            refine done_ (by kernel_rfl) ?_
            clear hHeld hc14 hf14
            have X15 := Lib.hid (blk_far X14.out (p := ⟨g, L.length * 3 + 2, none⟩) (wordlist_grow.okA_X N6.out.1 HOK.out g NG.out).symm (.slice A3 (lf.f2.length + 1) c3))
            have H15 := Lib.hid (blk_far H14.out (p := ⟨g, L.length * 3 + 2, none⟩) (wordlist_grow.okA_b g NG.out).symm (.slice A3 (lf.f2.length + 1) c3))
            have S15 := Lib.hid (show Kd.S k46 46 (w13.setCell ⟨g, L.length * 3 + 2, none⟩ (.slice A3 (lf.f2.length + 1) c3)) w0.heap.size (wordlist_grow.okA b6 ok) _ _ from P1.out)
            have B15 := Lib.hid (below_set B14.out GB.out (j := L.length * 3 + 2) (v := .slice A3 (lf.f2.length + 1) c3))
            have K15 := Lib.hid (K14.out.setCell (p := ⟨g, L.length * 3 + 2, none⟩) ((wordlist_grow.okA_H (Nat.le_of_eq N6.out.2.1) g NG.out).elim (fun h => Or.inl (Or.inr h)) Or.inr) (.slice A3 (lf.f2.length + 1) c3))
            clear X14 H14 P1 B14 K14
            generalize w13.setCell ⟨g, L.length * 3 + 2, none⟩ (.slice A3 (lf.f2.length + 1) c3) = w15 at X15 H15 S15 B15 K15 ⊢
            have hrun2 := HRUN2.out
            go_wp2_with (fail)
            go_roundg k1
            case measure => have := HK.out; omega
            case rel => exact ⟨_, wd, Ad, cd, _, rfl, H3e, Lib.hid (by have := HK.out; omega), X15, H15, S15, WD, CD, B15, K15⟩
          ·rw [if_neg c6] at H3; cases H3
         ·rw [if_neg c5] at H2; cases H2
        ·rw [if_neg c4] at H; cases H
       ·rw [if_neg c3] at H
        obtain ⟨rfl, rfl⟩ := Prod.mk.inj (Option.some.inj H)
        have b3 : decide (0 < (wsr.length : Int)) = false := decide_eq_false c3
        have b3' : decide (0 < wsr.length) = false := decide_eq_false (by omega)
        clear H
        go_wp2_with (fail)
        go_ret
        exact ⟨rfl, vr, XR.out, Kd.S_mono SR.out (wordlist_grow.okA_H (Nat.le_of_eq N6.out.2.1)), KR.out, BR.out⟩
    ·rw [if_neg c2] at hh
     have b2 : (((rdOf ByteArray.empty ws 0).size : Int) == at_) = false := beq_eq_false_iff_ne.2 c2
     have H9 := Lib.hid hh
     clear hh
     go_quiet (fail)
     have X5 := X4; have H5 := H4; have S5 := S4; have W5 := HW; have C5 := HCP; have B5 := B4; have K5 := K4
     clear X4 H4 S4 B4 K4
     go_wp2_with (fail)
     go_loopg [1] k (fun kq v1 wr => ∃ (Lr : List S46) (wsr : List ByteArray) (Ar : Option Addr) (cr : Nat) (vr : Value), v1 = .slice Ar wsr.length cr ∧ Hid (wordlist_grow.l0 kq Lr wsr at_ L.length = some (L', n)) ∧ Hid (kq ≤ k) ∧ Hid (wr.heap[X]? = some (.cells #[vr] 38 (0, 0))) ∧ Hid (wr.heap[b6]? = some (.cells #[.int .i64 at_] 3 (0, 0))) ∧ Hid (Kd.S k46 46 wr w0.heap.size (wordlist_grow.okA b6 ok) vr Lr) ∧ Hid (Kd.string.C w0 Ar wsr.length wsr) ∧ Hid (wsr.length ≤ cr) ∧ Hid (Below w0.heap.size w0 wr) ∧ Hid (Kept w wr (fun q => q = X ∨ ok q)))
     case atStart => exact ⟨_, _, _, _, _, (by first | rfl | (simp only [List.length_drop])), H9, Lib.hid (Nat.le_refl _), (by first | exact X5 | exact Lib.hid (blk_drewN X5.out _)), (by first | exact H5 | exact Lib.hid (blk_drewN H5.out _)), (by first | exact S5 | exact Lib.hid (Kd.S_drewN S5.out _)), W5, C5, (by first | exact B5 | exact Lib.hid (pw_below_drewN B5.out _)), (by first | exact K5 | exact Lib.hid (K5.out.drewN _))⟩
     case round =>
      clear H9 X5 H5 S5 W5 C5 B5 K5 HW HCP
      obtain ⟨Lr, wsr, Ar, cr, vr, rfl, HA, HK, XR, HR, SR, WR, CR, BR, KR⟩ := hrel
      cases gk with
      | zero => exact absurd HA.out (by simp [wordlist_grow.l0])
      | succ k1 =>
       have H := HA.out
       clear HA
       rw [wordlist_grow.l0] at H
       by_cases c3 : 0 < (wsr.length : Int)
       ·rw [if_pos c3] at H
        have b3 : decide (0 < (wsr.length : Int)) = true := decide_eq_true c3
        have b3' : decide (0 < wsr.length) = true := decide_eq_true (by omega)
        have q1 := eq_true c3
        have q2 := eq_true (show 0 < wsr.length by omega)
        by_cases c4 : 0 ≤ at_ ∧ at_ < ((rdOf ByteArray.empty wsr 0).size : Int)
        ·rw [if_pos c4] at H
         obtain ⟨r, hi0, H2⟩ := Option.bind_eq_some_iff.1 H
         clear H
         by_cases c5 : r ≤ (wsr.length : Int)
         ·rw [if_pos c5] at H2
          obtain ⟨⟨L2, kid⟩, hf, H3⟩ := Option.bind_eq_some_iff.1 H2
          clear H2
          dsimp only at H3
          by_cases c6 : L.length < L2.length ∧ (L2.getD L.length ⟨0, false, []⟩).f2.length ≤ 1000000
          ·rw [if_pos c6] at H3
           have HI0 := Lib.hid hi0; have HF := Lib.hid hf; have H3' := Lib.hid H3; have C6 := Lib.hid c6; have C5 := Lib.hid c5; have C3 := Lib.hid c3
           clear hi0 hf H3 c6 c5 c3
           obtain ⟨ad, rfl, hx⟩ := Kd.at_string (Kd.C_below WR.out BR.out) 0 (by decide) C3.out
           have hx1 : wr.cell? ad = some (.string (rdOf ByteArray.empty wsr 0)) := by
            have e : ad.add 0 = ad := by cases ad; simp [Addr.add]
            rw [← e]; exact hx
           have hc6 : wr.cell? ⟨b6, 0, none⟩ = some (.int .i64 at_) := (blk_cell HR.out 0).trans rfl
           have C4 := Lib.hid c4
           obtain ⟨d1, d2⟩ := c4
           have e1 := eq_true d1
           have e2 := eq_true d2
           clear d1 d2 hx
           go_wp2_with (fail)
           refine start_ (n := 7) (S := fun w' => w'.cell? ad = some (.string (rdOf ByteArray.empty wsr 0)) ∧ w'.cell? ⟨b6, 0, none⟩ = some (.int .i64 at_)) (ds := [6]) #[false, false, false, false, false, false, false] (by kernel_rfl) rfl rfl ⟨hx1, hc6⟩ (fun hHeld => ?_)
           have X7 := Lib.hid (blk_drew XR.out); have H7 := Lib.hid (blk_drew HR.out); have S7 := Lib.hid (Kd.S_drew SR.out); have B7 := Lib.hid (below_drew1 BR.out); have K7 := Lib.hid KR.out.drew
           clear XR HR SR BR KR hx1 hc6
           generalize wr.drew = w7 at X7 H7 S7 B7 K7 hHeld ⊢
           refine pure_ (i := 0) (N := (some 48)) (v := ?_) (a' := ?_) #[true, false, false, false, false, false, false] rfl rfl (by kernel_rfl) (fun _ _ _ h => h) (Or.inl ⟨by rfl, ?_⟩) ?_ ?_
           rotate_left
           ·intro w'
            go_simp
            with_reducible rfl
           rotate_left
           ·simp only [Act.put, List.setIfInBounds_toArray, List.set_cons_zero, List.set_cons_succ, i64_w, i32_w]
            rfl
           refine pure_ (i := 1) (N := (some 49)) (v := ?_) (a' := ?_) #[true, true, false, false, false, false, false] rfl rfl (by kernel_rfl) (fun _ _ _ h => h) (Or.inl ⟨by rfl, ?_⟩) ?_ ?_
           rotate_left
           ·intro w'
            go_simp
            with_reducible rfl
           rotate_left
           ·simp only [Act.put, List.setIfInBounds_toArray, List.set_cons_zero, List.set_cons_succ, i64_w, i32_w]
            rfl
           refine take_ (i := 2) (N := (some 50)) (v := ?_) (a' := ?_) #[true, true, true, false, false, false, false] rfl rfl (by kernel_rfl) (fun _ _ _ h => h) (Or.inl ⟨by rfl, ?_⟩) hHeld ?_ ?_
           rotate_left
           ·rintro w' ⟨s0, s1⟩
            go_simp
            with_reducible rfl
           rotate_left
           ·simp only [Act.put, List.setIfInBounds_toArray, List.set_cons_zero, List.set_cons_succ, i64_w, i32_w]
            rfl
           refine take_ (i := 3) (N := (some 51)) (v := ?_) (a' := ?_) #[true, true, true, true, false, false, false] rfl rfl (by kernel_rfl) (fun _ _ _ h => h) (Or.inl ⟨by rfl, ?_⟩) hHeld ?_ ?_
           rotate_left
           ·rintro w' ⟨s0, s1⟩
            go_simp
            with_reducible rfl
           rotate_left
           ·simp only [Act.put, List.setIfInBounds_toArray, List.set_cons_zero, List.set_cons_succ, i64_w, i32_w]
            rfl
           refine pure_ (i := 4) (N := (some 52)) (v := .int .u8 (bt (rdOf ByteArray.empty wsr 0) at_)) (a' := ?_) #[true, true, true, true, true, false, false] rfl rfl (by kernel_rfl) (fun _ _ _ h => h) (Or.inl ⟨by rfl, ?_⟩) ?_ ?_
           ·intro w'
            go_simp
            first | (rw [bt_at]; done) | (rw [bt_at]; rfl) | (simp only [bt_at]; done)
           rotate_left
           ·simp only [Act.put, List.setIfInBounds_toArray, List.set_cons_zero, List.set_cons_succ, i64_w, i32_w]
            rfl
           refine one_ (i := 5) (N := (some 10)) #[true, true, true, true, true, true, false] rfl rfl (by kernel_rfl) (by decide) (fun K hK => ?_)
           refine value_ (w1 := ?_) (v := ?_) (by rfl) rfl ?_ ?_
           rotate_left 2
           ·go_simp
            constructor
            ·rfl
            ·rfl
           refine hK.out _ _ ⟨(World.cell?_alloc_lt _ _ _ (World.block_lt_of_cell? _ _ hHeld.1)).trans hHeld.1, (World.cell?_alloc_lt _ _ _ (World.block_lt_of_cell? _ _ hHeld.2)).trans hHeld.2⟩ (fun hHeld => ?_)
           clear hK K
           refine norm_ (a' := ?_) ?_ ?_
           rotate_left
           ·show Act.put _ (some 10) _ = _
            simp only [Act.put, List.setIfInBounds_toArray, List.set_cons_zero, List.set_cons_succ, i64_w, i32_w]
            rfl
           refine last_ (i := 6) (N := none) #[true, true, true, true, true, true, true] rfl rfl (by kernel_rfl) (by decide) (fun K hK => ?_)
           refine skip_ (w1 := ?_) (by rfl) rfl ?_ ?_
           rotate_left
           ·go_simp
            rfl
           refine hK.out _ _ ?_
           clear hK K
           refine done_ (by kernel_rfl) ?_
           have X8 := Lib.hid (blk_alloc X7.out (.cells #[.int .u8 (bt (rdOf ByteArray.empty wsr 0) at_)] 5)); have H8 := Lib.hid (blk_alloc H7.out (.cells #[.int .u8 (bt (rdOf ByteArray.empty wsr 0) at_)] 5)); have S8 := Lib.hid (Kd.S_alloc (Kd.S_elderB S7.out w7.heap.size (Nat.le_refl _)) (.cells #[.int .u8 (bt (rdOf ByteArray.empty wsr 0) at_)] 5)); have B8 := Lib.hid (below_alloc B7.out (.cells #[.int .u8 (bt (rdOf ByteArray.empty wsr 0) at_)] 5)); have K8 := Lib.hid (K7.out.alloc (.cells #[.int .u8 (bt (rdOf ByteArray.empty wsr 0) at_)] 5)); have T8 := Lib.hid (blk_new w7 (.cells #[.int .u8 (bt (rdOf ByteArray.empty wsr 0) at_)] 5))
           have N8 := Lib.hid (show b6 < w7.heap.size from blk_lt H7.out)
           have N8' := Lib.hid (show X < w7.heap.size from blk_lt X7.out)
           clear X7 H7 S7 B7 K7 hHeld
           generalize w7.alloc (.cells #[.int .u8 (bt (rdOf ByteArray.empty wsr 0) at_)] 5) = w8 at X8 H8 S8 B8 K8 T8 ⊢
           generalize w7.heap.size = b10 at S8 T8 N8 N8' ⊢
           go_wp2_with (fail)
           refine (wordlist_grow.index k1 (some ad) cr wsr at_ (bt (rdOf ByteArray.empty wsr 0) at_) b6 b10 r _ (Kd.C_below WR.out B8.out) CR.out H8.out T8.out HI0.out).mono ?_
           rintro e w9 ⟨rfl, ⟨nd, rfl⟩⟩
           by_cases c7 : r < 0
           ·have HC7 := Lib.hid c7
            have b7 : decide (r < 0) = true := decide_eq_true c7
            clear c7
            go_wp2_with (fail)
            have X9 := Lib.hid (blk_drew (blk_drewN X8.out nd)); have H9' := Lib.hid (blk_drew (blk_drewN H8.out nd)); have S9 := Lib.hid (Kd.S_drew (Kd.S_drewN S8.out nd)); have B9 := Lib.hid (below_drew1 (pw_below_drewN B8.out nd)); have K9 := Lib.hid ((K8.out.drewN nd).drew); have T9 := Lib.hid (blk_drew (blk_drewN T8.out nd))
            clear X8 H8 S8 B8 K8 T8
            obtain ⟨i9, hi9, _, hs9, _⟩ := info_parts info9
            have hk0 : 0 ≤ (wsr.length : Int) := by have := HC7.out; omega
            have hk1 : (wsr.length : Int) ≤ (wsr.length : Int) := by have := C5.out; omega
            obtain ⟨hrun, hrd, hcd⟩ := print_take_of (P := Try.prog) Value.string ByteArray.empty 24 9 .i64 Try.underlying24 hi9 hs9 (some ad) cr wsr (wsr.length : Int) hk0 hk1 CR.out
            obtain ⟨Ad, hrun2, hrd2, hcd2⟩ := print_drop_of (P := Try.prog) Value.string ByteArray.empty 24 9 .i64 Try.underlying24 hi9 hs9 (some ad) cr wsr (wsr.length : Int) hk0 hk1 CR.out
            have W9 := Lib.hid (show Kd.string.C w0 (some ad) (wsr.take ((wsr.length : Int)).toNat).length (wsr.take ((wsr.length : Int)).toNat) from Kd.C_of_reads (hrd w0 (Kd.reads_of_C WR.out)))
            have C9 := Lib.hid hcd
            have WD := Lib.hid (show Kd.string.C w0 Ad (wsr.drop ((wsr.length : Int)).toNat).length (wsr.drop ((wsr.length : Int)).toNat) from Kd.C_of_reads (hrd2 w0 (Kd.reads_of_C WR.out)))
            have CD := Lib.hid hcd2
            have HF' := Lib.hid (show wordlist_grow.f k1 Lr (wsr.take ((wsr.length : Int)).toNat) (wrap64 (at_ + 1)) (bt (rdOf ByteArray.empty wsr 0) at_) = some (L2, kid) from by have h := HF.out; rw [if_pos HC7.out] at h; exact h)
            have H3d := Lib.hid (show wordlist_grow.l0 k1 (L2.set L.length ⟨(L2.getD L.length ⟨0, false, []⟩).f0, (L2.getD L.length ⟨0, false, []⟩).f1, (L2.getD L.length ⟨0, false, []⟩).f2 ++ [kid]⟩) (wsr.drop ((wsr.length : Int)).toNat) at_ L.length = some (L', n) from by have h := H3'.out; rw [if_pos HC7.out] at h; exact h)
            clear hrd hcd hrd2 hcd2 HF H3' hi9 hs9 hk0 hk1
            generalize wsr.take ((wsr.length : Int)).toNat = wk at hrun W9 C9 HF'
            generalize wsr.drop ((wsr.length : Int)).toNat = wd at hrun2 WD CD H3d
            generalize cr - ((wsr.length : Int)).toNat = cd at hrun2 CD
            have hbr := bt_range (rdOf ByteArray.empty wsr 0) at_
            have hw8 : (wrap64 (bt (rdOf ByteArray.empty wsr 0) at_)) = (bt (rdOf ByteArray.empty wsr 0) at_) := by unfold wrap64; omega
            have hw8' : (IntKind.i64.wrap (bt (rdOf ByteArray.empty wsr 0) at_)) = (bt (rdOf ByteArray.empty wsr 0) at_) := (i64_w _).trans hw8
            have HW8 := Lib.hid hw8; have HW8' := Lib.hid hw8'; have HBR := Lib.hid hbr
            clear hw8 hw8' hbr
            have HRUN2 := Lib.hid hrun2
            clear hrun2
            refine start_ (n := 10) (S := fun w' => w'.cell? ⟨b6, 0, none⟩ = some (.int .i64 at_) ∧ w'.cell? ⟨b10, 0, none⟩ = some (.int .u8 (bt (rdOf ByteArray.empty wsr 0) at_))) (ds := [9]) #[false, false, false, false, false, false, false, false, false, false] (by kernel_rfl) rfl rfl ⟨(blk_cell H9'.out 0).trans rfl, (blk_cell T9.out 0).trans rfl⟩ (fun hHeld => ?_)
            generalize (w8.drewN nd).drew = w10 at X9 H9' S9 B9 K9 T9 hHeld ⊢
            refine pure_ (i := 0) (N := (some 60)) (v := ?_) (a' := ?_) #[true, false, false, false, false, false, false, false, false, false] rfl rfl (by kernel_rfl) (fun _ _ _ h => h) (Or.inl ⟨by rfl, ?_⟩) ?_ ?_
            rotate_left
            ·intro w'
             go_simp
             with_reducible rfl
            rotate_left
            ·simp only [Act.put, List.setIfInBounds_toArray, List.set_cons_zero, List.set_cons_succ, i64_w, i32_w]
             rfl
            refine pure_ (i := 1) (N := (some 61)) (v := ?_) (a' := ?_) #[true, true, false, false, false, false, false, false, false, false] rfl rfl (by kernel_rfl) (fun _ _ _ h => h) (Or.inl ⟨by rfl, ?_⟩) ?_ ?_
            rotate_left
            ·intro w'
             go_simp
             with_reducible rfl
            rotate_left
            ·simp only [Act.put, List.setIfInBounds_toArray, List.set_cons_zero, List.set_cons_succ, i64_w, i32_w]
             rfl
            refine pure_ (i := 2) (N := (some 62)) (v := ?_) (a' := ?_) #[true, true, true, false, false, false, false, false, false, false] rfl rfl (by kernel_rfl) (fun _ _ _ h => h) (Or.inl ⟨by rfl, ?_⟩) ?_ ?_
            rotate_left
            ·intro w'
             go_simp
             with_reducible rfl
            rotate_left
            ·simp only [Act.put, List.setIfInBounds_toArray, List.set_cons_zero, List.set_cons_succ, i64_w, i32_w]
             rfl
            refine pure_ (i := 3) (N := (some 63)) (v := ?_) (a' := ?_) #[true, true, true, true, false, false, false, false, false, false] rfl rfl (by kernel_rfl) (fun _ _ _ h => h) (Or.inl ⟨by rfl, ?_⟩) ?_ ?_
            rotate_left
            ·intro w'
             go_simp
             with_reducible rfl
            rotate_left
            ·simp only [Act.put, List.setIfInBounds_toArray, List.set_cons_zero, List.set_cons_succ, i64_w, i32_w]
             rfl
            refine take_ (i := 4) (N := (some 64)) (v := ?_) (a' := ?_) #[true, true, true, true, true, false, false, false, false, false] rfl rfl (by kernel_rfl) (fun _ _ _ h => h) (Or.inl ⟨by rfl, ?_⟩) hHeld ?_ ?_
            rotate_left
            ·rintro w' ⟨s0, s1⟩
             go_simp
             with_reducible rfl
            rotate_left
            ·simp only [Act.put, List.setIfInBounds_toArray, List.set_cons_zero, List.set_cons_succ, i64_w, i32_w]
             rfl
            refine pure_ (i := 5) (N := (some 65)) (v := ?_) (a' := ?_) #[true, true, true, true, true, true, false, false, false, false] rfl rfl (by kernel_rfl) (fun _ _ _ h => h) (Or.inl ⟨by rfl, ?_⟩) ?_ ?_
            rotate_left
            ·intro w'
             go_simp
             with_reducible rfl
            rotate_left
            ·simp only [Act.put, List.setIfInBounds_toArray, List.set_cons_zero, List.set_cons_succ, i64_w, i32_w]
             rfl
            refine take_ (i := 6) (N := (some 66)) (v := ?_) (a' := ?_) #[true, true, true, true, true, true, true, false, false, false] rfl rfl (by kernel_rfl) (fun _ _ _ h => h) (Or.inl ⟨by rfl, ?_⟩) hHeld ?_ ?_
            rotate_left
            ·rintro w' ⟨s0, s1⟩
             go_simp
             with_reducible rfl
            rotate_left
            ·simp only [Act.put, List.setIfInBounds_toArray, List.set_cons_zero, List.set_cons_succ, i64_w, i32_w]
             rfl
            refine pure_ (i := 7) (N := (some 67)) (v := .int .i64 (bt (rdOf ByteArray.empty wsr 0) at_)) (a' := ?_) #[true, true, true, true, true, true, true, true, false, false] rfl rfl (by kernel_rfl) (fun _ _ _ h => h) (Or.inl ⟨by rfl, ?_⟩) ?_ ?_
            ·intro w'
             go_simp
             first | (rw [HW8.out]; done) | (rw [HW8.out]; rfl) | (rw [HW8'.out]; done) | (rw [HW8'.out]; rfl)
            rotate_left
            ·simp only [Act.put, List.setIfInBounds_toArray, List.set_cons_zero, List.set_cons_succ, i64_w, i32_w]
             rfl
            clear hrun
            refine one_ (i := 8) (N := (some 68)) #[true, true, true, true, true, true, true, true, true, false] rfl rfl (by kernel_rfl) (by decide) (fun K hK => ?_)
            refine goes_ Try.func38 (by kernel_rfl) rfl #[.pointer (some ⟨X, 0, none⟩), .slice (some ad) wk.length cr, .int .i64 (wrap64 (at_ + 1)), .int .i64 (bt (rdOf ByteArray.empty wsr 0) at_)] (by rfl) rfl rfl (by (try simp only [List.map_toArray, List.map_cons, List.map_nil]); first | done | rfl) ?_
            refine (IH.out k1 (by have := HK.out; omega) Lr wk (wrap64 (at_ + 1)) (bt (rdOf ByteArray.empty wsr 0) at_) L2 kid X vr (some ad) cr (fun q => wordlist_grow.okA b6 ok q ∧ q ≠ b10) w0 w10 X9.out HXB.out (fun h => wordlist_grow.okA_X N6.out.1 HOK.out X h.1 rfl) S9.out W9.out C9.out B9.out HF'.out).mono ?_
            rintro e w11 ⟨rfl, v2, x11, s11, k11, b11⟩
            refine ⟨_, rfl, ?_⟩
            have NB10 : b10 < w10.heap.size := blk_lt T9.out
            have N68 := N8.out
            have X11 := Lib.hid x11
            have S11 := Lib.hid (Kd.S_mono s11 (ok' := wordlist_grow.okA b6 ok) (fun q hq => hq.elim (fun h => h.1) (fun h => Or.inr (by omega))))
            have K11 := Lib.hid (K9.out.then_ k11 (fun q hq => hq.elim (fun h => Or.inl (Or.inl h)) (fun h => (wordlist_grow.okA_H (Nat.le_of_eq N6.out.2.1) q h.1).elim (fun h2 => Or.inl (Or.inr h2)) Or.inr)))
            have B11 := Lib.hid b11
            have H11 := Lib.hid (blk_kept H9'.out k11 (fun h => h.elim (fun e => absurd e (Nat.ne_of_gt N6.out.1)) (fun h2 => wordlist_grow.okA_b b6 h2.1 rfl)))
            have T11 := Lib.hid (blk_kept T9.out k11 (fun h => h.elim (fun e => absurd e (Nat.ne_of_gt N8'.out)) (fun h2 => h2.2 rfl)))
            refine hK.out _ _ ⟨(blk_cell H11.out 0).trans rfl, (blk_cell T11.out 0).trans rfl⟩ (fun hHeld => ?_)
            clear hK K x11 s11 k11 b11 X9 S9 K9 B9 H9' T9 T11 NB10 N68 HF' W9 C9
            refine norm_ (a' := ?_) ?_ ?_
            rotate_left
            ·show Act.put _ (some 68) _ = _
             simp only [Act.put, List.setIfInBounds_toArray, List.set_cons_zero, List.set_cons_succ, i64_w, i32_w]
             rfl
            refine pure_ (i := 9) (N := (some 12)) (v := ?_) (a' := ?_) #[true, true, true, true, true, true, true, true, true, true] rfl rfl (by kernel_rfl) (fun _ _ _ h => h) (Or.inl ⟨by rfl, ?_⟩) ?_ ?_
            rotate_left
            ·intro w'
             go_simp
             with_reducible rfl
            rotate_left
            ·simp only [Act.put, List.setIfInBounds_toArray, List.set_cons_zero, List.set_cons_succ, i64_w, i32_w]
             rfl
            refine done_ (by kernel_rfl) ?_
            clear hHeld
            go_wp2_with (fail)
            have X12 := Lib.hid (blk_drew X11.out); have H12 := Lib.hid (blk_drew H11.out); have S12 := Lib.hid (Kd.S_drew S11.out); have B12 := Lib.hid (below_drew1 B11.out); have K12 := Lib.hid K11.out.drew
            clear X11 H11 S11 B11 K11
            have h6 := C6.out
            obtain ⟨g, cg, eg, hg1, hg2, cl, hg3⟩ := Kd.S_form S12.out (by omega)
            subst eg
            obtain ⟨oki, ce, hcl, hM, hcc, hfr, hoki, hH⟩ := Kd.S_elem S12.out (⟨0, false, []⟩ : S46) (L.length : Int) (by omega) (by omega)
            obtain ⟨lf, hlf⟩ : ∃ lf, L2.getD L.length (⟨0, false, []⟩ : S46) = lf := ⟨_, rfl⟩
            rw [Int.toNat_natCast, hlf] at hM
            obtain ⟨vk, rfl, hR⟩ := k46_openM hM
            obtain ⟨Ak, ck, rfl⟩ := Kd.R_slice hR
            have hsz : k46.sz = 3 := rfl
            have hc2 := hcc 2 _ rfl
            rw [hsz] at hc2
            simp only [Int.toNat_natCast] at hc2
            have GB := Lib.hid hg1
            have NG := Lib.hid (show wordlist_grow.okA b6 ok g from (Kd.S_R S12.out).1 g rfl)
            have HRK := Lib.hid hR
            have HH := Lib.hid hH
            have HOI := Lib.hid hoki
            have LK := Lib.hid (show lf.f2.length ≤ 1000000 from by rw [← hlf]; exact h6.2)
            have H3e := Lib.hid (show wordlist_grow.l0 k1 (L2.set L.length (⟨lf.f0, lf.f1, lf.f2 ++ [kid]⟩ : S46)) wd at_ L.length = some (L', n) from by rw [← hlf]; exact H3d.out)
            clear hlf H3d hcc hfr hoki hH hR hcl hg1 hg2 hg3 cl
            have hj0 : (0 ≤ (L.length : Int)) = True := eq_true (by omega)
            have hj1 : ((L.length : Int) < (L2.length : Int)) = True := eq_true (by omega)
            clear h6
            refine start_ (n := 17) (S := fun w' => w'.cell? ⟨X, 0, none⟩ = some (.slice (some ⟨g, 0, none⟩) L2.length cg) ∧ w'.cell? ⟨g, L.length * 3 + 2, none⟩ = some (.slice Ak lf.f2.length ck)) (ds := [16]) #[false, false, false, false, false, false, false, false, false, false, false, false, false, false, false, false, false] (by kernel_rfl) rfl rfl ⟨(blk_cell X12.out 0).trans rfl, hc2⟩ (fun hHeld => ?_)
            have X13 := X12; have H13 := H12; have S13 := S12; have B13 := B12; have K13 := K12; have HRK3 := HRK; have HH3 := HH
            clear X12 H12 S12 B12 K12 HRK HH hc2
            generalize w11.drew = w12 at X13 H13 S13 B13 K13 HRK3 HH3 hHeld ⊢
            refine pure_ (i := 0) (N := (some 69)) (v := ?_) (a' := ?_) #[true, false, false, false, false, false, false, false, false, false, false, false, false, false, false, false, false] rfl rfl (by kernel_rfl) (fun _ _ _ h => h) (Or.inl ⟨by rfl, ?_⟩) ?_ ?_
            rotate_left
            ·intro w'
             go_simp
             with_reducible rfl
            rotate_left
            ·simp only [Act.put, List.setIfInBounds_toArray, List.set_cons_zero, List.set_cons_succ, i64_w, i32_w]
             rfl
            refine pure_ (i := 1) (N := (some 70)) (v := ?_) (a' := ?_) #[true, true, false, false, false, false, false, false, false, false, false, false, false, false, false, false, false] rfl rfl (by kernel_rfl) (fun _ _ _ h => h) (Or.inl ⟨by rfl, ?_⟩) ?_ ?_
            rotate_left
            ·intro w'
             go_simp
             with_reducible rfl
            rotate_left
            ·simp only [Act.put, List.setIfInBounds_toArray, List.set_cons_zero, List.set_cons_succ, i64_w, i32_w]
             rfl
            refine take_ (i := 2) (N := (some 71)) (v := ?_) (a' := ?_) #[true, true, true, false, false, false, false, false, false, false, false, false, false, false, false, false, false] rfl rfl (by kernel_rfl) (fun _ _ _ h => h) (Or.inl ⟨by rfl, ?_⟩) hHeld ?_ ?_
            rotate_left
            ·rintro w' ⟨s0, s1⟩
             go_simp
             with_reducible rfl
            rotate_left
            ·simp only [Act.put, List.setIfInBounds_toArray, List.set_cons_zero, List.set_cons_succ, i64_w, i32_w]
             rfl
            refine pure_ (i := 3) (N := (some 72)) (v := ?_) (a' := ?_) #[true, true, true, true, false, false, false, false, false, false, false, false, false, false, false, false, false] rfl rfl (by kernel_rfl) (fun _ _ _ h => h) (Or.inl ⟨by rfl, ?_⟩) ?_ ?_
            rotate_left
            ·intro w'
             go_simp
             with_reducible rfl
            rotate_left
            ·simp only [Act.put, List.setIfInBounds_toArray, List.set_cons_zero, List.set_cons_succ, i64_w, i32_w]
             rfl
            refine pure_ (i := 4) (N := (some 73)) (v := ?_) (a' := ?_) #[true, true, true, true, true, false, false, false, false, false, false, false, false, false, false, false, false] rfl rfl (by kernel_rfl) (fun _ _ _ h => h) (Or.inl ⟨by rfl, ?_⟩) ?_ ?_
            rotate_left
            ·intro w'
             go_simp
             with_reducible rfl
            rotate_left
            ·simp only [Act.put, List.setIfInBounds_toArray, List.set_cons_zero, List.set_cons_succ, i64_w, i32_w]
             rfl
            refine pure_ (i := 5) (N := (some 74)) (v := ?_) (a' := ?_) #[true, true, true, true, true, true, false, false, false, false, false, false, false, false, false, false, false] rfl rfl (by kernel_rfl) (fun _ _ _ h => h) (Or.inl ⟨by rfl, ?_⟩) ?_ ?_
            rotate_left
            ·intro w'
             go_simp
             with_reducible rfl
            rotate_left
            ·simp only [Act.put, List.setIfInBounds_toArray, List.set_cons_zero, List.set_cons_succ, i64_w, i32_w]
             rfl
            refine take_ (i := 6) (N := (some 75)) (v := ?_) (a' := ?_) #[true, true, true, true, true, true, true, false, false, false, false, false, false, false, false, false, false] rfl rfl (by kernel_rfl) (fun _ _ _ h => h) (Or.inl ⟨by rfl, ?_⟩) hHeld ?_ ?_
            rotate_left
            ·rintro w' ⟨s0, s1⟩
             go_simp
             with_reducible rfl
            rotate_left
            ·simp only [Act.put, List.setIfInBounds_toArray, List.set_cons_zero, List.set_cons_succ, i64_w, i32_w]
             rfl
            refine pure_ (i := 7) (N := (some 76)) (v := ?_) (a' := ?_) #[true, true, true, true, true, true, true, true, false, false, false, false, false, false, false, false, false] rfl rfl (by kernel_rfl) (fun _ _ _ h => h) (Or.inl ⟨by rfl, ?_⟩) ?_ ?_
            rotate_left
            ·intro w'
             go_simp
             with_reducible rfl
            rotate_left
            ·simp only [Act.put, List.setIfInBounds_toArray, List.set_cons_zero, List.set_cons_succ, i64_w, i32_w]
             rfl
            refine pure_ (i := 8) (N := (some 77)) (v := ?_) (a' := ?_) #[true, true, true, true, true, true, true, true, true, false, false, false, false, false, false, false, false] rfl rfl (by kernel_rfl) (fun _ _ _ h => h) (Or.inl ⟨by rfl, ?_⟩) ?_ ?_
            rotate_left
            ·intro w'
             go_simp
             with_reducible rfl
            rotate_left
            ·simp only [Act.put, List.setIfInBounds_toArray, List.set_cons_zero, List.set_cons_succ, i64_w, i32_w]
             rfl
            refine pure_ (i := 9) (N := (some 78)) (v := ?_) (a' := ?_) #[true, true, true, true, true, true, true, true, true, true, false, false, false, false, false, false, false] rfl rfl (by kernel_rfl) (fun _ _ _ h => h) (Or.inl ⟨by rfl, ?_⟩) ?_ ?_
            rotate_left
            ·intro w'
             go_simp
             with_reducible rfl
            rotate_left
            ·simp only [Act.put, List.setIfInBounds_toArray, List.set_cons_zero, List.set_cons_succ, i64_w, i32_w]
             rfl
            refine take_ (i := 10) (N := (some 79)) (v := ?_) (a' := ?_) #[true, true, true, true, true, true, true, true, true, true, true, false, false, false, false, false, false] rfl rfl (by kernel_rfl) (fun _ _ _ h => h) (Or.inl ⟨by rfl, ?_⟩) hHeld ?_ ?_
            rotate_left
            ·rintro w' ⟨s0, s1⟩
             go_simp
             with_reducible rfl
            rotate_left
            ·simp only [Act.put, List.setIfInBounds_toArray, List.set_cons_zero, List.set_cons_succ, i64_w, i32_w]
             rfl
            refine pure_ (i := 11) (N := (some 80)) (v := ?_) (a' := ?_) #[true, true, true, true, true, true, true, true, true, true, true, true, false, false, false, false, false] rfl rfl (by kernel_rfl) (fun _ _ _ h => h) (Or.inl ⟨by rfl, ?_⟩) ?_ ?_
            rotate_left
            ·intro w'
             go_simp
             with_reducible rfl
            rotate_left
            ·simp only [Act.put, List.setIfInBounds_toArray, List.set_cons_zero, List.set_cons_succ, i64_w, i32_w]
             rfl
            have hX12 := hHeld.1; have hG12 := hHeld.2
            refine one_ (i := 12) (N := (some 81)) #[true, true, true, true, true, true, true, true, true, true, true, true, true, false, false, false, false] rfl rfl (by kernel_rfl) (by decide) (fun K hK => ?_)
            refine value_ (w1 := ?_) (v := ?_) (by rfl) rfl ?_ ?_
            rotate_left 2
            ·go_simp
             constructor
             ·rfl
             ·rfl
            refine hK.out _ _ ⟨(World.cell?_alloc_lt _ _ _ (World.block_lt_of_cell? _ _ hHeld.1)).trans hHeld.1, (World.cell?_alloc_lt _ _ _ (World.block_lt_of_cell? _ _ hHeld.2)).trans hHeld.2⟩ (fun hHeld => ?_)
            clear hK K
            refine norm_ (a' := ?_) ?_ ?_
            rotate_left
            ·show Act.put _ (some 81) _ = _
             simp only [Act.put, List.setIfInBounds_toArray, List.set_cons_zero, List.set_cons_succ, i64_w, i32_w]
             rfl
            refine one_ (i := 13) (N := (some 82)) #[true, true, true, true, true, true, true, true, true, true, true, true, true, true, false, false, false] rfl rfl (by kernel_rfl) (by decide) (fun K hK => ?_)
            refine Kd.R_append_step (Kd.int .i64) (w0 := w0) w0.heap.size (by rfl) (.tmp 79) (.tmp 81) 44 3 (.int .i64 0) 8 rfl Try.underlying44 info3 rfl (by decide) (by omega) (.slice Ak lf.f2.length ck) lf.f2 kid [.int .i64 kid] (fun q => oki q ∨ (wordlist_grow.okA b6 ok q ∧ w12.heap.size ≤ q)) (fun _ => False) rfl rfl ?aP (fun _ hk => hk.elim) ?aF ?aO ?aB ?aS ?aL ?_
            (case aP => exact rfl)
            (case aF => exact fun q hq => Or.inr ⟨Or.inr (by have := blk_lt H13.out; omega), hq⟩)
            (case aO => exact Kd.R_mono HRK3.out (fun _ hk => .inl hk))
            (case aB => exact B13.out)
            (case aS => exact B13.out.size)
            (case aL => have := LK.out; omega)
            intro v1 w13 ho hb hg hat
            have hown : ∀ q, (Value.slice Ak lf.f2.length ck).ownBlock = some q → wordlist_grow.okA b6 ok q ∧ q ≠ g := fun q hq => HOI.out q (HRK3.out.1 q hq)
            have nX : some X ≠ (Value.slice Ak lf.f2.length ck).ownBlock := fun e => wordlist_grow.okA_X N6.out.1 HOK.out X (hown X e.symm).1 rfl
            have nb : some b6 ≠ (Value.slice Ak lf.f2.length ck).ownBlock := fun e => wordlist_grow.okA_b b6 (hown b6 e.symm).1 rfl
            have ng : some g ≠ (Value.slice Ak lf.f2.length ck).ownBlock := fun e => (hown g e.symm).2 rfl
            have X14 := Lib.hid (blk_grown X13.out hg nX)
            have H14 := Lib.hid (blk_grown H13.out hg nb)
            have hX14 := cell_grown hg hX12 nX
            have hG14 := cell_grown hg hG12 ng
            have B14 := Lib.hid hb
            have K14 := Lib.hid (Kept.of_grown hg K13.out (fun q hq => (wordlist_grow.okA_H (Nat.le_of_eq N6.out.2.1) q (hown q hq).1).elim (fun h2 => Or.inl (Or.inr h2)) Or.inr))
            have HH14 := Lib.hid (Kd.H_grown (Kd.H_widen HH3.out) hg (fun q e => .inl (HRK3.out.1 q e)))
            have NL := C6.out.1
            obtain ⟨hcc14, hfr14⟩ := Kd.H_at HH14.out (by omega) (by omega)
            obtain ⟨A3, c3, rfl⟩ := Kd.R_slice ho
            have hc14 := hcc14 2 _ rfl
            have hf14 := hfr14 2
            rw [hsz] at hc14 hf14
            simp only [Int.toNat_natCast] at hc14 hf14
            have HP := Kd.S_seg0 HH14.out (by omega) (by omega) (seg := [.slice A3 (lf.f2 ++ [kid]).length c3]) (j := 2) (Nat.le_refl 3) (x' := (⟨lf.f0, lf.f1, lf.f2 ++ [kid]⟩ : S46)) (k46_mkM _ _ _ (⟨lf.f0, lf.f1, lf.f2 ++ [kid]⟩ : S46) ho) (fun _ hk => hk)
            rw [hsz, Int.toNat_natCast] at HP
            have P1 := Lib.hid HP.1
            clear HP hcc14 hfr14 ho hb hg hat hown nX nb ng HH3 HRK3 S13 B13 K13 X13 H13 HH14 hX12 hG12
            rw [List.length_append, List.length_singleton] at P1 ⊢
            refine hK.out _ _ ⟨hX14, hG14⟩ (fun hHeld => ?_)
            clear hK K
            refine norm_ (a' := ?_) ?_ ?_
            rotate_left
            ·show Act.put _ (some 82) _ = _
             simp only [Act.put, List.setIfInBounds_toArray, List.set_cons_zero, List.set_cons_succ, i64_w, i32_w]
             rfl
            refine pure_ (i := 14) (N := (some 83)) (v := ?_) (a' := ?_) #[true, true, true, true, true, true, true, true, true, true, true, true, true, true, true, false, false] rfl rfl (by kernel_rfl) (fun _ _ _ h => h) (Or.inl ⟨by rfl, ?_⟩) ?_ ?_
            rotate_left
            ·intro w'
             go_simp
             with_reducible rfl
            rotate_left
            ·simp only [Act.put, List.setIfInBounds_toArray, List.set_cons_zero, List.set_cons_succ, i64_w, i32_w]
             rfl
            refine pure_ (i := 15) (N := (some 84)) (v := ?_) (a' := ?_) #[true, true, true, true, true, true, true, true, true, true, true, true, true, true, true, true, false] rfl rfl (by kernel_rfl) (fun _ _ _ h => h) (Or.inl ⟨by rfl, ?_⟩) ?_ ?_
            rotate_left
            ·intro w'
             go_simp
             with_reducible rfl
            rotate_left
            ·simp only [Act.put, List.setIfInBounds_toArray, List.set_cons_zero, List.set_cons_succ, i64_w, i32_w]
             rfl
            clear hX14 hG14
            refine last_ (i := 16) (N := none) #[true, true, true, true, true, true, true, true, true, true, true, true, true, true, true, true, true] rfl rfl (by kernel_rfl) (by decide) (fun K hK => ?_)
            refine skip_ (w1 := ?_) (by rfl) rfl ?_ ?_
            rotate_left
            ·go_simp
             rfl
            refine hK.out _ _ ?_
            clear hK K
            refine done_ (by kernel_rfl) ?_
            clear hHeld hc14 hf14
            have X15 := Lib.hid (blk_far X14.out (p := ⟨g, L.length * 3 + 2, none⟩) (wordlist_grow.okA_X N6.out.1 HOK.out g NG.out).symm (.slice A3 (lf.f2.length + 1) c3))
            have H15 := Lib.hid (blk_far H14.out (p := ⟨g, L.length * 3 + 2, none⟩) (wordlist_grow.okA_b g NG.out).symm (.slice A3 (lf.f2.length + 1) c3))
            have S15 := Lib.hid (show Kd.S k46 46 (w13.setCell ⟨g, L.length * 3 + 2, none⟩ (.slice A3 (lf.f2.length + 1) c3)) w0.heap.size (wordlist_grow.okA b6 ok) _ _ from P1.out)
            have B15 := Lib.hid (below_set B14.out GB.out (j := L.length * 3 + 2) (v := .slice A3 (lf.f2.length + 1) c3))
            have K15 := Lib.hid (K14.out.setCell (p := ⟨g, L.length * 3 + 2, none⟩) ((wordlist_grow.okA_H (Nat.le_of_eq N6.out.2.1) g NG.out).elim (fun h => Or.inl (Or.inr h)) Or.inr) (.slice A3 (lf.f2.length + 1) c3))
            clear X14 H14 P1 B14 K14
            generalize w13.setCell ⟨g, L.length * 3 + 2, none⟩ (.slice A3 (lf.f2.length + 1) c3) = w15 at X15 H15 S15 B15 K15 ⊢
            have hrun2 := HRUN2.out
            go_wp2_with (fail)
            go_roundg k1
            case measure => have := HK.out; omega
            case rel => exact ⟨_, wd, Ad, cd, _, rfl, H3e, Lib.hid (by have := HK.out; omega), X15, H15, S15, WD, CD, B15, K15⟩
           ·have HC7 := Lib.hid c7
            have b7 : decide (r < 0) = false := decide_eq_false c7
            clear c7
            go_wp2_with (fail)
            have X9 := Lib.hid (blk_drew (blk_drewN X8.out nd)); have H9' := Lib.hid (blk_drew (blk_drewN H8.out nd)); have S9 := Lib.hid (Kd.S_drew (Kd.S_drewN S8.out nd)); have B9 := Lib.hid (below_drew1 (pw_below_drewN B8.out nd)); have K9 := Lib.hid ((K8.out.drewN nd).drew); have T9 := Lib.hid (blk_drew (blk_drewN T8.out nd))
            clear X8 H8 S8 B8 K8 T8
            obtain ⟨i9, hi9, _, hs9, _⟩ := info_parts info9
            have hk0 : 0 ≤ r := by have := HC7.out; omega
            have hk1 : r ≤ (wsr.length : Int) := by have := C5.out; omega
            obtain ⟨hrun, hrd, hcd⟩ := print_take_of (P := Try.prog) Value.string ByteArray.empty 24 9 .i64 Try.underlying24 hi9 hs9 (some ad) cr wsr r hk0 hk1 CR.out
            obtain ⟨Ad, hrun2, hrd2, hcd2⟩ := print_drop_of (P := Try.prog) Value.string ByteArray.empty 24 9 .i64 Try.underlying24 hi9 hs9 (some ad) cr wsr r hk0 hk1 CR.out
            have W9 := Lib.hid (show Kd.string.C w0 (some ad) (wsr.take (r).toNat).length (wsr.take (r).toNat) from Kd.C_of_reads (hrd w0 (Kd.reads_of_C WR.out)))
            have C9 := Lib.hid hcd
            have WD := Lib.hid (show Kd.string.C w0 Ad (wsr.drop (r).toNat).length (wsr.drop (r).toNat) from Kd.C_of_reads (hrd2 w0 (Kd.reads_of_C WR.out)))
            have CD := Lib.hid hcd2
            have HF' := Lib.hid (show wordlist_grow.f k1 Lr (wsr.take (r).toNat) (wrap64 (at_ + 1)) (bt (rdOf ByteArray.empty wsr 0) at_) = some (L2, kid) from by have h := HF.out; rw [if_neg (Int.not_lt.2 HC7.out)] at h; exact h)
            have H3d := Lib.hid (show wordlist_grow.l0 k1 (L2.set L.length ⟨(L2.getD L.length ⟨0, false, []⟩).f0, (L2.getD L.length ⟨0, false, []⟩).f1, (L2.getD L.length ⟨0, false, []⟩).f2 ++ [kid]⟩) (wsr.drop (r).toNat) at_ L.length = some (L', n) from by have h := H3'.out; rw [if_neg (Int.not_lt.2 HC7.out)] at h; exact h)
            clear hrd hcd hrd2 hcd2 HF H3' hi9 hs9 hk0 hk1
            generalize wsr.take (r).toNat = wk at hrun W9 C9 HF'
            generalize wsr.drop (r).toNat = wd at hrun2 WD CD H3d
            generalize cr - (r).toNat = cd at hrun2 CD
            have hbr := bt_range (rdOf ByteArray.empty wsr 0) at_
            have hw8 : (wrap64 (bt (rdOf ByteArray.empty wsr 0) at_)) = (bt (rdOf ByteArray.empty wsr 0) at_) := by unfold wrap64; omega
            have hw8' : (IntKind.i64.wrap (bt (rdOf ByteArray.empty wsr 0) at_)) = (bt (rdOf ByteArray.empty wsr 0) at_) := (i64_w _).trans hw8
            have HW8 := Lib.hid hw8; have HW8' := Lib.hid hw8'; have HBR := Lib.hid hbr
            clear hw8 hw8' hbr
            have HRUN2 := Lib.hid hrun2
            clear hrun2
            refine start_ (n := 10) (S := fun w' => w'.cell? ⟨b6, 0, none⟩ = some (.int .i64 at_) ∧ w'.cell? ⟨b10, 0, none⟩ = some (.int .u8 (bt (rdOf ByteArray.empty wsr 0) at_))) (ds := [9]) #[false, false, false, false, false, false, false, false, false, false] (by kernel_rfl) rfl rfl ⟨(blk_cell H9'.out 0).trans rfl, (blk_cell T9.out 0).trans rfl⟩ (fun hHeld => ?_)
            generalize (w8.drewN nd).drew = w10 at X9 H9' S9 B9 K9 T9 hHeld ⊢
            refine pure_ (i := 0) (N := (some 60)) (v := ?_) (a' := ?_) #[true, false, false, false, false, false, false, false, false, false] rfl rfl (by kernel_rfl) (fun _ _ _ h => h) (Or.inl ⟨by rfl, ?_⟩) ?_ ?_
            rotate_left
            ·intro w'
             go_simp
             with_reducible rfl
            rotate_left
            ·simp only [Act.put, List.setIfInBounds_toArray, List.set_cons_zero, List.set_cons_succ, i64_w, i32_w]
             rfl
            refine pure_ (i := 1) (N := (some 61)) (v := ?_) (a' := ?_) #[true, true, false, false, false, false, false, false, false, false] rfl rfl (by kernel_rfl) (fun _ _ _ h => h) (Or.inl ⟨by rfl, ?_⟩) ?_ ?_
            rotate_left
            ·intro w'
             go_simp
             with_reducible rfl
            rotate_left
            ·simp only [Act.put, List.setIfInBounds_toArray, List.set_cons_zero, List.set_cons_succ, i64_w, i32_w]
             rfl
            refine pure_ (i := 2) (N := (some 62)) (v := ?_) (a' := ?_) #[true, true, true, false, false, false, false, false, false, false] rfl rfl (by kernel_rfl) (fun _ _ _ h => h) (Or.inl ⟨by rfl, ?_⟩) ?_ ?_
            rotate_left
            ·intro w'
             go_simp
             with_reducible rfl
            rotate_left
            ·simp only [Act.put, List.setIfInBounds_toArray, List.set_cons_zero, List.set_cons_succ, i64_w, i32_w]
             rfl
            refine pure_ (i := 3) (N := (some 63)) (v := ?_) (a' := ?_) #[true, true, true, true, false, false, false, false, false, false] rfl rfl (by kernel_rfl) (fun _ _ _ h => h) (Or.inl ⟨by rfl, ?_⟩) ?_ ?_
            rotate_left
            ·intro w'
             go_simp
             with_reducible rfl
            rotate_left
            ·simp only [Act.put, List.setIfInBounds_toArray, List.set_cons_zero, List.set_cons_succ, i64_w, i32_w]
             rfl
            refine take_ (i := 4) (N := (some 64)) (v := ?_) (a' := ?_) #[true, true, true, true, true, false, false, false, false, false] rfl rfl (by kernel_rfl) (fun _ _ _ h => h) (Or.inl ⟨by rfl, ?_⟩) hHeld ?_ ?_
            rotate_left
            ·rintro w' ⟨s0, s1⟩
             go_simp
             with_reducible rfl
            rotate_left
            ·simp only [Act.put, List.setIfInBounds_toArray, List.set_cons_zero, List.set_cons_succ, i64_w, i32_w]
             rfl
            refine pure_ (i := 5) (N := (some 65)) (v := ?_) (a' := ?_) #[true, true, true, true, true, true, false, false, false, false] rfl rfl (by kernel_rfl) (fun _ _ _ h => h) (Or.inl ⟨by rfl, ?_⟩) ?_ ?_
            rotate_left
            ·intro w'
             go_simp
             with_reducible rfl
            rotate_left
            ·simp only [Act.put, List.setIfInBounds_toArray, List.set_cons_zero, List.set_cons_succ, i64_w, i32_w]
             rfl
            refine take_ (i := 6) (N := (some 66)) (v := ?_) (a' := ?_) #[true, true, true, true, true, true, true, false, false, false] rfl rfl (by kernel_rfl) (fun _ _ _ h => h) (Or.inl ⟨by rfl, ?_⟩) hHeld ?_ ?_
            rotate_left
            ·rintro w' ⟨s0, s1⟩
             go_simp
             with_reducible rfl
            rotate_left
            ·simp only [Act.put, List.setIfInBounds_toArray, List.set_cons_zero, List.set_cons_succ, i64_w, i32_w]
             rfl
            refine pure_ (i := 7) (N := (some 67)) (v := .int .i64 (bt (rdOf ByteArray.empty wsr 0) at_)) (a' := ?_) #[true, true, true, true, true, true, true, true, false, false] rfl rfl (by kernel_rfl) (fun _ _ _ h => h) (Or.inl ⟨by rfl, ?_⟩) ?_ ?_
            ·intro w'
             go_simp
             first | (rw [HW8.out]; done) | (rw [HW8.out]; rfl) | (rw [HW8'.out]; done) | (rw [HW8'.out]; rfl)
            rotate_left
            ·simp only [Act.put, List.setIfInBounds_toArray, List.set_cons_zero, List.set_cons_succ, i64_w, i32_w]
             rfl
            clear hrun
            refine one_ (i := 8) (N := (some 68)) #[true, true, true, true, true, true, true, true, true, false] rfl rfl (by kernel_rfl) (by decide) (fun K hK => ?_)
            refine goes_ Try.func38 (by kernel_rfl) rfl #[.pointer (some ⟨X, 0, none⟩), .slice (some ad) wk.length cr, .int .i64 (wrap64 (at_ + 1)), .int .i64 (bt (rdOf ByteArray.empty wsr 0) at_)] (by rfl) rfl rfl (by (try simp only [List.map_toArray, List.map_cons, List.map_nil]); first | done | rfl) ?_
            refine (IH.out k1 (by have := HK.out; omega) Lr wk (wrap64 (at_ + 1)) (bt (rdOf ByteArray.empty wsr 0) at_) L2 kid X vr (some ad) cr (fun q => wordlist_grow.okA b6 ok q ∧ q ≠ b10) w0 w10 X9.out HXB.out (fun h => wordlist_grow.okA_X N6.out.1 HOK.out X h.1 rfl) S9.out W9.out C9.out B9.out HF'.out).mono ?_
            rintro e w11 ⟨rfl, v2, x11, s11, k11, b11⟩
            refine ⟨_, rfl, ?_⟩
            have NB10 : b10 < w10.heap.size := blk_lt T9.out
            have N68 := N8.out
            have X11 := Lib.hid x11
            have S11 := Lib.hid (Kd.S_mono s11 (ok' := wordlist_grow.okA b6 ok) (fun q hq => hq.elim (fun h => h.1) (fun h => Or.inr (by omega))))
            have K11 := Lib.hid (K9.out.then_ k11 (fun q hq => hq.elim (fun h => Or.inl (Or.inl h)) (fun h => (wordlist_grow.okA_H (Nat.le_of_eq N6.out.2.1) q h.1).elim (fun h2 => Or.inl (Or.inr h2)) Or.inr)))
            have B11 := Lib.hid b11
            have H11 := Lib.hid (blk_kept H9'.out k11 (fun h => h.elim (fun e => absurd e (Nat.ne_of_gt N6.out.1)) (fun h2 => wordlist_grow.okA_b b6 h2.1 rfl)))
            have T11 := Lib.hid (blk_kept T9.out k11 (fun h => h.elim (fun e => absurd e (Nat.ne_of_gt N8'.out)) (fun h2 => h2.2 rfl)))
            refine hK.out _ _ ⟨(blk_cell H11.out 0).trans rfl, (blk_cell T11.out 0).trans rfl⟩ (fun hHeld => ?_)
            clear hK K x11 s11 k11 b11 X9 S9 K9 B9 H9' T9 T11 NB10 N68 HF' W9 C9
            refine norm_ (a' := ?_) ?_ ?_
            rotate_left
            ·show Act.put _ (some 68) _ = _
             simp only [Act.put, List.setIfInBounds_toArray, List.set_cons_zero, List.set_cons_succ, i64_w, i32_w]
             rfl
            refine pure_ (i := 9) (N := (some 12)) (v := ?_) (a' := ?_) #[true, true, true, true, true, true, true, true, true, true] rfl rfl (by kernel_rfl) (fun _ _ _ h => h) (Or.inl ⟨by rfl, ?_⟩) ?_ ?_
            rotate_left
            ·intro w'
             go_simp
             with_reducible rfl
            rotate_left
            ·simp only [Act.put, List.setIfInBounds_toArray, List.set_cons_zero, List.set_cons_succ, i64_w, i32_w]
             rfl
            refine done_ (by kernel_rfl) ?_
            clear hHeld
            go_wp2_with (fail)
            have X12 := Lib.hid (blk_drew X11.out); have H12 := Lib.hid (blk_drew H11.out); have S12 := Lib.hid (Kd.S_drew S11.out); have B12 := Lib.hid (below_drew1 B11.out); have K12 := Lib.hid K11.out.drew
            clear X11 H11 S11 B11 K11
            have h6 := C6.out
            obtain ⟨g, cg, eg, hg1, hg2, cl, hg3⟩ := Kd.S_form S12.out (by omega)
            subst eg
            obtain ⟨oki, ce, hcl, hM, hcc, hfr, hoki, hH⟩ := Kd.S_elem S12.out (⟨0, false, []⟩ : S46) (L.length : Int) (by omega) (by omega)
            obtain ⟨lf, hlf⟩ : ∃ lf, L2.getD L.length (⟨0, false, []⟩ : S46) = lf := ⟨_, rfl⟩
            rw [Int.toNat_natCast, hlf] at hM
            obtain ⟨vk, rfl, hR⟩ := k46_openM hM
            obtain ⟨Ak, ck, rfl⟩ := Kd.R_slice hR
            have hsz : k46.sz = 3 := rfl
            have hc2 := hcc 2 _ rfl
            rw [hsz] at hc2
            simp only [Int.toNat_natCast] at hc2
            have GB := Lib.hid hg1
            have NG := Lib.hid (show wordlist_grow.okA b6 ok g from (Kd.S_R S12.out).1 g rfl)
            have HRK := Lib.hid hR
            have HH := Lib.hid hH
            have HOI := Lib.hid hoki
            have LK := Lib.hid (show lf.f2.length ≤ 1000000 from by rw [← hlf]; exact h6.2)
            have H3e := Lib.hid (show wordlist_grow.l0 k1 (L2.set L.length (⟨lf.f0, lf.f1, lf.f2 ++ [kid]⟩ : S46)) wd at_ L.length = some (L', n) from by rw [← hlf]; exact H3d.out)
            clear hlf H3d hcc hfr hoki hH hR hcl hg1 hg2 hg3 cl
            have hj0 : (0 ≤ (L.length : Int)) = True := eq_true (by omega)
            have hj1 : ((L.length : Int) < (L2.length : Int)) = True := eq_true (by omega)
            clear h6
            refine start_ (n := 17) (S := fun w' => w'.cell? ⟨X, 0, none⟩ = some (.slice (some ⟨g, 0, none⟩) L2.length cg) ∧ w'.cell? ⟨g, L.length * 3 + 2, none⟩ = some (.slice Ak lf.f2.length ck)) (ds := [16]) #[false, false, false, false, false, false, false, false, false, false, false, false, false, false, false, false, false] (by kernel_rfl) rfl rfl ⟨(blk_cell X12.out 0).trans rfl, hc2⟩ (fun hHeld => ?_)
            have X13 := X12; have H13 := H12; have S13 := S12; have B13 := B12; have K13 := K12; have HRK3 := HRK; have HH3 := HH
            clear X12 H12 S12 B12 K12 HRK HH hc2
            generalize w11.drew = w12 at X13 H13 S13 B13 K13 HRK3 HH3 hHeld ⊢
            refine pure_ (i := 0) (N := (some 69)) (v := ?_) (a' := ?_) #[true, false, false, false, false, false, false, false, false, false, false, false, false, false, false, false, false] rfl rfl (by kernel_rfl) (fun _ _ _ h => h) (Or.inl ⟨by rfl, ?_⟩) ?_ ?_
            rotate_left
            ·intro w'
             go_simp
             with_reducible rfl
            rotate_left
            ·simp only [Act.put, List.setIfInBounds_toArray, List.set_cons_zero, List.set_cons_succ, i64_w, i32_w]
             rfl
            refine pure_ (i := 1) (N := (some 70)) (v := ?_) (a' := ?_) #[true, true, false, false, false, false, false, false, false, false, false, false, false, false, false, false, false] rfl rfl (by kernel_rfl) (fun _ _ _ h => h) (Or.inl ⟨by rfl, ?_⟩) ?_ ?_
            rotate_left
            ·intro w'
             go_simp
             with_reducible rfl
            rotate_left
            ·simp only [Act.put, List.setIfInBounds_toArray, List.set_cons_zero, List.set_cons_succ, i64_w, i32_w]
             rfl
            refine take_ (i := 2) (N := (some 71)) (v := ?_) (a' := ?_) #[true, true, true, false, false, false, false, false, false, false, false, false, false, false, false, false, false] rfl rfl (by kernel_rfl) (fun _ _ _ h => h) (Or.inl ⟨by rfl, ?_⟩) hHeld ?_ ?_
            rotate_left
            ·rintro w' ⟨s0, s1⟩
             go_simp
             with_reducible rfl
            rotate_left
            ·simp only [Act.put, List.setIfInBounds_toArray, List.set_cons_zero, List.set_cons_succ, i64_w, i32_w]
             rfl
            refine pure_ (i := 3) (N := (some 72)) (v := ?_) (a' := ?_) #[true, true, true, true, false, false, false, false, false, false, false, false, false, false, false, false, false] rfl rfl (by kernel_rfl) (fun _ _ _ h => h) (Or.inl ⟨by rfl, ?_⟩) ?_ ?_
            rotate_left
            ·intro w'
             go_simp
             with_reducible rfl
            rotate_left
            ·simp only [Act.put, List.setIfInBounds_toArray, List.set_cons_zero, List.set_cons_succ, i64_w, i32_w]
             rfl
            refine pure_ (i := 4) (N := (some 73)) (v := ?_) (a' := ?_) #[true, true, true, true, true, false, false, false, false, false, false, false, false, false, false, false, false] rfl rfl (by kernel_rfl) (fun _ _ _ h => h) (Or.inl ⟨by rfl, ?_⟩) ?_ ?_
            rotate_left
            ·intro w'
             go_simp
             with_reducible rfl
            rotate_left
            ·simp only [Act.put, List.setIfInBounds_toArray, List.set_cons_zero, List.set_cons_succ, i64_w, i32_w]
             rfl
            refine pure_ (i := 5) (N := (some 74)) (v := ?_) (a' := ?_) #[true, true, true, true, true, true, false, false, false, false, false, false, false, false, false, false, false] rfl rfl (by kernel_rfl) (fun _ _ _ h => h) (Or.inl ⟨by rfl, ?_⟩) ?_ ?_
            rotate_left
            ·intro w'
             go_simp
             with_reducible rfl
            rotate_left
            ·simp only [Act.put, List.setIfInBounds_toArray, List.set_cons_zero, List.set_cons_succ, i64_w, i32_w]
             rfl
            refine take_ (i := 6) (N := (some 75)) (v := ?_) (a' := ?_) #[true, true, true, true, true, true, true, false, false, false, false, false, false, false, false, false, false] rfl rfl (by kernel_rfl) (fun _ _ _ h => h) (Or.inl ⟨by rfl, ?_⟩) hHeld ?_ ?_
            rotate_left
            ·rintro w' ⟨s0, s1⟩
             go_simp
             with_reducible rfl
            rotate_left
            ·simp only [Act.put, List.setIfInBounds_toArray, List.set_cons_zero, List.set_cons_succ, i64_w, i32_w]
             rfl
            refine pure_ (i := 7) (N := (some 76)) (v := ?_) (a' := ?_) #[true, true, true, true, true, true, true, true, false, false, false, false, false, false, false, false, false] rfl rfl (by kernel_rfl) (fun _ _ _ h => h) (Or.inl ⟨by rfl, ?_⟩) ?_ ?_
            rotate_left
            ·intro w'
             go_simp
             with_reducible rfl
            rotate_left
            ·simp only [Act.put, List.setIfInBounds_toArray, List.set_cons_zero, List.set_cons_succ, i64_w, i32_w]
             rfl
            refine pure_ (i := 8) (N := (some 77)) (v := ?_) (a' := ?_) #[true, true, true, true, true, true, true, true, true, false, false, false, false, false, false, false, false] rfl rfl (by kernel_rfl) (fun _ _ _ h => h) (Or.inl ⟨by rfl, ?_⟩) ?_ ?_
            rotate_left
            ·intro w'
             go_simp
             with_reducible rfl
            rotate_left
            ·simp only [Act.put, List.setIfInBounds_toArray, List.set_cons_zero, List.set_cons_succ, i64_w, i32_w]
             rfl
            refine pure_ (i := 9) (N := (some 78)) (v := ?_) (a' := ?_) #[true, true, true, true, true, true, true, true, true, true, false, false, false, false, false, false, false] rfl rfl (by kernel_rfl) (fun _ _ _ h => h) (Or.inl ⟨by rfl, ?_⟩) ?_ ?_
            rotate_left
            ·intro w'
             go_simp
             with_reducible rfl
            rotate_left
            ·simp only [Act.put, List.setIfInBounds_toArray, List.set_cons_zero, List.set_cons_succ, i64_w, i32_w]
             rfl
            refine take_ (i := 10) (N := (some 79)) (v := ?_) (a' := ?_) #[true, true, true, true, true, true, true, true, true, true, true, false, false, false, false, false, false] rfl rfl (by kernel_rfl) (fun _ _ _ h => h) (Or.inl ⟨by rfl, ?_⟩) hHeld ?_ ?_
            rotate_left
            ·rintro w' ⟨s0, s1⟩
             go_simp
             with_reducible rfl
            rotate_left
            ·simp only [Act.put, List.setIfInBounds_toArray, List.set_cons_zero, List.set_cons_succ, i64_w, i32_w]
             rfl
            refine pure_ (i := 11) (N := (some 80)) (v := ?_) (a' := ?_) #[true, true, true, true, true, true, true, true, true, true, true, true, false, false, false, false, false] rfl rfl (by kernel_rfl) (fun _ _ _ h => h) (Or.inl ⟨by rfl, ?_⟩) ?_ ?_
            rotate_left
            ·intro w'
             go_simp
             with_reducible rfl
            rotate_left
            ·simp only [Act.put, List.setIfInBounds_toArray, List.set_cons_zero, List.set_cons_succ, i64_w, i32_w]
             rfl
            have hX12 := hHeld.1; have hG12 := hHeld.2
            refine one_ (i := 12) (N := (some 81)) #[true, true, true, true, true, true, true, true, true, true, true, true, true, false, false, false, false] rfl rfl (by kernel_rfl) (by decide) (fun K hK => ?_)
            refine value_ (w1 := ?_) (v := ?_) (by rfl) rfl ?_ ?_
            rotate_left 2
            ·go_simp
             constructor
             ·rfl
             ·rfl
            refine hK.out _ _ ⟨(World.cell?_alloc_lt _ _ _ (World.block_lt_of_cell? _ _ hHeld.1)).trans hHeld.1, (World.cell?_alloc_lt _ _ _ (World.block_lt_of_cell? _ _ hHeld.2)).trans hHeld.2⟩ (fun hHeld => ?_)
            clear hK K
            refine norm_ (a' := ?_) ?_ ?_
            rotate_left
            ·show Act.put _ (some 81) _ = _
             simp only [Act.put, List.setIfInBounds_toArray, List.set_cons_zero, List.set_cons_succ, i64_w, i32_w]
             rfl
            refine one_ (i := 13) (N := (some 82)) #[true, true, true, true, true, true, true, true, true, true, true, true, true, true, false, false, false] rfl rfl (by kernel_rfl) (by decide) (fun K hK => ?_)
            refine Kd.R_append_step (Kd.int .i64) (w0 := w0) w0.heap.size (by rfl) (.tmp 79) (.tmp 81) 44 3 (.int .i64 0) 8 rfl Try.underlying44 info3 rfl (by decide) (by omega) (.slice Ak lf.f2.length ck) lf.f2 kid [.int .i64 kid] (fun q => oki q ∨ (wordlist_grow.okA b6 ok q ∧ w12.heap.size ≤ q)) (fun _ => False) rfl rfl ?aP (fun _ hk => hk.elim) ?aF ?aO ?aB ?aS ?aL ?_
            (case aP => exact rfl)
            (case aF => exact fun q hq => Or.inr ⟨Or.inr (by have := blk_lt H13.out; omega), hq⟩)
            (case aO => exact Kd.R_mono HRK3.out (fun _ hk => .inl hk))
            (case aB => exact B13.out)
            (case aS => exact B13.out.size)
            (case aL => have := LK.out; omega)
            intro v1 w13 ho hb hg hat
            have hown : ∀ q, (Value.slice Ak lf.f2.length ck).ownBlock = some q → wordlist_grow.okA b6 ok q ∧ q ≠ g := fun q hq => HOI.out q (HRK3.out.1 q hq)
            have nX : some X ≠ (Value.slice Ak lf.f2.length ck).ownBlock := fun e => wordlist_grow.okA_X N6.out.1 HOK.out X (hown X e.symm).1 rfl
            have nb : some b6 ≠ (Value.slice Ak lf.f2.length ck).ownBlock := fun e => wordlist_grow.okA_b b6 (hown b6 e.symm).1 rfl
            have ng : some g ≠ (Value.slice Ak lf.f2.length ck).ownBlock := fun e => (hown g e.symm).2 rfl
            have X14 := Lib.hid (blk_grown X13.out hg nX)
            have H14 := Lib.hid (blk_grown H13.out hg nb)
            have hX14 := cell_grown hg hX12 nX
            have hG14 := cell_grown hg hG12 ng
            have B14 := Lib.hid hb
            have K14 := Lib.hid (Kept.of_grown hg K13.out (fun q hq => (wordlist_grow.okA_H (Nat.le_of_eq N6.out.2.1) q (hown q hq).1).elim (fun h2 => Or.inl (Or.inr h2)) Or.inr))
            have HH14 := Lib.hid (Kd.H_grown (Kd.H_widen HH3.out) hg (fun q e => .inl (HRK3.out.1 q e)))
            have NL := C6.out.1
            obtain ⟨hcc14, hfr14⟩ := Kd.H_at HH14.out (by omega) (by omega)
            obtain ⟨A3, c3, rfl⟩ := Kd.R_slice ho
            have hc14 := hcc14 2 _ rfl
            have hf14 := hfr14 2
            rw [hsz] at hc14 hf14
            simp only [Int.toNat_natCast] at hc14 hf14
            have HP := Kd.S_seg0 HH14.out (by omega) (by omega) (seg := [.slice A3 (lf.f2 ++ [kid]).length c3]) (j := 2) (Nat.le_refl 3) (x' := (⟨lf.f0, lf.f1, lf.f2 ++ [kid]⟩ : S46)) (k46_mkM _ _ _ (⟨lf.f0, lf.f1, lf.f2 ++ [kid]⟩ : S46) ho) (fun _ hk => hk)
            rw [hsz, Int.toNat_natCast] at HP
            have P1 := Lib.hid HP.1
            clear HP hcc14 hfr14 ho hb hg hat hown nX nb ng HH3 HRK3 S13 B13 K13 X13 H13 HH14 hX12 hG12
            rw [List.length_append, List.length_singleton] at P1 ⊢
            refine hK.out _ _ ⟨hX14, hG14⟩ (fun hHeld => ?_)
            clear hK K
            refine norm_ (a' := ?_) ?_ ?_
            rotate_left
            ·show Act.put _ (some 82) _ = _
             simp only [Act.put, List.setIfInBounds_toArray, List.set_cons_zero, List.set_cons_succ, i64_w, i32_w]
             rfl
            refine pure_ (i := 14) (N := (some 83)) (v := ?_) (a' := ?_) #[true, true, true, true, true, true, true, true, true, true, true, true, true, true, true, false, false] rfl rfl (by kernel_rfl) (fun _ _ _ h => h) (Or.inl ⟨by rfl, ?_⟩) ?_ ?_
            rotate_left
            ·intro w'
             go_simp
             with_reducible rfl
            rotate_left
            ·simp only [Act.put, List.setIfInBounds_toArray, List.set_cons_zero, List.set_cons_succ, i64_w, i32_w]
             rfl
            refine pure_ (i := 15) (N := (some 84)) (v := ?_) (a' := ?_) #[true, true, true, true, true, true, true, true, true, true, true, true, true, true, true, true, false] rfl rfl (by kernel_rfl) (fun _ _ _ h => h) (Or.inl ⟨by rfl, ?_⟩) ?_ ?_
            rotate_left
            ·intro w'
             go_simp
             with_reducible rfl
            rotate_left
            ·simp only [Act.put, List.setIfInBounds_toArray, List.set_cons_zero, List.set_cons_succ, i64_w, i32_w]
             rfl
            clear hX14 hG14
            refine last_ (i := 16) (N := none) #[true, true, true, true, true, true, true, true, true, true, true, true, true, true, true, true, true] rfl rfl (by kernel_rfl) (by decide) (fun K hK => ?_)
            refine skip_ (w1 := ?_) (by rfl) rfl ?_ ?_
            rotate_left
            ·go_simp
             rfl
            refine hK.out _ _ ?_
            clear hK K
            refine done_ (by kernel_rfl) ?_
            clear hHeld hc14 hf14
            have X15 := Lib.hid (blk_far X14.out (p := ⟨g, L.length * 3 + 2, none⟩) (wordlist_grow.okA_X N6.out.1 HOK.out g NG.out).symm (.slice A3 (lf.f2.length + 1) c3))
            have H15 := Lib.hid (blk_far H14.out (p := ⟨g, L.length * 3 + 2, none⟩) (wordlist_grow.okA_b g NG.out).symm (.slice A3 (lf.f2.length + 1) c3))
            have S15 := Lib.hid (show Kd.S k46 46 (w13.setCell ⟨g, L.length * 3 + 2, none⟩ (.slice A3 (lf.f2.length + 1) c3)) w0.heap.size (wordlist_grow.okA b6 ok) _ _ from P1.out)
            have B15 := Lib.hid (below_set B14.out GB.out (j := L.length * 3 + 2) (v := .slice A3 (lf.f2.length + 1) c3))
            have K15 := Lib.hid (K14.out.setCell (p := ⟨g, L.length * 3 + 2, none⟩) ((wordlist_grow.okA_H (Nat.le_of_eq N6.out.2.1) g NG.out).elim (fun h => Or.inl (Or.inr h)) Or.inr) (.slice A3 (lf.f2.length + 1) c3))
            clear X14 H14 P1 B14 K14
            generalize w13.setCell ⟨g, L.length * 3 + 2, none⟩ (.slice A3 (lf.f2.length + 1) c3) = w15 at X15 H15 S15 B15 K15 ⊢
            have hrun2 := HRUN2.out
            go_wp2_with (fail)
            go_roundg k1
            case measure => have := HK.out; omega
            case rel => exact ⟨_, wd, Ad, cd, _, rfl, H3e, Lib.hid (by have := HK.out; omega), X15, H15, S15, WD, CD, B15, K15⟩
          ·rw [if_neg c6] at H3; cases H3
         ·rw [if_neg c5] at H2; cases H2
        ·rw [if_neg c4] at H; cases H
       ·rw [if_neg c3] at H
        obtain ⟨rfl, rfl⟩ := Prod.mk.inj (Option.some.inj H)
        have b3 : decide (0 < (wsr.length : Int)) = false := decide_eq_false c3
        have b3' : decide (0 < wsr.length) = false := decide_eq_false (by omega)
        clear H
        go_wp2_with (fail)
        go_ret
        exact ⟨rfl, vr, XR.out, Kd.S_mono SR.out (wordlist_grow.okA_H (Nat.le_of_eq N6.out.2.1)), KR.out, BR.out⟩
   ·rw [if_neg c1] at hh
    have b1 : decide (0 < (ws.length : Int)) = false := decide_eq_false c1
    have b1' : decide (0 < ws.length) = false := decide_eq_false (by omega)
    have H9 := Lib.hid hh
    clear hh
    go_quiet (fail)
    have X5 := X4; have H5 := H4; have S5 := S4; have W5 := HW; have C5 := HCP; have B5 := B4; have K5 := K4
    clear X4 H4 S4 B4 K4
    go_wp2_with (fail)
    go_loopg [1] k (fun kq v1 wr => ∃ (Lr : List S46) (wsr : List ByteArray) (Ar : Option Addr) (cr : Nat) (vr : Value), v1 = .slice Ar wsr.length cr ∧ Hid (wordlist_grow.l0 kq Lr wsr at_ L.length = some (L', n)) ∧ Hid (kq ≤ k) ∧ Hid (wr.heap[X]? = some (.cells #[vr] 38 (0, 0))) ∧ Hid (wr.heap[b6]? = some (.cells #[.int .i64 at_] 3 (0, 0))) ∧ Hid (Kd.S k46 46 wr w0.heap.size (wordlist_grow.okA b6 ok) vr Lr) ∧ Hid (Kd.string.C w0 Ar wsr.length wsr) ∧ Hid (wsr.length ≤ cr) ∧ Hid (Below w0.heap.size w0 wr) ∧ Hid (Kept w wr (fun q => q = X ∨ ok q)))
    case atStart => exact ⟨_, _, _, _, _, (by first | rfl | (simp only [List.length_drop])), H9, Lib.hid (Nat.le_refl _), (by first | exact X5 | exact Lib.hid (blk_drewN X5.out _)), (by first | exact H5 | exact Lib.hid (blk_drewN H5.out _)), (by first | exact S5 | exact Lib.hid (Kd.S_drewN S5.out _)), W5, C5, (by first | exact B5 | exact Lib.hid (pw_below_drewN B5.out _)), (by first | exact K5 | exact Lib.hid (K5.out.drewN _))⟩
    case round =>
     clear H9 X5 H5 S5 W5 C5 B5 K5 HW HCP
     obtain ⟨Lr, wsr, Ar, cr, vr, rfl, HA, HK, XR, HR, SR, WR, CR, BR, KR⟩ := hrel
     cases gk with
     | zero => exact absurd HA.out (by simp [wordlist_grow.l0])
     | succ k1 =>
      have H := HA.out
      clear HA
      rw [wordlist_grow.l0] at H
      by_cases c3 : 0 < (wsr.length : Int)
      ·rw [if_pos c3] at H
       have b3 : decide (0 < (wsr.length : Int)) = true := decide_eq_true c3
       have b3' : decide (0 < wsr.length) = true := decide_eq_true (by omega)
       have q1 := eq_true c3
       have q2 := eq_true (show 0 < wsr.length by omega)
       by_cases c4 : 0 ≤ at_ ∧ at_ < ((rdOf ByteArray.empty wsr 0).size : Int)
       ·rw [if_pos c4] at H
        obtain ⟨r, hi0, H2⟩ := Option.bind_eq_some_iff.1 H
        clear H
        by_cases c5 : r ≤ (wsr.length : Int)
        ·rw [if_pos c5] at H2
         obtain ⟨⟨L2, kid⟩, hf, H3⟩ := Option.bind_eq_some_iff.1 H2
         clear H2
         dsimp only at H3
         by_cases c6 : L.length < L2.length ∧ (L2.getD L.length ⟨0, false, []⟩).f2.length ≤ 1000000
         ·rw [if_pos c6] at H3
          have HI0 := Lib.hid hi0; have HF := Lib.hid hf; have H3' := Lib.hid H3; have C6 := Lib.hid c6; have C5 := Lib.hid c5; have C3 := Lib.hid c3
          clear hi0 hf H3 c6 c5 c3
          obtain ⟨ad, rfl, hx⟩ := Kd.at_string (Kd.C_below WR.out BR.out) 0 (by decide) C3.out
          have hx1 : wr.cell? ad = some (.string (rdOf ByteArray.empty wsr 0)) := by
           have e : ad.add 0 = ad := by cases ad; simp [Addr.add]
           rw [← e]; exact hx
          have hc6 : wr.cell? ⟨b6, 0, none⟩ = some (.int .i64 at_) := (blk_cell HR.out 0).trans rfl
          have C4 := Lib.hid c4
          obtain ⟨d1, d2⟩ := c4
          have e1 := eq_true d1
          have e2 := eq_true d2
          clear d1 d2 hx
          go_wp2_with (fail)
          refine start_ (n := 7) (S := fun w' => w'.cell? ad = some (.string (rdOf ByteArray.empty wsr 0)) ∧ w'.cell? ⟨b6, 0, none⟩ = some (.int .i64 at_)) (ds := [6]) #[false, false, false, false, false, false, false] (by kernel_rfl) rfl rfl ⟨hx1, hc6⟩ (fun hHeld => ?_)
          have X7 := Lib.hid (blk_drew XR.out); have H7 := Lib.hid (blk_drew HR.out); have S7 := Lib.hid (Kd.S_drew SR.out); have B7 := Lib.hid (below_drew1 BR.out); have K7 := Lib.hid KR.out.drew
          clear XR HR SR BR KR hx1 hc6
          generalize wr.drew = w7 at X7 H7 S7 B7 K7 hHeld ⊢
          refine pure_ (i := 0) (N := (some 48)) (v := ?_) (a' := ?_) #[true, false, false, false, false, false, false] rfl rfl (by kernel_rfl) (fun _ _ _ h => h) (Or.inl ⟨by rfl, ?_⟩) ?_ ?_
          rotate_left
          ·intro w'
           go_simp
           with_reducible rfl
          rotate_left
          ·simp only [Act.put, List.setIfInBounds_toArray, List.set_cons_zero, List.set_cons_succ, i64_w, i32_w]
           rfl
          refine pure_ (i := 1) (N := (some 49)) (v := ?_) (a' := ?_) #[true, true, false, false, false, false, false] rfl rfl (by kernel_rfl) (fun _ _ _ h => h) (Or.inl ⟨by rfl, ?_⟩) ?_ ?_
          rotate_left
          ·intro w'
           go_simp
           with_reducible rfl
          rotate_left
          ·simp only [Act.put, List.setIfInBounds_toArray, List.set_cons_zero, List.set_cons_succ, i64_w, i32_w]
           rfl
          refine take_ (i := 2) (N := (some 50)) (v := ?_) (a' := ?_) #[true, true, true, false, false, false, false] rfl rfl (by kernel_rfl) (fun _ _ _ h => h) (Or.inl ⟨by rfl, ?_⟩) hHeld ?_ ?_
          rotate_left
          ·rintro w' ⟨s0, s1⟩
           go_simp
           with_reducible rfl
          rotate_left
          ·simp only [Act.put, List.setIfInBounds_toArray, List.set_cons_zero, List.set_cons_succ, i64_w, i32_w]
           rfl
          refine take_ (i := 3) (N := (some 51)) (v := ?_) (a' := ?_) #[true, true, true, true, false, false, false] rfl rfl (by kernel_rfl) (fun _ _ _ h => h) (Or.inl ⟨by rfl, ?_⟩) hHeld ?_ ?_
          rotate_left
          ·rintro w' ⟨s0, s1⟩
           go_simp
           with_reducible rfl
          rotate_left
          ·simp only [Act.put, List.setIfInBounds_toArray, List.set_cons_zero, List.set_cons_succ, i64_w, i32_w]
           rfl
          refine pure_ (i := 4) (N := (some 52)) (v := .int .u8 (bt (rdOf ByteArray.empty wsr 0) at_)) (a' := ?_) #[true, true, true, true, true, false, false] rfl rfl (by kernel_rfl) (fun _ _ _ h => h) (Or.inl ⟨by rfl, ?_⟩) ?_ ?_
          ·intro w'
           go_simp
           first | (rw [bt_at]; done) | (rw [bt_at]; rfl) | (simp only [bt_at]; done)
          rotate_left
          ·simp only [Act.put, List.setIfInBounds_toArray, List.set_cons_zero, List.set_cons_succ, i64_w, i32_w]
           rfl
          refine one_ (i := 5) (N := (some 10)) #[true, true, true, true, true, true, false] rfl rfl (by kernel_rfl) (by decide) (fun K hK => ?_)
          refine value_ (w1 := ?_) (v := ?_) (by rfl) rfl ?_ ?_
          rotate_left 2
          ·go_simp
           constructor
           ·rfl
           ·rfl
          refine hK.out _ _ ⟨(World.cell?_alloc_lt _ _ _ (World.block_lt_of_cell? _ _ hHeld.1)).trans hHeld.1, (World.cell?_alloc_lt _ _ _ (World.block_lt_of_cell? _ _ hHeld.2)).trans hHeld.2⟩ (fun hHeld => ?_)
          clear hK K
          refine norm_ (a' := ?_) ?_ ?_
          rotate_left
          ·show Act.put _ (some 10) _ = _
           simp only [Act.put, List.setIfInBounds_toArray, List.set_cons_zero, List.set_cons_succ, i64_w, i32_w]
           rfl
          refine last_ (i := 6) (N := none) #[true, true, true, true, true, true, true] rfl rfl (by kernel_rfl) (by decide) (fun K hK => ?_)
          refine skip_ (w1 := ?_) (by rfl) rfl ?_ ?_
          rotate_left
          ·go_simp
           rfl
          refine hK.out _ _ ?_
          clear hK K
          refine done_ (by kernel_rfl) ?_
          have X8 := Lib.hid (blk_alloc X7.out (.cells #[.int .u8 (bt (rdOf ByteArray.empty wsr 0) at_)] 5)); have H8 := Lib.hid (blk_alloc H7.out (.cells #[.int .u8 (bt (rdOf ByteArray.empty wsr 0) at_)] 5)); have S8 := Lib.hid (Kd.S_alloc (Kd.S_elderB S7.out w7.heap.size (Nat.le_refl _)) (.cells #[.int .u8 (bt (rdOf ByteArray.empty wsr 0) at_)] 5)); have B8 := Lib.hid (below_alloc B7.out (.cells #[.int .u8 (bt (rdOf ByteArray.empty wsr 0) at_)] 5)); have K8 := Lib.hid (K7.out.alloc (.cells #[.int .u8 (bt (rdOf ByteArray.empty wsr 0) at_)] 5)); have T8 := Lib.hid (blk_new w7 (.cells #[.int .u8 (bt (rdOf ByteArray.empty wsr 0) at_)] 5))
          have N8 := Lib.hid (show b6 < w7.heap.size from blk_lt H7.out)
          have N8' := Lib.hid (show X < w7.heap.size from blk_lt X7.out)
          clear X7 H7 S7 B7 K7 hHeld
          generalize w7.alloc (.cells #[.int .u8 (bt (rdOf ByteArray.empty wsr 0) at_)] 5) = w8 at X8 H8 S8 B8 K8 T8 ⊢
          generalize w7.heap.size = b10 at S8 T8 N8 N8' ⊢
          go_wp2_with (fail)
          refine (wordlist_grow.index k1 (some ad) cr wsr at_ (bt (rdOf ByteArray.empty wsr 0) at_) b6 b10 r _ (Kd.C_below WR.out B8.out) CR.out H8.out T8.out HI0.out).mono ?_
          rintro e w9 ⟨rfl, ⟨nd, rfl⟩⟩
          by_cases c7 : r < 0
          ·have HC7 := Lib.hid c7
           have b7 : decide (r < 0) = true := decide_eq_true c7
           clear c7
           go_wp2_with (fail)
           have X9 := Lib.hid (blk_drew (blk_drewN X8.out nd)); have H9' := Lib.hid (blk_drew (blk_drewN H8.out nd)); have S9 := Lib.hid (Kd.S_drew (Kd.S_drewN S8.out nd)); have B9 := Lib.hid (below_drew1 (pw_below_drewN B8.out nd)); have K9 := Lib.hid ((K8.out.drewN nd).drew); have T9 := Lib.hid (blk_drew (blk_drewN T8.out nd))
           clear X8 H8 S8 B8 K8 T8
           obtain ⟨i9, hi9, _, hs9, _⟩ := info_parts info9
           have hk0 : 0 ≤ (wsr.length : Int) := by have := HC7.out; omega
           have hk1 : (wsr.length : Int) ≤ (wsr.length : Int) := by have := C5.out; omega
           obtain ⟨hrun, hrd, hcd⟩ := print_take_of (P := Try.prog) Value.string ByteArray.empty 24 9 .i64 Try.underlying24 hi9 hs9 (some ad) cr wsr (wsr.length : Int) hk0 hk1 CR.out
           obtain ⟨Ad, hrun2, hrd2, hcd2⟩ := print_drop_of (P := Try.prog) Value.string ByteArray.empty 24 9 .i64 Try.underlying24 hi9 hs9 (some ad) cr wsr (wsr.length : Int) hk0 hk1 CR.out
           have W9 := Lib.hid (show Kd.string.C w0 (some ad) (wsr.take ((wsr.length : Int)).toNat).length (wsr.take ((wsr.length : Int)).toNat) from Kd.C_of_reads (hrd w0 (Kd.reads_of_C WR.out)))
           have C9 := Lib.hid hcd
           have WD := Lib.hid (show Kd.string.C w0 Ad (wsr.drop ((wsr.length : Int)).toNat).length (wsr.drop ((wsr.length : Int)).toNat) from Kd.C_of_reads (hrd2 w0 (Kd.reads_of_C WR.out)))
           have CD := Lib.hid hcd2
           have HF' := Lib.hid (show wordlist_grow.f k1 Lr (wsr.take ((wsr.length : Int)).toNat) (wrap64 (at_ + 1)) (bt (rdOf ByteArray.empty wsr 0) at_) = some (L2, kid) from by have h := HF.out; rw [if_pos HC7.out] at h; exact h)
           have H3d := Lib.hid (show wordlist_grow.l0 k1 (L2.set L.length ⟨(L2.getD L.length ⟨0, false, []⟩).f0, (L2.getD L.length ⟨0, false, []⟩).f1, (L2.getD L.length ⟨0, false, []⟩).f2 ++ [kid]⟩) (wsr.drop ((wsr.length : Int)).toNat) at_ L.length = some (L', n) from by have h := H3'.out; rw [if_pos HC7.out] at h; exact h)
           clear hrd hcd hrd2 hcd2 HF H3' hi9 hs9 hk0 hk1
           generalize wsr.take ((wsr.length : Int)).toNat = wk at hrun W9 C9 HF'
           generalize wsr.drop ((wsr.length : Int)).toNat = wd at hrun2 WD CD H3d
           generalize cr - ((wsr.length : Int)).toNat = cd at hrun2 CD
           have hbr := bt_range (rdOf ByteArray.empty wsr 0) at_
           have hw8 : (wrap64 (bt (rdOf ByteArray.empty wsr 0) at_)) = (bt (rdOf ByteArray.empty wsr 0) at_) := by unfold wrap64; omega
           have hw8' : (IntKind.i64.wrap (bt (rdOf ByteArray.empty wsr 0) at_)) = (bt (rdOf ByteArray.empty wsr 0) at_) := (i64_w _).trans hw8
           have HW8 := Lib.hid hw8; have HW8' := Lib.hid hw8'; have HBR := Lib.hid hbr
           clear hw8 hw8' hbr
           have HRUN2 := Lib.hid hrun2
           clear hrun2
           refine start_ (n := 10) (S := fun w' => w'.cell? ⟨b6, 0, none⟩ = some (.int .i64 at_) ∧ w'.cell? ⟨b10, 0, none⟩ = some (.int .u8 (bt (rdOf ByteArray.empty wsr 0) at_))) (ds := [9]) #[false, false, false, false, false, false, false, false, false, false] (by kernel_rfl) rfl rfl ⟨(blk_cell H9'.out 0).trans rfl, (blk_cell T9.out 0).trans rfl⟩ (fun hHeld => ?_)
           generalize (w8.drewN nd).drew = w10 at X9 H9' S9 B9 K9 T9 hHeld ⊢
           refine pure_ (i := 0) (N := (some 60)) (v := ?_) (a' := ?_) #[true, false, false, false, false, false, false, false, false, false] rfl rfl (by kernel_rfl) (fun _ _ _ h => h) (Or.inl ⟨by rfl, ?_⟩) ?_ ?_
           rotate_left
           ·intro w'
            go_simp
            with_reducible rfl
           rotate_left
           ·simp only [Act.put, List.setIfInBounds_toArray, List.set_cons_zero, List.set_cons_succ, i64_w, i32_w]
            rfl
           refine pure_ (i := 1) (N := (some 61)) (v := ?_) (a' := ?_) #[true, true, false, false, false, false, false, false, false, false] rfl rfl (by kernel_rfl) (fun _ _ _ h => h) (Or.inl ⟨by rfl, ?_⟩) ?_ ?_
           rotate_left
           ·intro w'
            go_simp
            with_reducible rfl
           rotate_left
           ·simp only [Act.put, List.setIfInBounds_toArray, List.set_cons_zero, List.set_cons_succ, i64_w, i32_w]
            rfl
           refine pure_ (i := 2) (N := (some 62)) (v := ?_) (a' := ?_) #[true, true, true, false, false, false, false, false, false, false] rfl rfl (by kernel_rfl) (fun _ _ _ h => h) (Or.inl ⟨by rfl, ?_⟩) ?_ ?_
           rotate_left
           ·intro w'
            go_simp
            with_reducible rfl
           rotate_left
           ·simp only [Act.put, List.setIfInBounds_toArray, List.set_cons_zero, List.set_cons_succ, i64_w, i32_w]
            rfl
           refine pure_ (i := 3) (N := (some 63)) (v := ?_) (a' := ?_) #[true, true, true, true, false, false, false, false, false, false] rfl rfl (by kernel_rfl) (fun _ _ _ h => h) (Or.inl ⟨by rfl, ?_⟩) ?_ ?_
           rotate_left
           ·intro w'
            go_simp
            with_reducible rfl
           rotate_left
           ·simp only [Act.put, List.setIfInBounds_toArray, List.set_cons_zero, List.set_cons_succ, i64_w, i32_w]
            rfl
           refine take_ (i := 4) (N := (some 64)) (v := ?_) (a' := ?_) #[true, true, true, true, true, false, false, false, false, false] rfl rfl (by kernel_rfl) (fun _ _ _ h => h) (Or.inl ⟨by rfl, ?_⟩) hHeld ?_ ?_
           rotate_left
           ·rintro w' ⟨s0, s1⟩
            go_simp
            with_reducible rfl
           rotate_left
           ·simp only [Act.put, List.setIfInBounds_toArray, List.set_cons_zero, List.set_cons_succ, i64_w, i32_w]
            rfl
           refine pure_ (i := 5) (N := (some 65)) (v := ?_) (a' := ?_) #[true, true, true, true, true, true, false, false, false, false] rfl rfl (by kernel_rfl) (fun _ _ _ h => h) (Or.inl ⟨by rfl, ?_⟩) ?_ ?_
           rotate_left
           ·intro w'
            go_simp
            with_reducible rfl
           rotate_left
           ·simp only [Act.put, List.setIfInBounds_toArray, List.set_cons_zero, List.set_cons_succ, i64_w, i32_w]
            rfl
           refine take_ (i := 6) (N := (some 66)) (v := ?_) (a' := ?_) #[true, true, true, true, true, true, true, false, false, false] rfl rfl (by kernel_rfl) (fun _ _ _ h => h) (Or.inl ⟨by rfl, ?_⟩) hHeld ?_ ?_
           rotate_left
           ·rintro w' ⟨s0, s1⟩
            go_simp
            with_reducible rfl
           rotate_left
           ·simp only [Act.put, List.setIfInBounds_toArray, List.set_cons_zero, List.set_cons_succ, i64_w, i32_w]
            rfl
           refine pure_ (i := 7) (N := (some 67)) (v := .int .i64 (bt (rdOf ByteArray.empty wsr 0) at_)) (a' := ?_) #[true, true, true, true, true, true, true, true, false, false] rfl rfl (by kernel_rfl) (fun _ _ _ h => h) (Or.inl ⟨by rfl, ?_⟩) ?_ ?_
           ·intro w'
            go_simp
            first | (rw [HW8.out]; done) | (rw [HW8.out]; rfl) | (rw [HW8'.out]; done) | (rw [HW8'.out]; rfl)
           rotate_left
           ·simp only [Act.put, List.setIfInBounds_toArray, List.set_cons_zero, List.set_cons_succ, i64_w, i32_w]
            rfl
           clear hrun
           refine one_ (i := 8) (N := (some 68)) #[true, true, true, true, true, true, true, true, true, false] rfl rfl (by kernel_rfl) (by decide) (fun K hK => ?_)
           refine goes_ Try.func38 (by kernel_rfl) rfl #[.pointer (some ⟨X, 0, none⟩), .slice (some ad) wk.length cr, .int .i64 (wrap64 (at_ + 1)), .int .i64 (bt (rdOf ByteArray.empty wsr 0) at_)] (by rfl) rfl rfl (by (try simp only [List.map_toArray, List.map_cons, List.map_nil]); first | done | rfl) ?_
           refine (IH.out k1 (by have := HK.out; omega) Lr wk (wrap64 (at_ + 1)) (bt (rdOf ByteArray.empty wsr 0) at_) L2 kid X vr (some ad) cr (fun q => wordlist_grow.okA b6 ok q ∧ q ≠ b10) w0 w10 X9.out HXB.out (fun h => wordlist_grow.okA_X N6.out.1 HOK.out X h.1 rfl) S9.out W9.out C9.out B9.out HF'.out).mono ?_
           rintro e w11 ⟨rfl, v2, x11, s11, k11, b11⟩
           refine ⟨_, rfl, ?_⟩
           have NB10 : b10 < w10.heap.size := blk_lt T9.out
           have N68 := N8.out
           have X11 := Lib.hid x11
           have S11 := Lib.hid (Kd.S_mono s11 (ok' := wordlist_grow.okA b6 ok) (fun q hq => hq.elim (fun h => h.1) (fun h => Or.inr (by omega))))
           have K11 := Lib.hid (K9.out.then_ k11 (fun q hq => hq.elim (fun h => Or.inl (Or.inl h)) (fun h => (wordlist_grow.okA_H (Nat.le_of_eq N6.out.2.1) q h.1).elim (fun h2 => Or.inl (Or.inr h2)) Or.inr)))
           have B11 := Lib.hid b11
           have H11 := Lib.hid (blk_kept H9'.out k11 (fun h => h.elim (fun e => absurd e (Nat.ne_of_gt N6.out.1)) (fun h2 => wordlist_grow.okA_b b6 h2.1 rfl)))
           have T11 := Lib.hid (blk_kept T9.out k11 (fun h => h.elim (fun e => absurd e (Nat.ne_of_gt N8'.out)) (fun h2 => h2.2 rfl)))
           refine hK.out _ _ ⟨(blk_cell H11.out 0).trans rfl, (blk_cell T11.out 0).trans rfl⟩ (fun hHeld => ?_)
           clear hK K x11 s11 k11 b11 X9 S9 K9 B9 H9' T9 T11 NB10 N68 HF' W9 C9
           refine norm_ (a' := ?_) ?_ ?_
           rotate_left
           ·show Act.put _ (some 68) _ = _
            simp only [Act.put, List.setIfInBounds_toArray, List.set_cons_zero, List.set_cons_succ, i64_w, i32_w]
            rfl
           refine pure_ (i := 9) (N := (some 12)) (v := ?_) (a' := ?_) #[true, true, true, true, true, true, true, true, true, true] rfl rfl (by kernel_rfl) (fun _ _ _ h => h) (Or.inl ⟨by rfl, ?_⟩) ?_ ?_
           rotate_left
           ·intro w'
            go_simp
            with_reducible rfl
           rotate_left
           ·simp only [Act.put, List.setIfInBounds_toArray, List.set_cons_zero, List.set_cons_succ, i64_w, i32_w]
            rfl
           refine done_ (by kernel_rfl) ?_
           clear hHeld
           go_wp2_with (fail)
           have X12 := Lib.hid (blk_drew X11.out); have H12 := Lib.hid (blk_drew H11.out); have S12 := Lib.hid (Kd.S_drew S11.out); have B12 := Lib.hid (below_drew1 B11.out); have K12 := Lib.hid K11.out.drew
           clear X11 H11 S11 B11 K11
           have h6 := C6.out
           obtain ⟨g, cg, eg, hg1, hg2, cl, hg3⟩ := Kd.S_form S12.out (by omega)
           subst eg
           obtain ⟨oki, ce, hcl, hM, hcc, hfr, hoki, hH⟩ := Kd.S_elem S12.out (⟨0, false, []⟩ : S46) (L.length : Int) (by omega) (by omega)
           obtain ⟨lf, hlf⟩ : ∃ lf, L2.getD L.length (⟨0, false, []⟩ : S46) = lf := ⟨_, rfl⟩
           rw [Int.toNat_natCast, hlf] at hM
           obtain ⟨vk, rfl, hR⟩ := k46_openM hM
           obtain ⟨Ak, ck, rfl⟩ := Kd.R_slice hR
           have hsz : k46.sz = 3 := rfl
           have hc2 := hcc 2 _ rfl
           rw [hsz] at hc2
           simp only [Int.toNat_natCast] at hc2
           have GB := Lib.hid hg1
           have NG := Lib.hid (show wordlist_grow.okA b6 ok g from (Kd.S_R S12.out).1 g rfl)
           have HRK := Lib.hid hR
           have HH := Lib.hid hH
           have HOI := Lib.hid hoki
           have LK := Lib.hid (show lf.f2.length ≤ 1000000 from by rw [← hlf]; exact h6.2)
           have H3e := Lib.hid (show wordlist_grow.l0 k1 (L2.set L.length (⟨lf.f0, lf.f1, lf.f2 ++ [kid]⟩ : S46)) wd at_ L.length = some (L', n) from by rw [← hlf]; exact H3d.out)
           clear hlf H3d hcc hfr hoki hH hR hcl hg1 hg2 hg3 cl
           have hj0 : (0 ≤ (L.length : Int)) = True := eq_true (by omega)
           have hj1 : ((L.length : Int) < (L2.length : Int)) = True := eq_true (by omega)
           clear h6
           refine start_ (n := 17) (S := fun w' => w'.cell? ⟨X, 0, none⟩ = some (.slice (some ⟨g, 0, none⟩) L2.length cg) ∧ w'.cell? ⟨g, L.length * 3 + 2, none⟩ = some (.slice Ak lf.f2.length ck)) (ds := [16]) #[false, false, false, false, false, false, false, false, false, false, false, false, false, false, false, false, false] (by kernel_rfl) rfl rfl ⟨(blk_cell X12.out 0).trans rfl, hc2⟩ (fun hHeld => ?_)
           have X13 := X12; have H13 := H12; have S13 := S12; have B13 := B12; have K13 := K12; have HRK3 := HRK; have HH3 := HH
           clear X12 H12 S12 B12 K12 HRK HH hc2
           generalize w11.drew = w12 at X13 H13 S13 B13 K13 HRK3 HH3 hHeld ⊢
           refine pure_ (i := 0) (N := (some 69)) (v := ?_) (a' := ?_) #[true, false, false, false, false, false, false, false, false, false, false, false, false, false, false, false, false] rfl rfl (by kernel_rfl) (fun _ _ _ h => h) (Or.inl ⟨by rfl, ?_⟩) ?_ ?_
           rotate_left
           ·intro w'
            go_simp
            with_reducible rfl
           rotate_left
           ·simp only [Act.put, List.setIfInBounds_toArray, List.set_cons_zero, List.set_cons_succ, i64_w, i32_w]
            rfl
           refine pure_ (i := 1) (N := (some 70)) (v := ?_) (a' := ?_) #[true, true, false, false, false, false, false, false, false, false, false, false, false, false, false, false, false] rfl rfl (by kernel_rfl) (fun _ _ _ h => h) (Or.inl ⟨by rfl, ?_⟩) ?_ ?_
           rotate_left
           ·intro w'
            go_simp
            with_reducible rfl
           rotate_left
           ·simp only [Act.put, List.setIfInBounds_toArray, List.set_cons_zero, List.set_cons_succ, i64_w, i32_w]
            rfl
           refine take_ (i := 2) (N := (some 71)) (v := ?_) (a' := ?_) #[true, true, true, false, false, false, false, false, false, false, false, false, false, false, false, false, false] rfl rfl (by kernel_rfl) (fun _ _ _ h => h) (Or.inl ⟨by rfl, ?_⟩) hHeld ?_ ?_
           rotate_left
           ·rintro w' ⟨s0, s1⟩
            go_simp
            with_reducible rfl
           rotate_left
           ·simp only [Act.put, List.setIfInBounds_toArray, List.set_cons_zero, List.set_cons_succ, i64_w, i32_w]
            rfl
           refine pure_ (i := 3) (N := (some 72)) (v := ?_) (a' := ?_) #[true, true, true, true, false, false, false, false, false, false, false, false, false, false, false, false, false] rfl rfl (by kernel_rfl) (fun _ _ _ h => h) (Or.inl ⟨by rfl, ?_⟩) ?_ ?_
           rotate_left
           ·intro w'
            go_simp
            with_reducible rfl
           rotate_left
           ·simp only [Act.put, List.setIfInBounds_toArray, List.set_cons_zero, List.set_cons_succ, i64_w, i32_w]
            rfl
           refine pure_ (i := 4) (N := (some 73)) (v := ?_) (a' := ?_) #[true, true, true, true, true, false, false, false, false, false, false, false, false, false, false, false, false] rfl rfl (by kernel_rfl) (fun _ _ _ h => h) (Or.inl ⟨by rfl, ?_⟩) ?_ ?_
           rotate_left
           ·intro w'
            go_simp
            with_reducible rfl
           rotate_left
           ·simp only [Act.put, List.setIfInBounds_toArray, List.set_cons_zero, List.set_cons_succ, i64_w, i32_w]
            rfl
           refine pure_ (i := 5) (N := (some 74)) (v := ?_) (a' := ?_) #[true, true, true, true, true, true, false, false, false, false, false, false, false, false, false, false, false] rfl rfl (by kernel_rfl) (fun _ _ _ h => h) (Or.inl ⟨by rfl, ?_⟩) ?_ ?_
           rotate_left
           ·intro w'
            go_simp
            with_reducible rfl
           rotate_left
           ·simp only [Act.put, List.setIfInBounds_toArray, List.set_cons_zero, List.set_cons_succ, i64_w, i32_w]
            rfl
           refine take_ (i := 6) (N := (some 75)) (v := ?_) (a' := ?_) #[true, true, true, true, true, true, true, false, false, false, false, false, false, false, false, false, false] rfl rfl (by kernel_rfl) (fun _ _ _ h => h) (Or.inl ⟨by rfl, ?_⟩) hHeld ?_ ?_
           rotate_left
           ·rintro w' ⟨s0, s1⟩
            go_simp
            with_reducible rfl
           rotate_left
           ·simp only [Act.put, List.setIfInBounds_toArray, List.set_cons_zero, List.set_cons_succ, i64_w, i32_w]
            rfl
           refine pure_ (i := 7) (N := (some 76)) (v := ?_) (a' := ?_) #[true, true, true, true, true, true, true, true, false, false, false, false, false, false, false, false, false] rfl rfl (by kernel_rfl) (fun _ _ _ h => h) (Or.inl ⟨by rfl, ?_⟩) ?_ ?_
           rotate_left
           ·intro w'
            go_simp
            with_reducible rfl
           rotate_left
           ·simp only [Act.put, List.setIfInBounds_toArray, List.set_cons_zero, List.set_cons_succ, i64_w, i32_w]
            rfl
           refine pure_ (i := 8) (N := (some 77)) (v := ?_) (a' := ?_) #[true, true, true, true, true, true, true, true, true, false, false, false, false, false, false, false, false] rfl rfl (by kernel_rfl) (fun _ _ _ h => h) (Or.inl ⟨by rfl, ?_⟩) ?_ ?_
           rotate_left
           ·intro w'
            go_simp
            with_reducible rfl
           rotate_left
           ·simp only [Act.put, List.setIfInBounds_toArray, List.set_cons_zero, List.set_cons_succ, i64_w, i32_w]
            rfl
           refine pure_ (i := 9) (N := (some 78)) (v := ?_) (a' := ?_) #[true, true, true, true, true, true, true, true, true, true, false, false, false, false, false, false, false] rfl rfl (by kernel_rfl) (fun _ _ _ h => h) (Or.inl ⟨by rfl, ?_⟩) ?_ ?_
           rotate_left
           ·intro w'
            go_simp
            with_reducible rfl
           rotate_left
           ·simp only [Act.put, List.setIfInBounds_toArray, List.set_cons_zero, List.set_cons_succ, i64_w, i32_w]
            rfl
           refine take_ (i := 10) (N := (some 79)) (v := ?_) (a' := ?_) #[true, true, true, true, true, true, true, true, true, true, true, false, false, false, false, false, false] rfl rfl (by kernel_rfl) (fun _ _ _ h => h) (Or.inl ⟨by rfl, ?_⟩) hHeld ?_ ?_
           rotate_left
           ·rintro w' ⟨s0, s1⟩
            go_simp
            with_reducible rfl
           rotate_left
           ·simp only [Act.put, List.setIfInBounds_toArray, List.set_cons_zero, List.set_cons_succ, i64_w, i32_w]
            rfl
           refine pure_ (i := 11) (N := (some 80)) (v := ?_) (a' := ?_) #[true, true, true, true, true, true, true, true, true, true, true, true, false, false, false, false, false] rfl rfl (by kernel_rfl) (fun _ _ _ h => h) (Or.inl ⟨by rfl, ?_⟩) ?_ ?_
           rotate_left
           ·intro w'
            go_simp
            with_reducible rfl
           rotate_left
           ·simp only [Act.put, List.setIfInBounds_toArray, List.set_cons_zero, List.set_cons_succ, i64_w, i32_w]
            rfl
           have hX12 := hHeld.1; have hG12 := hHeld.2
           refine one_ (i := 12) (N := (some 81)) #[true, true, true, true, true, true, true, true, true, true, true, true, true, false, false, false, false] rfl rfl (by kernel_rfl) (by decide) (fun K hK => ?_)
           refine value_ (w1 := ?_) (v := ?_) (by rfl) rfl ?_ ?_
           rotate_left 2
           ·go_simp
            constructor
            ·rfl
            ·rfl
           refine hK.out _ _ ⟨(World.cell?_alloc_lt _ _ _ (World.block_lt_of_cell? _ _ hHeld.1)).trans hHeld.1, (World.cell?_alloc_lt _ _ _ (World.block_lt_of_cell? _ _ hHeld.2)).trans hHeld.2⟩ (fun hHeld => ?_)
           clear hK K
           refine norm_ (a' := ?_) ?_ ?_
           rotate_left
           ·show Act.put _ (some 81) _ = _
            simp only [Act.put, List.setIfInBounds_toArray, List.set_cons_zero, List.set_cons_succ, i64_w, i32_w]
            rfl
           refine one_ (i := 13) (N := (some 82)) #[true, true, true, true, true, true, true, true, true, true, true, true, true, true, false, false, false] rfl rfl (by kernel_rfl) (by decide) (fun K hK => ?_)
           refine Kd.R_append_step (Kd.int .i64) (w0 := w0) w0.heap.size (by rfl) (.tmp 79) (.tmp 81) 44 3 (.int .i64 0) 8 rfl Try.underlying44 info3 rfl (by decide) (by omega) (.slice Ak lf.f2.length ck) lf.f2 kid [.int .i64 kid] (fun q => oki q ∨ (wordlist_grow.okA b6 ok q ∧ w12.heap.size ≤ q)) (fun _ => False) rfl rfl ?aP (fun _ hk => hk.elim) ?aF ?aO ?aB ?aS ?aL ?_
           (case aP => exact rfl)
           (case aF => exact fun q hq => Or.inr ⟨Or.inr (by have := blk_lt H13.out; omega), hq⟩)
           (case aO => exact Kd.R_mono HRK3.out (fun _ hk => .inl hk))
           (case aB => exact B13.out)
           (case aS => exact B13.out.size)
           (case aL => have := LK.out; omega)
           intro v1 w13 ho hb hg hat
           have hown : ∀ q, (Value.slice Ak lf.f2.length ck).ownBlock = some q → wordlist_grow.okA b6 ok q ∧ q ≠ g := fun q hq => HOI.out q (HRK3.out.1 q hq)
           have nX : some X ≠ (Value.slice Ak lf.f2.length ck).ownBlock := fun e => wordlist_grow.okA_X N6.out.1 HOK.out X (hown X e.symm).1 rfl
           have nb : some b6 ≠ (Value.slice Ak lf.f2.length ck).ownBlock := fun e => wordlist_grow.okA_b b6 (hown b6 e.symm).1 rfl
           have ng : some g ≠ (Value.slice Ak lf.f2.length ck).ownBlock := fun e => (hown g e.symm).2 rfl
           have X14 := Lib.hid (blk_grown X13.out hg nX)
           have H14 := Lib.hid (blk_grown H13.out hg nb)
           have hX14 := cell_grown hg hX12 nX
           have hG14 := cell_grown hg hG12 ng
           have B14 := Lib.hid hb
           have K14 := Lib.hid (Kept.of_grown hg K13.out (fun q hq => (wordlist_grow.okA_H (Nat.le_of_eq N6.out.2.1) q (hown q hq).1).elim (fun h2 => Or.inl (Or.inr h2)) Or.inr))
           have HH14 := Lib.hid (Kd.H_grown (Kd.H_widen HH3.out) hg (fun q e => .inl (HRK3.out.1 q e)))
           have NL := C6.out.1
           obtain ⟨hcc14, hfr14⟩ := Kd.H_at HH14.out (by omega) (by omega)
           obtain ⟨A3, c3, rfl⟩ := Kd.R_slice ho
           have hc14 := hcc14 2 _ rfl
           have hf14 := hfr14 2
           rw [hsz] at hc14 hf14
           simp only [Int.toNat_natCast] at hc14 hf14
           have HP := Kd.S_seg0 HH14.out (by omega) (by omega) (seg := [.slice A3 (lf.f2 ++ [kid]).length c3]) (j := 2) (Nat.le_refl 3) (x' := (⟨lf.f0, lf.f1, lf.f2 ++ [kid]⟩ : S46)) (k46_mkM _ _ _ (⟨lf.f0, lf.f1, lf.f2 ++ [kid]⟩ : S46) ho) (fun _ hk => hk)
           rw [hsz, Int.toNat_natCast] at HP
           have P1 := Lib.hid HP.1
           clear HP hcc14 hfr14 ho hb hg hat hown nX nb ng HH3 HRK3 S13 B13 K13 X13 H13 HH14 hX12 hG12
           rw [List.length_append, List.length_singleton] at P1 ⊢
           refine hK.out _ _ ⟨hX14, hG14⟩ (fun hHeld => ?_)
           clear hK K
           refine norm_ (a' := ?_) ?_ ?_
           rotate_left
           ·show Act.put _ (some 82) _ = _
            simp only [Act.put, List.setIfInBounds_toArray, List.set_cons_zero, List.set_cons_succ, i64_w, i32_w]
            rfl
           refine pure_ (i := 14) (N := (some 83)) (v := ?_) (a' := ?_) #[true, true, true, true, true, true, true, true, true, true, true, true, true, true, true, false, false] rfl rfl (by kernel_rfl) (fun _ _ _ h => h) (Or.inl ⟨by rfl, ?_⟩) ?_ ?_
           rotate_left
           ·intro w'
            go_simp
            with_reducible rfl
           rotate_left
           ·simp only [Act.put, List.setIfInBounds_toArray, List.set_cons_zero, List.set_cons_succ, i64_w, i32_w]
            rfl
           refine pure_ (i := 15) (N := (some 84)) (v := ?_) (a' := ?_) #[true, true, true, true, true, true, true, true, true, true, true, true, true, true, true, true, false] rfl rfl (by kernel_rfl) (fun _ _ _ h => h) (Or.inl ⟨by rfl, ?_⟩) ?_ ?_
           rotate_left
           ·intro w'
            go_simp
            with_reducible rfl
           rotate_left
           ·simp only [Act.put, List.setIfInBounds_toArray, List.set_cons_zero, List.set_cons_succ, i64_w, i32_w]
            rfl
           clear hX14 hG14
           refine last_ (i := 16) (N := none) #[true, true, true, true, true, true, true, true, true, true, true, true, true, true, true, true, true] rfl rfl (by kernel_rfl) (by decide) (fun K hK => ?_)
           refine skip_ (w1 := ?_) (by rfl) rfl ?_ ?_
           rotate_left
           ·go_simp
            rfl
           refine hK.out _ _ ?_
           clear hK K
           refine done_ (by kernel_rfl) ?_
           clear hHeld hc14 hf14
           have X15 := Lib.hid (blk_far X14.out (p := ⟨g, L.length * 3 + 2, none⟩) (wordlist_grow.okA_X N6.out.1 HOK.out g NG.out).symm (.slice A3 (lf.f2.length + 1) c3))
           have H15 := Lib.hid (blk_far H14.out (p := ⟨g, L.length * 3 + 2, none⟩) (wordlist_grow.okA_b g NG.out).symm (.slice A3 (lf.f2.length + 1) c3))
           have S15 := Lib.hid (show Kd.S k46 46 (w13.setCell ⟨g, L.length * 3 + 2, none⟩ (.slice A3 (lf.f2.length + 1) c3)) w0.heap.size (wordlist_grow.okA b6 ok) _ _ from P1.out)
           have B15 := Lib.hid (below_set B14.out GB.out (j := L.length * 3 + 2) (v := .slice A3 (lf.f2.length + 1) c3))
           have K15 := Lib.hid (K14.out.setCell (p := ⟨g, L.length * 3 + 2, none⟩) ((wordlist_grow.okA_H (Nat.le_of_eq N6.out.2.1) g NG.out).elim (fun h => Or.inl (Or.inr h)) Or.inr) (.slice A3 (lf.f2.length + 1) c3))
           clear X14 H14 P1 B14 K14
           generalize w13.setCell ⟨g, L.length * 3 + 2, none⟩ (.slice A3 (lf.f2.length + 1) c3) = w15 at X15 H15 S15 B15 K15 ⊢
           have hrun2 := HRUN2.out
           go_wp2_with (fail)
           go_roundg k1
           case measure => have := HK.out; omega
           case rel => exact ⟨_, wd, Ad, cd, _, rfl, H3e, Lib.hid (by have := HK.out; omega), X15, H15, S15, WD, CD, B15, K15⟩
          ·have HC7 := Lib.hid c7
           have b7 : decide (r < 0) = false := decide_eq_false c7
           clear c7
           go_wp2_with (fail)
           have X9 := Lib.hid (blk_drew (blk_drewN X8.out nd)); have H9' := Lib.hid (blk_drew (blk_drewN H8.out nd)); have S9 := Lib.hid (Kd.S_drew (Kd.S_drewN S8.out nd)); have B9 := Lib.hid (below_drew1 (pw_below_drewN B8.out nd)); have K9 := Lib.hid ((K8.out.drewN nd).drew); have T9 := Lib.hid (blk_drew (blk_drewN T8.out nd))
           clear X8 H8 S8 B8 K8 T8
           obtain ⟨i9, hi9, _, hs9, _⟩ := info_parts info9
           have hk0 : 0 ≤ r := by have := HC7.out; omega
           have hk1 : r ≤ (wsr.length : Int) := by have := C5.out; omega
           obtain ⟨hrun, hrd, hcd⟩ := print_take_of (P := Try.prog) Value.string ByteArray.empty 24 9 .i64 Try.underlying24 hi9 hs9 (some ad) cr wsr r hk0 hk1 CR.out
           obtain ⟨Ad, hrun2, hrd2, hcd2⟩ := print_drop_of (P := Try.prog) Value.string ByteArray.empty 24 9 .i64 Try.underlying24 hi9 hs9 (some ad) cr wsr r hk0 hk1 CR.out
           have W9 := Lib.hid (show Kd.string.C w0 (some ad) (wsr.take (r).toNat).length (wsr.take (r).toNat) from Kd.C_of_reads (hrd w0 (Kd.reads_of_C WR.out)))
           have C9 := Lib.hid hcd
           have WD := Lib.hid (show Kd.string.C w0 Ad (wsr.drop (r).toNat).length (wsr.drop (r).toNat) from Kd.C_of_reads (hrd2 w0 (Kd.reads_of_C WR.out)))
           have CD := Lib.hid hcd2
           have HF' := Lib.hid (show wordlist_grow.f k1 Lr (wsr.take (r).toNat) (wrap64 (at_ + 1)) (bt (rdOf ByteArray.empty wsr 0) at_) = some (L2, kid) from by have h := HF.out; rw [if_neg (Int.not_lt.2 HC7.out)] at h; exact h)
           have H3d := Lib.hid (show wordlist_grow.l0 k1 (L2.set L.length ⟨(L2.getD L.length ⟨0, false, []⟩).f0, (L2.getD L.length ⟨0, false, []⟩).f1, (L2.getD L.length ⟨0, false, []⟩).f2 ++ [kid]⟩) (wsr.drop (r).toNat) at_ L.length = some (L', n) from by have h := H3'.out; rw [if_neg (Int.not_lt.2 HC7.out)] at h; exact h)
           clear hrd hcd hrd2 hcd2 HF H3' hi9 hs9 hk0 hk1
           generalize wsr.take (r).toNat = wk at hrun W9 C9 HF'
           generalize wsr.drop (r).toNat = wd at hrun2 WD CD H3d
           generalize cr - (r).toNat = cd at hrun2 CD
           have hbr := bt_range (rdOf ByteArray.empty wsr 0) at_
           have hw8 : (wrap64 (bt (rdOf ByteArray.empty wsr 0) at_)) = (bt (rdOf ByteArray.empty wsr 0) at_) := by unfold wrap64; omega
           have hw8' : (IntKind.i64.wrap (bt (rdOf ByteArray.empty wsr 0) at_)) = (bt (rdOf ByteArray.empty wsr 0) at_) := (i64_w _).trans hw8
           have HW8 := Lib.hid hw8; have HW8' := Lib.hid hw8'; have HBR := Lib.hid hbr
           clear hw8 hw8' hbr
           have HRUN2 := Lib.hid hrun2
           clear hrun2
           refine start_ (n := 10) (S := fun w' => w'.cell? ⟨b6, 0, none⟩ = some (.int .i64 at_) ∧ w'.cell? ⟨b10, 0, none⟩ = some (.int .u8 (bt (rdOf ByteArray.empty wsr 0) at_))) (ds := [9]) #[false, false, false, false, false, false, false, false, false, false] (by kernel_rfl) rfl rfl ⟨(blk_cell H9'.out 0).trans rfl, (blk_cell T9.out 0).trans rfl⟩ (fun hHeld => ?_)
           generalize (w8.drewN nd).drew = w10 at X9 H9' S9 B9 K9 T9 hHeld ⊢
           refine pure_ (i := 0) (N := (some 60)) (v := ?_) (a' := ?_) #[true, false, false, false, false, false, false, false, false, false] rfl rfl (by kernel_rfl) (fun _ _ _ h => h) (Or.inl ⟨by rfl, ?_⟩) ?_ ?_
           rotate_left
           ·intro w'
            go_simp
            with_reducible rfl
           rotate_left
           ·simp only [Act.put, List.setIfInBounds_toArray, List.set_cons_zero, List.set_cons_succ, i64_w, i32_w]
            rfl
           refine pure_ (i := 1) (N := (some 61)) (v := ?_) (a' := ?_) #[true, true, false, false, false, false, false, false, false, false] rfl rfl (by kernel_rfl) (fun _ _ _ h => h) (Or.inl ⟨by rfl, ?_⟩) ?_ ?_
           rotate_left
           ·intro w'
            go_simp
            with_reducible rfl
           rotate_left
           ·simp only [Act.put, List.setIfInBounds_toArray, List.set_cons_zero, List.set_cons_succ, i64_w, i32_w]
            rfl
           refine pure_ (i := 2) (N := (some 62)) (v := ?_) (a' := ?_) #[true, true, true, false, false, false, false, false, false, false] rfl rfl (by kernel_rfl) (fun _ _ _ h => h) (Or.inl ⟨by rfl, ?_⟩) ?_ ?_
           rotate_left
           ·intro w'
            go_simp
            with_reducible rfl
           rotate_left
           ·simp only [Act.put, List.setIfInBounds_toArray, List.set_cons_zero, List.set_cons_succ, i64_w, i32_w]
            rfl
           refine pure_ (i := 3) (N := (some 63)) (v := ?_) (a' := ?_) #[true, true, true, true, false, false, false, false, false, false] rfl rfl (by kernel_rfl) (fun _ _ _ h => h) (Or.inl ⟨by rfl, ?_⟩) ?_ ?_
           rotate_left
           ·intro w'
            go_simp
            with_reducible rfl
           rotate_left
           ·simp only [Act.put, List.setIfInBounds_toArray, List.set_cons_zero, List.set_cons_succ, i64_w, i32_w]
            rfl
           refine take_ (i := 4) (N := (some 64)) (v := ?_) (a' := ?_) #[true, true, true, true, true, false, false, false, false, false] rfl rfl (by kernel_rfl) (fun _ _ _ h => h) (Or.inl ⟨by rfl, ?_⟩) hHeld ?_ ?_
           rotate_left
           ·rintro w' ⟨s0, s1⟩
            go_simp
            with_reducible rfl
           rotate_left
           ·simp only [Act.put, List.setIfInBounds_toArray, List.set_cons_zero, List.set_cons_succ, i64_w, i32_w]
            rfl
           refine pure_ (i := 5) (N := (some 65)) (v := ?_) (a' := ?_) #[true, true, true, true, true, true, false, false, false, false] rfl rfl (by kernel_rfl) (fun _ _ _ h => h) (Or.inl ⟨by rfl, ?_⟩) ?_ ?_
           rotate_left
           ·intro w'
            go_simp
            with_reducible rfl
           rotate_left
           ·simp only [Act.put, List.setIfInBounds_toArray, List.set_cons_zero, List.set_cons_succ, i64_w, i32_w]
            rfl
           refine take_ (i := 6) (N := (some 66)) (v := ?_) (a' := ?_) #[true, true, true, true, true, true, true, false, false, false] rfl rfl (by kernel_rfl) (fun _ _ _ h => h) (Or.inl ⟨by rfl, ?_⟩) hHeld ?_ ?_
           rotate_left
           ·rintro w' ⟨s0, s1⟩
            go_simp
            with_reducible rfl
           rotate_left
           ·simp only [Act.put, List.setIfInBounds_toArray, List.set_cons_zero, List.set_cons_succ, i64_w, i32_w]
            rfl
           refine pure_ (i := 7) (N := (some 67)) (v := .int .i64 (bt (rdOf ByteArray.empty wsr 0) at_)) (a' := ?_) #[true, true, true, true, true, true, true, true, false, false] rfl rfl (by kernel_rfl) (fun _ _ _ h => h) (Or.inl ⟨by rfl, ?_⟩) ?_ ?_
           ·intro w'
            go_simp
            first | (rw [HW8.out]; done) | (rw [HW8.out]; rfl) | (rw [HW8'.out]; done) | (rw [HW8'.out]; rfl)
           rotate_left
           ·simp only [Act.put, List.setIfInBounds_toArray, List.set_cons_zero, List.set_cons_succ, i64_w, i32_w]
            rfl
           clear hrun
           refine one_ (i := 8) (N := (some 68)) #[true, true, true, true, true, true, true, true, true, false] rfl rfl (by kernel_rfl) (by decide) (fun K hK => ?_)
           refine goes_ Try.func38 (by kernel_rfl) rfl #[.pointer (some ⟨X, 0, none⟩), .slice (some ad) wk.length cr, .int .i64 (wrap64 (at_ + 1)), .int .i64 (bt (rdOf ByteArray.empty wsr 0) at_)] (by rfl) rfl rfl (by (try simp only [List.map_toArray, List.map_cons, List.map_nil]); first | done | rfl) ?_
           refine (IH.out k1 (by have := HK.out; omega) Lr wk (wrap64 (at_ + 1)) (bt (rdOf ByteArray.empty wsr 0) at_) L2 kid X vr (some ad) cr (fun q => wordlist_grow.okA b6 ok q ∧ q ≠ b10) w0 w10 X9.out HXB.out (fun h => wordlist_grow.okA_X N6.out.1 HOK.out X h.1 rfl) S9.out W9.out C9.out B9.out HF'.out).mono ?_
           rintro e w11 ⟨rfl, v2, x11, s11, k11, b11⟩
           refine ⟨_, rfl, ?_⟩
           have NB10 : b10 < w10.heap.size := blk_lt T9.out
           have N68 := N8.out
           have X11 := Lib.hid x11
           have S11 := Lib.hid (Kd.S_mono s11 (ok' := wordlist_grow.okA b6 ok) (fun q hq => hq.elim (fun h => h.1) (fun h => Or.inr (by omega))))
           have K11 := Lib.hid (K9.out.then_ k11 (fun q hq => hq.elim (fun h => Or.inl (Or.inl h)) (fun h => (wordlist_grow.okA_H (Nat.le_of_eq N6.out.2.1) q h.1).elim (fun h2 => Or.inl (Or.inr h2)) Or.inr)))
           have B11 := Lib.hid b11
           have H11 := Lib.hid (blk_kept H9'.out k11 (fun h => h.elim (fun e => absurd e (Nat.ne_of_gt N6.out.1)) (fun h2 => wordlist_grow.okA_b b6 h2.1 rfl)))
           have T11 := Lib.hid (blk_kept T9.out k11 (fun h => h.elim (fun e => absurd e (Nat.ne_of_gt N8'.out)) (fun h2 => h2.2 rfl)))
           refine hK.out _ _ ⟨(blk_cell H11.out 0).trans rfl, (blk_cell T11.out 0).trans rfl⟩ (fun hHeld => ?_)
           clear hK K x11 s11 k11 b11 X9 S9 K9 B9 H9' T9 T11 NB10 N68 HF' W9 C9
           refine norm_ (a' := ?_) ?_ ?_
           rotate_left
           ·show Act.put _ (some 68) _ = _
            simp only [Act.put, List.setIfInBounds_toArray, List.set_cons_zero, List.set_cons_succ, i64_w, i32_w]
            rfl
           refine pure_ (i := 9) (N := (some 12)) (v := ?_) (a' := ?_) #[true, true, true, true, true, true, true, true, true, true] rfl rfl (by kernel_rfl) (fun _ _ _ h => h) (Or.inl ⟨by rfl, ?_⟩) ?_ ?_
           rotate_left
           ·intro w'
            go_simp
            with_reducible rfl
           rotate_left
           ·simp only [Act.put, List.setIfInBounds_toArray, List.set_cons_zero, List.set_cons_succ, i64_w, i32_w]
            rfl
           refine done_ (by kernel_rfl) ?_
           clear hHeld
           go_wp2_with (fail)
           have X12 := Lib.hid (blk_drew X11.out); have H12 := Lib.hid (blk_drew H11.out); have S12 := Lib.hid (Kd.S_drew S11.out); have B12 := Lib.hid (below_drew1 B11.out); have K12 := Lib.hid K11.out.drew
           clear X11 H11 S11 B11 K11
           have h6 := C6.out
           obtain ⟨g, cg, eg, hg1, hg2, cl, hg3⟩ := Kd.S_form S12.out (by omega)
           subst eg
           obtain ⟨oki, ce, hcl, hM, hcc, hfr, hoki, hH⟩ := Kd.S_elem S12.out (⟨0, false, []⟩ : S46) (L.length : Int) (by omega) (by omega)
           obtain ⟨lf, hlf⟩ : ∃ lf, L2.getD L.length (⟨0, false, []⟩ : S46) = lf := ⟨_, rfl⟩
           rw [Int.toNat_natCast, hlf] at hM
           obtain ⟨vk, rfl, hR⟩ := k46_openM hM
           obtain ⟨Ak, ck, rfl⟩ := Kd.R_slice hR
           have hsz : k46.sz = 3 := rfl
           have hc2 := hcc 2 _ rfl
           rw [hsz] at hc2
           simp only [Int.toNat_natCast] at hc2
           have GB := Lib.hid hg1
           have NG := Lib.hid (show wordlist_grow.okA b6 ok g from (Kd.S_R S12.out).1 g rfl)
           have HRK := Lib.hid hR
           have HH := Lib.hid hH
           have HOI := Lib.hid hoki
           have LK := Lib.hid (show lf.f2.length ≤ 1000000 from by rw [← hlf]; exact h6.2)
           have H3e := Lib.hid (show wordlist_grow.l0 k1 (L2.set L.length (⟨lf.f0, lf.f1, lf.f2 ++ [kid]⟩ : S46)) wd at_ L.length = some (L', n) from by rw [← hlf]; exact H3d.out)
           clear hlf H3d hcc hfr hoki hH hR hcl hg1 hg2 hg3 cl
           have hj0 : (0 ≤ (L.length : Int)) = True := eq_true (by omega)
           have hj1 : ((L.length : Int) < (L2.length : Int)) = True := eq_true (by omega)
           clear h6
           refine start_ (n := 17) (S := fun w' => w'.cell? ⟨X, 0, none⟩ = some (.slice (some ⟨g, 0, none⟩) L2.length cg) ∧ w'.cell? ⟨g, L.length * 3 + 2, none⟩ = some (.slice Ak lf.f2.length ck)) (ds := [16]) #[false, false, false, false, false, false, false, false, false, false, false, false, false, false, false, false, false] (by kernel_rfl) rfl rfl ⟨(blk_cell X12.out 0).trans rfl, hc2⟩ (fun hHeld => ?_)
           have X13 := X12; have H13 := H12; have S13 := S12; have B13 := B12; have K13 := K12; have HRK3 := HRK; have HH3 := HH
           clear X12 H12 S12 B12 K12 HRK HH hc2
           generalize w11.drew = w12 at X13 H13 S13 B13 K13 HRK3 HH3 hHeld ⊢
           refine pure_ (i := 0) (N := (some 69)) (v := ?_) (a' := ?_) #[true, false, false, false, false, false, false, false, false, false, false, false, false, false, false, false, false] rfl rfl (by kernel_rfl) (fun _ _ _ h => h) (Or.inl ⟨by rfl, ?_⟩) ?_ ?_
           rotate_left
           ·intro w'
            go_simp
            with_reducible rfl
           rotate_left
           ·simp only [Act.put, List.setIfInBounds_toArray, List.set_cons_zero, List.set_cons_succ, i64_w, i32_w]
            rfl
           refine pure_ (i := 1) (N := (some 70)) (v := ?_) (a' := ?_) #[true, true, false, false, false, false, false, false, false, false, false, false, false, false, false, false, false] rfl rfl (by kernel_rfl) (fun _ _ _ h => h) (Or.inl ⟨by rfl, ?_⟩) ?_ ?_
           rotate_left
           ·intro w'
            go_simp
            with_reducible rfl
           rotate_left
           ·simp only [Act.put, List.setIfInBounds_toArray, List.set_cons_zero, List.set_cons_succ, i64_w, i32_w]
            rfl
           refine take_ (i := 2) (N := (some 71)) (v := ?_) (a' := ?_) #[true, true, true, false, false, false, false, false, false, false, false, false, false, false, false, false, false] rfl rfl (by kernel_rfl) (fun _ _ _ h => h) (Or.inl ⟨by rfl, ?_⟩) hHeld ?_ ?_
           rotate_left
           ·rintro w' ⟨s0, s1⟩
            go_simp
            with_reducible rfl
           rotate_left
           ·simp only [Act.put, List.setIfInBounds_toArray, List.set_cons_zero, List.set_cons_succ, i64_w, i32_w]
            rfl
           refine pure_ (i := 3) (N := (some 72)) (v := ?_) (a' := ?_) #[true, true, true, true, false, false, false, false, false, false, false, false, false, false, false, false, false] rfl rfl (by kernel_rfl) (fun _ _ _ h => h) (Or.inl ⟨by rfl, ?_⟩) ?_ ?_
           rotate_left
           ·intro w'
            go_simp
            with_reducible rfl
           rotate_left
           ·simp only [Act.put, List.setIfInBounds_toArray, List.set_cons_zero, List.set_cons_succ, i64_w, i32_w]
            rfl
           refine pure_ (i := 4) (N := (some 73)) (v := ?_) (a' := ?_) #[true, true, true, true, true, false, false, false, false, false, false, false, false, false, false, false, false] rfl rfl (by kernel_rfl) (fun _ _ _ h => h) (Or.inl ⟨by rfl, ?_⟩) ?_ ?_
           rotate_left
           ·intro w'
            go_simp
            with_reducible rfl
           rotate_left
           ·simp only [Act.put, List.setIfInBounds_toArray, List.set_cons_zero, List.set_cons_succ, i64_w, i32_w]
            rfl
           refine pure_ (i := 5) (N := (some 74)) (v := ?_) (a' := ?_) #[true, true, true, true, true, true, false, false, false, false, false, false, false, false, false, false, false] rfl rfl (by kernel_rfl) (fun _ _ _ h => h) (Or.inl ⟨by rfl, ?_⟩) ?_ ?_
           rotate_left
           ·intro w'
            go_simp
            with_reducible rfl
           rotate_left
           ·simp only [Act.put, List.setIfInBounds_toArray, List.set_cons_zero, List.set_cons_succ, i64_w, i32_w]
            rfl
           refine take_ (i := 6) (N := (some 75)) (v := ?_) (a' := ?_) #[true, true, true, true, true, true, true, false, false, false, false, false, false, false, false, false, false] rfl rfl (by kernel_rfl) (fun _ _ _ h => h) (Or.inl ⟨by rfl, ?_⟩) hHeld ?_ ?_
           rotate_left
           ·rintro w' ⟨s0, s1⟩
            go_simp
            with_reducible rfl
           rotate_left
           ·simp only [Act.put, List.setIfInBounds_toArray, List.set_cons_zero, List.set_cons_succ, i64_w, i32_w]
            rfl
           refine pure_ (i := 7) (N := (some 76)) (v := ?_) (a' := ?_) #[true, true, true, true, true, true, true, true, false, false, false, false, false, false, false, false, false] rfl rfl (by kernel_rfl) (fun _ _ _ h => h) (Or.inl ⟨by rfl, ?_⟩) ?_ ?_
           rotate_left
           ·intro w'
            go_simp
            with_reducible rfl
           rotate_left
           ·simp only [Act.put, List.setIfInBounds_toArray, List.set_cons_zero, List.set_cons_succ, i64_w, i32_w]
            rfl
           refine pure_ (i := 8) (N := (some 77)) (v := ?_) (a' := ?_) #[true, true, true, true, true, true, true, true, true, false, false, false, false, false, false, false, false] rfl rfl (by kernel_rfl) (fun _ _ _ h => h) (Or.inl ⟨by rfl, ?_⟩) ?_ ?_
           rotate_left
           ·intro w'
            go_simp
            with_reducible rfl
           rotate_left
           ·simp only [Act.put, List.setIfInBounds_toArray, List.set_cons_zero, List.set_cons_succ, i64_w, i32_w]
            rfl
           refine pure_ (i := 9) (N := (some 78)) (v := ?_) (a' := ?_) #[true, true, true, true, true, true, true, true, true, true, false, false, false, false, false, false, false] rfl rfl (by kernel_rfl) (fun _ _ _ h => h) (Or.inl ⟨by rfl, ?_⟩) ?_ ?_
           rotate_left
           ·intro w'
            go_simp
            with_reducible rfl
           rotate_left
           ·simp only [Act.put, List.setIfInBounds_toArray, List.set_cons_zero, List.set_cons_succ, i64_w, i32_w]
            rfl
           refine take_ (i := 10) (N := (some 79)) (v := ?_) (a' := ?_) #[true, true, true, true, true, true, true, true, true, true, true, false, false, false, false, false, false] rfl rfl (by kernel_rfl) (fun _ _ _ h => h) (Or.inl ⟨by rfl, ?_⟩) hHeld ?_ ?_
           rotate_left
           ·rintro w' ⟨s0, s1⟩
            go_simp
            with_reducible rfl
           rotate_left
           ·simp only [Act.put, List.setIfInBounds_toArray, List.set_cons_zero, List.set_cons_succ, i64_w, i32_w]
            rfl
           refine pure_ (i := 11) (N := (some 80)) (v := ?_) (a' := ?_) #[true, true, true, true, true, true, true, true, true, true, true, true, false, false, false, false, false] rfl rfl (by kernel_rfl) (fun _ _ _ h => h) (Or.inl ⟨by rfl, ?_⟩) ?_ ?_
           rotate_left
           ·intro w'
            go_simp
            with_reducible rfl
           rotate_left
           ·simp only [Act.put, List.setIfInBounds_toArray, List.set_cons_zero, List.set_cons_succ, i64_w, i32_w]
            rfl
           have hX12 := hHeld.1; have hG12 := hHeld.2
           refine one_ (i := 12) (N := (some 81)) #[true, true, true, true, true, true, true, true, true, true, true, true, true, false, false, false, false] rfl rfl (by kernel_rfl) (by decide) (fun K hK => ?_)
           refine value_ (w1 := ?_) (v := ?_) (by rfl) rfl ?_ ?_
           rotate_left 2
           ·go_simp
            constructor
            ·rfl
            ·rfl
           refine hK.out _ _ ⟨(World.cell?_alloc_lt _ _ _ (World.block_lt_of_cell? _ _ hHeld.1)).trans hHeld.1, (World.cell?_alloc_lt _ _ _ (World.block_lt_of_cell? _ _ hHeld.2)).trans hHeld.2⟩ (fun hHeld => ?_)
           clear hK K
           refine norm_ (a' := ?_) ?_ ?_
           rotate_left
           ·show Act.put _ (some 81) _ = _
            simp only [Act.put, List.setIfInBounds_toArray, List.set_cons_zero, List.set_cons_succ, i64_w, i32_w]
            rfl
           refine one_ (i := 13) (N := (some 82)) #[true, true, true, true, true, true, true, true, true, true, true, true, true, true, false, false, false] rfl rfl (by kernel_rfl) (by decide) (fun K hK => ?_)
           refine Kd.R_append_step (Kd.int .i64) (w0 := w0) w0.heap.size (by rfl) (.tmp 79) (.tmp 81) 44 3 (.int .i64 0) 8 rfl Try.underlying44 info3 rfl (by decide) (by omega) (.slice Ak lf.f2.length ck) lf.f2 kid [.int .i64 kid] (fun q => oki q ∨ (wordlist_grow.okA b6 ok q ∧ w12.heap.size ≤ q)) (fun _ => False) rfl rfl ?aP (fun _ hk => hk.elim) ?aF ?aO ?aB ?aS ?aL ?_
           (case aP => exact rfl)
           (case aF => exact fun q hq => Or.inr ⟨Or.inr (by have := blk_lt H13.out; omega), hq⟩)
           (case aO => exact Kd.R_mono HRK3.out (fun _ hk => .inl hk))
           (case aB => exact B13.out)
           (case aS => exact B13.out.size)
           (case aL => have := LK.out; omega)
           intro v1 w13 ho hb hg hat
           have hown : ∀ q, (Value.slice Ak lf.f2.length ck).ownBlock = some q → wordlist_grow.okA b6 ok q ∧ q ≠ g := fun q hq => HOI.out q (HRK3.out.1 q hq)
           have nX : some X ≠ (Value.slice Ak lf.f2.length ck).ownBlock := fun e => wordlist_grow.okA_X N6.out.1 HOK.out X (hown X e.symm).1 rfl
           have nb : some b6 ≠ (Value.slice Ak lf.f2.length ck).ownBlock := fun e => wordlist_grow.okA_b b6 (hown b6 e.symm).1 rfl
           have ng : some g ≠ (Value.slice Ak lf.f2.length ck).ownBlock := fun e => (hown g e.symm).2 rfl
           have X14 := Lib.hid (blk_grown X13.out hg nX)
           have H14 := Lib.hid (blk_grown H13.out hg nb)
           have hX14 := cell_grown hg hX12 nX
           have hG14 := cell_grown hg hG12 ng
           have B14 := Lib.hid hb
           have K14 := Lib.hid (Kept.of_grown hg K13.out (fun q hq => (wordlist_grow.okA_H (Nat.le_of_eq N6.out.2.1) q (hown q hq).1).elim (fun h2 => Or.inl (Or.inr h2)) Or.inr))
           have HH14 := Lib.hid (Kd.H_grown (Kd.H_widen HH3.out) hg (fun q e => .inl (HRK3.out.1 q e)))
           have NL := C6.out.1
           obtain ⟨hcc14, hfr14⟩ := Kd.H_at HH14.out (by omega) (by omega)
           obtain ⟨A3, c3, rfl⟩ := Kd.R_slice ho
           have hc14 := hcc14 2 _ rfl
           have hf14 := hfr14 2
           rw [hsz] at hc14 hf14
           simp only [Int.toNat_natCast] at hc14 hf14
           have HP := Kd.S_seg0 HH14.out (by omega) (by omega) (seg := [.slice A3 (lf.f2 ++ [kid]).length c3]) (j := 2) (Nat.le_refl 3) (x' := (⟨lf.f0, lf.f1, lf.f2 ++ [kid]⟩ : S46)) (k46_mkM _ _ _ (⟨lf.f0, lf.f1, lf.f2 ++ [kid]⟩ : S46) ho) (fun _ hk => hk)
           rw [hsz, Int.toNat_natCast] at HP
           have P1 := Lib.hid HP.1
           clear HP hcc14 hfr14 ho hb hg hat hown nX nb ng HH3 HRK3 S13 B13 K13 X13 H13 HH14 hX12 hG12
           rw [List.length_append, List.length_singleton] at P1 ⊢
           refine hK.out _ _ ⟨hX14, hG14⟩ (fun hHeld => ?_)
           clear hK K
           refine norm_ (a' := ?_) ?_ ?_
           rotate_left
           ·show Act.put _ (some 82) _ = _
            simp only [Act.put, List.setIfInBounds_toArray, List.set_cons_zero, List.set_cons_succ, i64_w, i32_w]
            rfl
           refine pure_ (i := 14) (N := (some 83)) (v := ?_) (a' := ?_) #[true, true, true, true, true, true, true, true, true, true, true, true, true, true, true, false, false] rfl rfl (by kernel_rfl) (fun _ _ _ h => h) (Or.inl ⟨by rfl, ?_⟩) ?_ ?_
           rotate_left
           ·intro w'
            go_simp
            with_reducible rfl
           rotate_left
           ·simp only [Act.put, List.setIfInBounds_toArray, List.set_cons_zero, List.set_cons_succ, i64_w, i32_w]
            rfl
           refine pure_ (i := 15) (N := (some 84)) (v := ?_) (a' := ?_) #[true, true, true, true, true, true, true, true, true, true, true, true, true, true, true, true, false] rfl rfl (by kernel_rfl) (fun _ _ _ h => h) (Or.inl ⟨by rfl, ?_⟩) ?_ ?_
           rotate_left
           ·intro w'
            go_simp
            with_reducible rfl
           rotate_left
           ·simp only [Act.put, List.setIfInBounds_toArray, List.set_cons_zero, List.set_cons_succ, i64_w, i32_w]
            rfl
           clear hX14 hG14
           refine last_ (i := 16) (N := none) #[true, true, true, true, true, true, true, true, true, true, true, true, true, true, true, true, true] rfl rfl (by kernel_rfl) (by decide) (fun K hK => ?_)
           refine skip_ (w1 := ?_) (by rfl) rfl ?_ ?_
           rotate_left
           ·go_simp
            rfl
           refine hK.out _ _ ?_
           clear hK K
           refine done_ (by kernel_rfl) ?_
           clear hHeld hc14 hf14
           have X15 := Lib.hid (blk_far X14.out (p := ⟨g, L.length * 3 + 2, none⟩) (wordlist_grow.okA_X N6.out.1 HOK.out g NG.out).symm (.slice A3 (lf.f2.length + 1) c3))
           have H15 := Lib.hid (blk_far H14.out (p := ⟨g, L.length * 3 + 2, none⟩) (wordlist_grow.okA_b g NG.out).symm (.slice A3 (lf.f2.length + 1) c3))
           have S15 := Lib.hid (show Kd.S k46 46 (w13.setCell ⟨g, L.length * 3 + 2, none⟩ (.slice A3 (lf.f2.length + 1) c3)) w0.heap.size (wordlist_grow.okA b6 ok) _ _ from P1.out)
           have B15 := Lib.hid (below_set B14.out GB.out (j := L.length * 3 + 2) (v := .slice A3 (lf.f2.length + 1) c3))
           have K15 := Lib.hid (K14.out.setCell (p := ⟨g, L.length * 3 + 2, none⟩) ((wordlist_grow.okA_H (Nat.le_of_eq N6.out.2.1) g NG.out).elim (fun h => Or.inl (Or.inr h)) Or.inr) (.slice A3 (lf.f2.length + 1) c3))
           clear X14 H14 P1 B14 K14
           generalize w13.setCell ⟨g, L.length * 3 + 2, none⟩ (.slice A3 (lf.f2.length + 1) c3) = w15 at X15 H15 S15 B15 K15 ⊢
           have hrun2 := HRUN2.out
           go_wp2_with (fail)
           go_roundg k1
           case measure => have := HK.out; omega
           case rel => exact ⟨_, wd, Ad, cd, _, rfl, H3e, Lib.hid (by have := HK.out; omega), X15, H15, S15, WD, CD, B15, K15⟩
         ·rw [if_neg c6] at H3; cases H3
        ·rw [if_neg c5] at H2; cases H2
       ·rw [if_neg c4] at H; cases H
      ·rw [if_neg c3] at H
       obtain ⟨rfl, rfl⟩ := Prod.mk.inj (Option.some.inj H)
       have b3 : decide (0 < (wsr.length : Int)) = false := decide_eq_false c3
       have b3' : decide (0 < wsr.length) = false := decide_eq_false (by omega)
       clear H
       go_wp2_with (fail)
       go_ret
       exact ⟨rfl, vr, XR.out, Kd.S_mono SR.out (wordlist_grow.okA_H (Nat.le_of_eq N6.out.2.1)), KR.out, BR.out⟩
  ·rw [if_neg hL] at h; cases h
/-! ### wordlist_Tree: function 16 -/
def wordlist_Tree.f (k : Nat) (l0_0 : List ByteArray) : Option (List S46 × Int) := (wordlist_Valid.f k l0_0).bind fun e => if e = 0 then ((wordlist_grow.f k [] l0_0 0 0).bind fun t => some (t.1, 0)) else some ([], e)
theorem wordlist_Tree.mono : ∀ a0 k, LeO (wordlist_Tree.f k a0) (wordlist_Tree.f (k + 1) a0) := by
  intro a0 k
  unfold wordlist_Tree.f
  exact LeO.bind (wordlist_Valid.mono _ _) fun _ => LeO.ite (LeO.bind ((wordlist_grow.mono_l k).1 _ _ _ _) fun _ => LeO.refl _) (LeO.refl _)
set_option maxHeartbeats 4000000 in
set_option maxRecDepth 100000 in
theorem wordlist_Tree.calls (k : Nat) (A0_0 : Option Addr) (c0_0 : Nat) (l0_0 : List ByteArray) (r1 : List S46) (r2 : Int) (w : World) (hr0_0 : Kd.C Kd.string w A0_0 l0_0.length l0_0) (hc0_0 : l0_0.length ≤ c0_0) (h : wordlist_Tree.f k l0_0 = some (r1, r2)) :
    Calls Try.prog 16 #[.agg #[.slice A0_0 l0_0.length c0_0]] w fun e w' => ∃ v0_ : Value, e = .returned (.tuple #[v0_, .int .i64 r2]) ∧ Kd.S k46 46 w' w.heap.size (fun _ => True) v0_ r1 ∧ Below w.heap.size w w' := by
  have hu26 := Try.underlying26
  unfold wordlist_Tree.f at h
  obtain ⟨e0, he, h1⟩ := Option.bind_eq_some_iff.1 h
  clear h
  have HV := Lib.hid he; have HR := Lib.hid hr0_0; have HC := Lib.hid hc0_0; have H1 := Lib.hid h1
  clear he hr0_0 hc0_0 h1
  go_enter Try.func16, Try.ntmps16
  go_wp2_with (first | ((with_reducible refine gate_dst (N := 1) rfl ?_); (try (refine gate_guard (by rfl) ?_; dsimp only)); refine box_event ?hg (N := 1) ?hd (cs := #[.slice A0_0 l0_0.length c0_0]) (t := 26) ?hr ?_; (case hd => rfl); (case hg => rfl); (case hr => first | (go_simp; done) | (go_simp; rfl)); intro b1 hb1 w1 hbox hbb; have Q1 := Lib.hid hbox; have B1 := Lib.hid hbb; have N1 := Lib.hid (show w.heap.size ≤ b1 from Nat.le_of_eq hb1.symm); clear hb1 hbox hbb; have hcx := (blk_cell Q1.out 0).trans (show _ = some (Value.slice A0_0 l0_0.length c0_0) from rfl)))
  refine (wordlist_Valid.calls k A0_0 c0_0 l0_0 e0 _ (Kd.C_below HR.out B1.out) HC.out HV.out).mono ?_
  rintro e w2 ⟨rfl, hb⟩
  have B2 := Lib.hid (B1.out.trans (hb.mono B1.out.size))
  have Q2 := Lib.hid ((hb.block b1 (blk_lt Q1.out)).trans Q1.out)
  clear hb hcx Q1 B1
  have h1 := H1.out
  clear H1
  by_cases c0 : e0 = 0
  · subst c0
    rw [if_pos rfl] at h1
    obtain ⟨t, ht, h2⟩ := Option.bind_eq_some_iff.1 h1
    obtain ⟨L', n⟩ := t
    obtain ⟨rfl, rfl⟩ := Prod.mk.inj (Option.some.inj h2)
    have HG := Lib.hid ht
    clear h1 h2 ht
    have hcx := (blk_cell Q2.out 0).trans (show _ = some (Value.slice A0_0 l0_0.length c0_0) from rfl)
    go_wp2_with (first | ((with_reducible refine gate_dst (N := 5) rfl ?_); (try (refine gate_guard (by rfl) ?_; dsimp only)); refine box_event ?hg (N := 5) ?hd (cs := #[.slice none 0 0]) (t := 38) ?hr ?_; (case hd => rfl); (case hg => rfl); (case hr => first | (go_simp; done) | (go_simp; rfl)); intro b5 hb5 w3 hbox hbb; have Q5 := Lib.hid hbox; have B3 := Lib.hid (B2.out.trans (hbb.mono B2.out.size)); have Q3 := Lib.hid (blk_below Q2.out hbb); have N5 := Lib.hid (show w.heap.size ≤ b5 from by have := B2.out.size; omega); clear hb5 hbox hbb hcx; have hcx := (blk_cell Q3.out 0).trans (show _ = some (Value.slice A0_0 l0_0.length c0_0) from rfl)))
    refine (wordlist_grow.calls k [] l0_0 0 0 L' n b5 (.slice none 0 0) A0_0 c0_0 (fun _ => False) w _ Q5.out N5.out (fun h => h) (Kd.S_nil _ _ _ _ _) HR.out HC.out B3.out HG.out).mono ?_
    rintro e w4 ⟨rfl, v', x4, s4, k4, b4⟩
    have X4 := Lib.hid x4; have S4 := Lib.hid s4; have B4 := Lib.hid b4
    clear x4 s4 k4 b4 hcx
    obtain ⟨A4, c4, rfl⟩ := Kd.S_slice S4.out
    have hcx := (blk_cell X4.out 0).trans (show _ = some (Value.slice A4 L'.length c4) from rfl)
    go_wp2_with (fail)
    go_ret2
    exact ⟨_, rfl, Kd.S_mono S4.out (fun _ _ => trivial), B4.out⟩
  · rw [if_neg c0] at h1
    obtain ⟨rfl, rfl⟩ := Prod.mk.inj (Option.some.inj h1)
    have b2 : (e0 != 0) = true := by simpa using c0
    have b3 : (e0 == 0) = false := by simpa using c0
    clear h1 c0
    go_wp2_with (fail)
    go_ret2
    exact ⟨_, rfl, Kd.S_nil _ _ _ _ _, B2.out⟩

end Go.Proofs.Ytdaooagikacboaa.X
