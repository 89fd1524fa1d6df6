-- printed by this session's xprint.py: out of the translation, by the kit's print with additions; Lean checks it
import Derived.Test.YtdaooagikacboaaWN
import Derived.Test.YtdaooagikacboaaWShare
import Derived.Test.YtdaooagikacboaaWRepsOne
import Derived.Test.YtdaooagikacboaaWGuard
import Derived.Test.YtdaooagikacboaaX0
import Derived.Test.YtdaooagikacboaaX7
namespace Go.Proofs.Ytdaooagikacboaa.X
open Go.RowKit Go.Proofs.YtdaooagikacboaaW.PrintWords Go.Proofs.YtdaooagikacboaaW.PrintLast Go.Proofs.YtdaooagikacboaaW.PrintMore
attribute [local go_sem] max2_int min2_int max_two min_two max_three min_three max_four min_four isSome_setCell binOp_gtr_str binOp_leq_str binOp_geq_str   -- for this text's walks alone
set_option linter.unusedVariables false
set_option linter.unusedSimpArgs false

/-! grow, told here -/
def ancepsref54_grow.j0 : Nat → List ByteArray → Int → ByteArray → Int → Option Int
  | 0, _, _, _, _ => none
  | k + 1, ws, d1, hd, te => if te < (ws.length : Int) then (if 0 ≤ te ∧ ws.length ≤ 1000000 then ((ancepsref54_beginning.f (rdOf ByteArray.empty ws te) d1).bind fun o => if o.2 = true then (if o.1.toList = hd.toList then ancepsref54_grow.j0 k ws d1 hd (wrap64 (te + 1)) else some te) else some te) else none) else some te
mutual
def ancepsref54_grow.f : Nat → List S46 → List ByteArray → Int → Int → Option (List S46)
  | 0, _, _, _, _ => none
  | k + 1, L, ws, dp, sign => if L.length ≤ 1000000 then ancepsref54_grow.l0 k (L ++ [⟨sign, false, []⟩]) ws dp L.length 0 else none
def ancepsref54_grow.l0 : Nat → List S46 → List ByteArray → Int → Nat → Int → Option (List S46)
  | 0, _, _, _, _, _ => none
  | k + 1, L, ws, dp, n, i => if i < (ws.length : Int) then (if 0 ≤ i ∧ n < L.length then (if ((rdOf ByteArray.empty ws i).size : Int) = dp then ancepsref54_grow.l0 k (L.set n ⟨(L.getD n (⟨0, false, []⟩ : S46)).f0, true, (L.getD n (⟨0, false, []⟩ : S46)).f2⟩) ws dp n (wrap64 (i + 1)) else ((ancepsref54_beginning.f (rdOf ByteArray.empty ws i) (wrap64 (dp + 1))).bind fun h => (ancepsref54_grow.j0 k ws (wrap64 (dp + 1)) h.1 i).bind fun te => if ((L.getD n (⟨0, false, []⟩ : S46)).f2.length ≤ 1000000 ∧ L.length ≤ 1000000) ∧ (i ≤ te ∧ te ≤ (ws.length : Int)) ∧ (0 ≤ dp ∧ dp < (h.1.size : Int)) then ((ancepsref54_grow.f k (L.set n ⟨(L.getD n (⟨0, false, []⟩ : S46)).f0, (L.getD n (⟨0, false, []⟩ : S46)).f1, (L.getD n (⟨0, false, []⟩ : S46)).f2 ++ [(L.length : Int)]⟩) ((ws.take te.toNat).drop i.toNat) (wrap64 (dp + 1)) (bt h.1 dp)).bind fun L2 => ancepsref54_grow.l0 k L2 ws dp n te) else none)) else none) else some L
end
theorem ancepsref54_grow.mono_j : ∀ k y0 y1 y2 y3, LeO (ancepsref54_grow.j0 k y0 y1 y2 y3) (ancepsref54_grow.j0 (k + 1) y0 y1 y2 y3)
  | 0 => fun _ _ _ _ r h => by simp [ancepsref54_grow.j0] at h
  | k + 1 => by
    have ih := ancepsref54_grow.mono_j k
    intro y0 y1 y2 y3
    rw [ancepsref54_grow.j0, ancepsref54_grow.j0]
    exact LeO.ite (LeO.ite (LeO.bind (LeO.refl _) fun _ => LeO.ite (LeO.ite (ih _ _ _ _) (LeO.refl _)) (LeO.refl _)) (LeO.refl _)) (LeO.refl _)
theorem ancepsref54_grow.mono_l : ∀ k, (∀ y0 y1 y2 y3, LeO (ancepsref54_grow.f k y0 y1 y2 y3) (ancepsref54_grow.f (k + 1) y0 y1 y2 y3)) ∧ (∀ y0 y1 y2 y3 y4, LeO (ancepsref54_grow.l0 k y0 y1 y2 y3 y4) (ancepsref54_grow.l0 (k + 1) y0 y1 y2 y3 y4))
  | 0 => ⟨fun _ _ _ _ r h => by simp [ancepsref54_grow.f] at h, fun _ _ _ _ _ r h => by simp [ancepsref54_grow.l0] at h⟩
  | k + 1 => by
    obtain ⟨ih0, ih1⟩ := ancepsref54_grow.mono_l k
    refine ⟨?_, ?_⟩
    · intro y0 y1 y2 y3
      rw [ancepsref54_grow.f, ancepsref54_grow.f]
      exact LeO.ite (ih1 _ _ _ _ _) (LeO.refl _)
    · intro y0 y1 y2 y3 y4
      rw [ancepsref54_grow.l0, ancepsref54_grow.l0]
      exact LeO.ite (LeO.ite (LeO.ite (ih1 _ _ _ _ _) (LeO.bind (LeO.refl _) fun _ => LeO.bind (ancepsref54_grow.mono_j _ _ _ _ _) fun _ => LeO.ite (LeO.bind (ih0 _ _ _ _) fun _ => ih1 _ _ _ _ _) (LeO.refl _))) (LeO.refl _)) (LeO.refl _)
theorem ancepsref54_grow.mono (y0 : List S46) (y1 : List ByteArray) (y2 y3 : Int) (k : Nat) : LeO (ancepsref54_grow.f k y0 y1 y2 y3) (ancepsref54_grow.f (k + 1) y0 y1 y2 y3) := (ancepsref54_grow.mono_l k).1 _ _ _ _
theorem ancepsref54_grow.more {k k' : Nat} (h : k ≤ k') {L : List S46} {ws : List ByteArray} {dp : Int} {n : Nat} {i : Int} {r : List S46} (hr : ancepsref54_grow.l0 k L ws dp n i = some r) : ancepsref54_grow.l0 k' L ws dp n i = some r := by
  induction h with
  | refl => exact hr
  | step _ ih => exact (ancepsref54_grow.mono_l _).2 _ _ _ _ _ _ ih
set_option maxHeartbeats 8000000 in
set_option maxRecDepth 100000 in
theorem ancepsref54_grow.walk (k : Nat) : ∀ (L : List S46) (ws : List ByteArray) (dp sign : Int) (L' : List S46) (v : Value) (A : Option Addr) (cap : Nat) (w0 w : World),
    Kd.S k46 46 w w0.heap.size (fun _ => True) v L → Kd.string.C w0 A ws.length ws → ws.length ≤ cap → Below w0.heap.size w0 w → ancepsref54_grow.f k L ws dp sign = some L' →
    Calls Try.prog 39 #[v, .slice A ws.length cap, .int .i64 dp, .int .i64 sign] w fun e w' => ∃ v' : Value, e = .returned v' ∧ Kd.S k46 46 w' w0.heap.size (fun _ => True) v' L' ∧ Below w0.heap.size w0 w' := by
  induction k using Nat.strongRecOn with
  | ind k ihk =>
  cases k with
  | zero => intro L ws dp sign L' v A cap w0 w _ _ _ _ h; simp [ancepsref54_grow.f] at h
  | succ k =>
    intro L ws dp sign L' v A cap w0 w hS hW hcap hB h
    rw [ancepsref54_grow.f] at h
    by_cases hL : L.length ≤ 1000000
    · rw [if_pos hL] at h
      obtain ⟨A0, c0, rfl⟩ := Kd.S_slice hS
      have hu46 := Try.underlying46
      have HS := Lib.hid hS; have HW := Lib.hid hW; have HCP := Lib.hid hcap; have HB := Lib.hid hB; have HH := Lib.hid h; have HL := Lib.hid hL; have IH := Lib.hid ihk
      clear hS hW hcap hB h hL ihk
      go_enter Try.func39, Try.ntmps39
      go_wp2_with (first | ((with_reducible refine gate_dst (N := 10) rfl ?_); (try (refine gate_guard (by rfl) ?_; dsimp only)); refine box_event ?hg (N := 10) ?hd (cs := #[.int .i64 0, .bool false, .slice none 0 0]) (t := 46) ?hr ?_; (case hd => rfl); (case hg => rfl); (case hr => first | (go_simp; done) | (go_simp; rfl)); intro b10 hb10 w1 hbox hbb; have P1 := Lib.hid hbox; have N1 := (show w.heap.size = b10 from hb10.symm); have S1 := Kd.S_below (Kd.S_mono (Kd.S_bound HS.out) (ok' := fun q => q < b10) (fun q hq => by have := hq.2.2.1; omega)) hbb; have NB := (show w0.heap.size ≤ b10 by have := HB.out.size; omega); have B1 := HB.out.trans (hbb.mono HB.out.size); have S2 := Lib.hid (Kd.S_far (Kd.S_far (Kd.S_far S1 (p := ⟨b10, 0, none⟩) (fun q hq => Nat.ne_of_lt hq) (.int .i64 sign)) (p := ⟨b10, 1, none⟩) (fun q hq => Nat.ne_of_lt hq) (.bool false)) (p := ⟨b10, 2, none⟩) (fun q hq => Nat.ne_of_lt hq) (.slice none 0 0)); have B2 := Lib.hid (below_set (j := 2) (v := .slice none 0 0) (below_set (j := 1) (v := .bool false) (below_set (j := 0) (v := .int .i64 sign) B1 NB) NB) NB); clear hb10 hbox hbb S1 NB B1 N1; have hc0 := (blk_cell P1.out 0).trans (show _ = some (Value.int .i64 0) from rfl); have hc1 := (blk_cell P1.out 1).trans (show _ = some (Value.bool false) from rfl); have hc2 := (blk_cell P1.out 2).trans (show _ = some (Value.slice none 0 0) from rfl); have hf0 := blk_frozen P1.out 0; have hf1 := blk_frozen P1.out 1; have hf2 := blk_frozen P1.out 2) | ((with_reducible refine gate_builtin (b := .append) (xs := #[.tmp 21, .tmp 23]) rfl ?_); at_builtin; refine Kd.S_append k46 (w0 := w0) w0.heap.size rfl (.tmp 21) (.tmp 23) 38 46 (.agg #[(.int .i64 0), .bool false, .slice none 0 0]) 40 rfl Try.underlying38 (by kernel_rfl) rfl (by decide) (by omega) (.slice A0 L.length c0) L (⟨sign, false, []⟩ : S46) [.int .i64 sign, .bool false, .slice none 0 0] (fun _ => True) (fun _ => False) rfl ?aX ?aP (fun _ hk => hk.elim) ?aF ?aO ?aB ?aS ?aL ?_; (case aX => show Value.slice (some ⟨w1.heap.size, 0, none⟩) 1 1 = _; simp [World.setCell]); (case aP => exact k46_mkM _ _ _ (⟨sign, false, []⟩ : S46) (Kd.R_nil _ _ _ _ _)); (case aF => exact fun q hq => trivial); (case aO => exact Kd.S_mono S2.out (fun q hq => ⟨trivial, fun h => h⟩)); (case aB => exact B2.out); (case aS => exact B2.out.size); (case aL => have := HL.out; omega); intro v1 w3 hS3 hB3 hg3 hv3; have S3 := Lib.hid hS3; have B3 := Lib.hid hB3; clear hS3 hB3 hg3 hv3 S2 B2 P1))
      have hh := HH.out
      clear HH HS HB
      have HH := Lib.hid hh
      clear hh hc0 hc1 hc2 hf0 hf1 hf2
      obtain ⟨m, hm⟩ : ∃ m, L.length = m := ⟨_, rfl⟩
      have HMB := Lib.hid (show m ≤ 1000000 from hm ▸ HL.out)
      replace HH := Lib.hid (show ancepsref54_grow.l0 k (L ++ [⟨sign, false, []⟩]) ws dp m 0 = some L' from hm ▸ HH.out)
      (try rw [hm])
      clear hm
      go_loopg [0, 11] k (fun kq v0 v11 wr => ∃ (Lr : List S46) (i : Int), v11 = .int .i64 i ∧ Hid (ancepsref54_grow.l0 kq Lr ws dp m i = some L') ∧ Hid (kq ≤ k) ∧ Hid (Kd.S k46 46 wr w0.heap.size (fun _ => True) v0 Lr) ∧ Hid (Below w0.heap.size w0 wr))
      case atStart => exact ⟨_, 0, rfl, HH, Lib.hid (Nat.le_refl _), S3, B3⟩
      case round =>
        clear HH S3 B3
        obtain ⟨Lr, i, rfl, HA, HK, SR, BR⟩ := hrel
        obtain ⟨AR, cR, rfl⟩ := Kd.S_slice SR.out
        cases gk with
        | zero => exact absurd HA.out (by simp [ancepsref54_grow.l0])
        | succ k1 =>
          have H := HA.out
          clear HA
          rw [ancepsref54_grow.l0] at H
          by_cases c1 : i < (ws.length : Int)
          · rw [if_pos c1] at H
            by_cases c2 : 0 ≤ i ∧ m < Lr.length
            · rw [if_pos c2] at H
              obtain ⟨aw, rfl, hx⟩ := Kd.at_string (Kd.C_below HW.out BR.out) i c2.1 c1
              obtain ⟨s, hs⟩ : ∃ s, rdOf ByteArray.empty ws i = s := ⟨_, rfl⟩
              rw [hs] at hx H
              have HSS := Lib.hid hs
              have C1 := Lib.hid c1; have C2 := Lib.hid c2
              have b1 : decide (i < (ws.length : Int)) = true := decide_eq_true c1
              have q0 := eq_true c2.1
              have q1 := eq_true c1
              clear hs
              obtain ⟨g, cg, eg, hg1, hg2, cl, hg3⟩ := Kd.S_form SR.out (by omega)
              injection eg with e1 e2 e3
              subst e1; subst e3; clear e2
              obtain ⟨oki, ce, hcl, hM, hcc, hfr, hoki, hH⟩ := Kd.S_elem SR.out (⟨0, false, []⟩ : S46) (m : Int) (by omega) (by omega)
              obtain ⟨lf, hlf⟩ : ∃ lf, Lr.getD m (⟨0, false, []⟩ : S46) = lf := ⟨_, rfl⟩
              rw [Int.toNat_natCast, hlf] at hM
              rw [hlf] at H
              obtain ⟨vk, rfl, hR⟩ := k46_openM hM
              obtain ⟨Ak, ck, rfl⟩ := Kd.R_slice hR
              have hsz : k46.sz = 3 := rfl
              have he1 := hcc 1 _ rfl
              have he2 := hcc 2 _ rfl
              have hf1 := hfr 1
              rw [hsz] at he1 he2 hf1
              simp only [Int.toNat_natCast] at he1 he2 hf1
              have hi0 : (0 ≤ (m : Int)) = True := eq_true (by omega)
              have hi1 : ((m : Int) < (Lr.length : Int)) = True := eq_true (by omega)
              have hi2 : (m < Lr.length) = True := eq_true c2.2
              have GB := Lib.hid hg1
              clear hM hcc hfr hcl hg1 hg2 hg3 cl hlf
              by_cases c3 : (s.size : Int) = dp
              · rw [if_pos c3] at H
                have HH := Lib.hid H
                have b2 : ((s.size : Int) == dp) = true := beq_iff_eq.2 c3
                have P := Kd.S_seg0 hH (by omega) (by omega) (seg := [.bool true]) (j := 1) (by decide) (x' := (⟨lf.f0, true, lf.f2⟩ : S46)) (k46_mkM _ _ _ (⟨lf.f0, true, lf.f2⟩ : S46) hR) (fun _ h => h)
                rw [hsz, Int.toNat_natCast] at P
                have P1 := Lib.hid P.1
                clear H c3 c1 c2 P hH hR hoki
                go_wp2_with (fail)
                go_roundg k1
                case measure => omega
                case rel => exact ⟨_, wrap64 (i + 1), rfl, HH, Lib.hid (by have := HK.out; omega), Lib.hid P1.out, Lib.hid (below_set BR.out GB.out)⟩
              · rw [if_neg c3] at H
                have b2 : ((s.size : Int) == dp) = false := beq_eq_false_iff_ne.2 c3
                obtain ⟨⟨hd, ok_⟩, hbg, H2⟩ := Option.bind_eq_some_iff.1 H
                obtain ⟨te, hte, H3⟩ := Option.bind_eq_some_iff.1 H2
                have HBG := Lib.hid hbg; have HTE := Lib.hid hte; have H3' := Lib.hid H3; have HOI := Lib.hid hoki; have HHo := Lib.hid hH; have HRk := Lib.hid hR
                clear H H2 H3 hbg hte c1 c2 c3 hoki hH hR
                go_wp2_with (fail)
                refine (ancepsref54_beginning.calls s (wrap64 (dp + 1)) hd ok_ _ HBG.out).mono ?_
                rintro e w4 ⟨rfl, nd0, rfl⟩
                clear hx he1 he2 hf1 HBG
                go_wp2_with (fail)
                go_loopg [14] k1 (fun kq v14 wq => ∃ (t1 : Int), v14 = .int .i64 t1 ∧ Hid (ancepsref54_grow.j0 kq ws (wrap64 (dp + 1)) hd t1 = some te) ∧ Hid (kq ≤ k1) ∧ ∃ nd, wq = wr.drewN nd)
                case atStart => exact ⟨i, rfl, HTE, Lib.hid (Nat.le_refl _), nd0, rfl⟩
                case round =>
                  clear HTE
                  obtain ⟨t1, rfl, HA, HK2, nd, rfl⟩ := hrel
                  cases gk with
                  | zero => exact absurd HA.out (by simp [ancepsref54_grow.j0])
                  | succ k2 =>
                    have H := HA.out
                    clear HA b1
                    rw [ancepsref54_grow.j0] at H
                    by_cases d1 : t1 < (ws.length : Int)
                    · rw [if_pos d1] at H
                      by_cases d2 : 0 ≤ t1 ∧ ws.length ≤ 1000000
                      · rw [if_pos d2] at H
                        obtain ⟨⟨o1, o2⟩, hb1, H2⟩ := Option.bind_eq_some_iff.1 H
                        dsimp only at H2
                        obtain ⟨aw', e, hy⟩ := Kd.at_string (Kd.C_below HW.out (pw_below_drewN BR.out nd)) t1 d2.1 d1
                        obtain rfl := Option.some.inj e
                        obtain ⟨s2, hs2⟩ : ∃ s, rdOf ByteArray.empty ws t1 = s := ⟨_, rfl⟩
                        rw [hs2] at hy hb1
                        have HBG := Lib.hid hb1; have HH := Lib.hid H2
                        have b1 : decide (t1 < (ws.length : Int)) = true := decide_eq_true d1
                        have p0 := eq_true d2.1
                        have p1 := eq_true d1
                        clear H H2 hb1 hs2 d1 d2
                        go_wp2_with (fail)
                        refine (ancepsref54_beginning.calls s2 (wrap64 (dp + 1)) o1 o2 _ HBG.out).mono ?_
                        rintro e w5 ⟨rfl, nd2, rfl⟩
                        rw [World.drewN_drewN]
                        clear hy HBG
                        have h := HH.out
                        clear HH
                        cases o2 with
                        | true =>
                          rw [if_pos rfl] at h
                          by_cases d3 : o1.toList = hd.toList
                          · rw [if_pos d3] at h
                            have b3 : (o1.toList == hd.toList) = true := beq_iff_eq.2 d3
                            have b3' : (o1.toList != hd.toList) = false := by rw [bne, b3]; rfl
                            have HH := Lib.hid h
                            clear h d3
                            go_wp2_with (fail)
                            go_roundg k2
                            case measure => omega
                            case rel => exact ⟨wrap64 (t1 + 1), rfl, HH, Lib.hid (by have := HK2.out; omega), _, rfl⟩
                          · rw [if_neg d3] at h
                            obtain rfl := Option.some.inj h
                            have b3 : (o1.toList == hd.toList) = false := beq_eq_false_iff_ne.2 d3
                            have b3' : (o1.toList != hd.toList) = true := by rw [bne, b3]; rfl
                            clear h d3
                            have h3 := H3'.out
                            split at h3
                            · rename_i d5
                              obtain ⟨L2, hf, h4⟩ := Option.bind_eq_some_iff.1 h3
                              obtain ⟨⟨f1, f2⟩, ⟨f3, f4⟩, f5, f6⟩ := d5
                              have HF := Lib.hid hf; have H4 := Lib.hid h4; have F := Lib.hid (show (lf.f2.length ≤ 1000000 ∧ Lr.length ≤ 1000000) ∧ (i ≤ t1 ∧ t1 ≤ (ws.length : Int)) ∧ (0 ≤ dp ∧ dp < (hd.size : Int)) from ⟨⟨f1, f2⟩, ⟨f3, f4⟩, f5, f6⟩)
                              clear h3 hf h4 H3' f1 f2 f3 f4 f5 f6
                              have BQ := Lib.hid (pw_below_drewN BR.out (nd + nd2))
                              have HHQ := Lib.hid (Kd.H_below HHo.out (pw_below_drewN (Below.refl _ wr) (nd + nd2)))
                              have HRQ := Lib.hid (Kd.R_drewN HRk.out (nd + nd2))
                              obtain ⟨hcc4, hfr4⟩ := Kd.H_at HHQ.out (by omega) (by have := C2.out.2; omega)
                              have he2 := hcc4 2 _ rfl
                              rw [show k46.sz = 3 from rfl] at he2
                              simp only [Int.toNat_natCast] at he2
                              clear hcc4 hfr4 HHo HRk BR SR
                              generalize wr.drewN (nd + nd2) = wQ at BQ HHQ HRQ he2 ⊢
                              go_wp2_with (first | ((with_reducible refine gate_builtin (b := .append) (xs := #[.tmp 82, .tmp 85]) rfl ?_); at_builtin; refine Kd.R_append (Kd.int .i64) (w0 := w0) w0.heap.size rfl (.tmp 82) (.tmp 85) 44 3 (.int .i64 0) 8 rfl Try.underlying44 info3 rfl (by decide) (by omega) (.slice Ak lf.f2.length ck) lf.f2 (Lr.length : Int) [.int .i64 (Lr.length : Int)] (fun q => oki q ∨ (True ∧ wQ.heap.size ≤ q)) (fun _ => False) rfl rfl ?aP (fun _ hk => hk.elim) ?aF ?aO ?aB ?aS ?aL ?_; (case aP => exact rfl); (case aF => exact fun q hq => Or.inr ⟨trivial, hq⟩); (case aO => exact Kd.R_mono HRQ.out (fun _ hk => .inl hk)); (case aB => exact BQ.out); (case aS => exact BQ.out.size); (case aL => have := F.out.1.1; omega); intro v7 w7 ho hb hg hat; have ng : some g ≠ (Value.slice Ak lf.f2.length ck).ownBlock := (fun e => (HOI.out g (HRQ.out.1 g e.symm)).2 rfl); have HH7 := Lib.hid (Kd.H_grown (Kd.H_widen HHQ.out) hg (fun q e => .inl (HRQ.out.1 q e))); obtain ⟨hcc7, hfr7⟩ := Kd.H_at HH7.out (by omega) (by have := C2.out.2; omega); obtain ⟨A3, c3, rfl⟩ := Kd.R_slice ho; have hc7 := hcc7 2 _ rfl; have hf7 := hfr7 2; have HP := Kd.S_seg0 HH7.out (by omega) (by have := C2.out.2; omega) (seg := [.slice A3 (lf.f2 ++ [(Lr.length : Int)]).length c3]) (j := 2) (Nat.le_refl 3) (x' := (⟨lf.f0, lf.f1, lf.f2 ++ [(Lr.length : Int)]⟩ : S46)) (k46_mkM _ _ _ (⟨lf.f0, lf.f1, lf.f2 ++ [(Lr.length : Int)]⟩ : S46) ho) (fun _ hk => hk); rw [show k46.sz = 3 from rfl] at hc7 hf7 HP; simp only [Int.toNat_natCast] at hc7 hf7 HP; have P7 := Lib.hid HP.1; have B7 := Lib.hid hb; clear HP hcc7 hfr7 ho hb hg hat ng HH7 HHQ HRQ BQ he2; rw [List.length_append, List.length_singleton] at P7 ⊢))
                              have S8 := Lib.hid (show Kd.S k46 46 (w7.setCell ⟨g, m * 3 + 2, none⟩ (.slice A3 (lf.f2.length + 1) c3)) w0.heap.size (fun _ => True) (.slice (some ⟨g, 0, none⟩) Lr.length cR) (Lr.set m (⟨lf.f0, lf.f1, lf.f2 ++ [(Lr.length : Int)]⟩ : S46)) from P7.out)
                              have B8 := Lib.hid (below_set B7.out GB.out (j := m * 3 + 2) (v := .slice A3 (lf.f2.length + 1) c3))
                              clear P7 B7 hc7 hf7
                              generalize w7.setCell ⟨g, m * 3 + 2, none⟩ (.slice A3 (lf.f2.length + 1) c3) = w8 at S8 B8 ⊢
                              have f := F.out
                              obtain ⟨i9, hi9, _, hs9, _⟩ := info_parts info9
                              obtain ⟨Ad, hrun, hrd, hcd⟩ := print_mid_of (P := Try.prog) Value.string ByteArray.empty 24 9 .i64 .i64 Try.underlying24 hi9 hs9 (some aw) cap ws i t1 C2.out.1 f.2.1.1 f.2.1.2 HCP.out
                              have W9 := Lib.hid (show Kd.string.C w0 Ad ((ws.take t1.toNat).drop i.toNat).length ((ws.take t1.toNat).drop i.toNat) from Kd.C_of_reads (hrd w0 (Kd.reads_of_C HW.out)))
                              have C9 := Lib.hid hcd
                              have HF' := HF.out
                              clear hrd hcd HF hi9 hs9
                              generalize (ws.take t1.toNat).drop i.toNat = wk at hrun W9 C9 HF'
                              generalize cap - i.toNat = cd at hrun C9
                              have HFF := Lib.hid HF'
                              clear HF'
                              have u1 := eq_true f.2.2.1
                              have u2 := eq_true f.2.2.2
                              have hbr := bt_range hd dp
                              have hw8 : (wrap64 (bt hd dp)) = bt hd dp := by unfold wrap64; omega
                              have hw8' : (IntKind.i64.wrap (bt hd dp)) = bt hd dp := (i64_w _).trans hw8
                              have HW8 := Lib.hid hw8; have HW8' := Lib.hid hw8'
                              clear hw8 hw8' hbr f
                              refine start_ (n := 13) (S := fun _ => True) (ds := [12]) #[false, false, false, false, false, false, false, false, false, false, false, false, false] (by kernel_rfl) rfl rfl trivial (fun hHeld => ?_)
                              have S9 := Lib.hid (Kd.S_drew S8.out); have B9 := Lib.hid (below_drew1 B8.out)
                              clear S8 B8
                              generalize w8.drew = w9 at S9 B9 hHeld ⊢
                              refine pure_ (i := 0) (N := (some 89)) (v := ?_) (a' := ?_) #[true, false, false, false, false, false, false, false, false, false, false, false, false] rfl rfl (by kernel_rfl) (fun _ _ _ h => h) (Or.inl ⟨by rfl, ?_⟩) ?_ ?_
                              rotate_left
                              · intro w'
                                go_simp
                                with_reducible rfl
                              rotate_left
                              · simp only [Act.put, List.setIfInBounds_toArray, List.set_cons_zero, List.set_cons_succ, i64_w, i32_w]
                                rfl
                              refine pure_ (i := 1) (N := (some 90)) (v := ?_) (a' := ?_) #[true, true, false, false, false, false, false, false, false, false, false, false, false] rfl rfl (by kernel_rfl) (fun _ _ _ h => h) (Or.inl ⟨by rfl, ?_⟩) ?_ ?_
                              rotate_left
                              · intro w'
                                go_simp
                                with_reducible rfl
                              rotate_left
                              · simp only [Act.put, List.setIfInBounds_toArray, List.set_cons_zero, List.set_cons_succ, i64_w, i32_w]
                                rfl
                              refine pure_ (i := 2) (N := (some 91)) (v := ?_) (a' := ?_) #[true, true, true, false, false, false, false, false, false, false, false, false, false] rfl rfl (by kernel_rfl) (fun _ _ _ h => h) (Or.inl ⟨by rfl, ?_⟩) ?_ ?_
                              rotate_left
                              · intro w'
                                go_simp
                                with_reducible rfl
                              rotate_left
                              · simp only [Act.put, List.setIfInBounds_toArray, List.set_cons_zero, List.set_cons_succ, i64_w, i32_w]
                                rfl
                              refine pure_ (i := 3) (N := (some 92)) (v := ?_) (a' := ?_) #[true, true, true, true, false, false, false, false, false, false, false, false, false] rfl rfl (by kernel_rfl) (fun _ _ _ h => h) (Or.inl ⟨by rfl, ?_⟩) ?_ ?_
                              rotate_left
                              · intro w'
                                go_simp
                                with_reducible rfl
                              rotate_left
                              · simp only [Act.put, List.setIfInBounds_toArray, List.set_cons_zero, List.set_cons_succ, i64_w, i32_w]
                                rfl
                              refine pure_ (i := 4) (N := (some 93)) (v := ?_) (a' := ?_) #[true, true, true, true, true, false, false, false, false, false, false, false, false] rfl rfl (by kernel_rfl) (fun _ _ _ h => h) (Or.inl ⟨by rfl, ?_⟩) ?_ ?_
                              rotate_left
                              · intro w'
                                go_simp
                                with_reducible rfl
                              rotate_left
                              · simp only [Act.put, List.setIfInBounds_toArray, List.set_cons_zero, List.set_cons_succ, i64_w, i32_w]
                                rfl
                              refine pure_ (i := 5) (N := (some 94)) (v := ?_) (a' := ?_) #[true, true, true, true, true, true, false, false, false, false, false, false, false] rfl rfl (by kernel_rfl) (fun _ _ _ h => h) (Or.inl ⟨by rfl, ?_⟩) ?_ ?_
                              rotate_left
                              · intro w'
                                go_simp
                                with_reducible rfl
                              rotate_left
                              · simp only [Act.put, List.setIfInBounds_toArray, List.set_cons_zero, List.set_cons_succ, i64_w, i32_w]
                                rfl
                              refine pure_ (i := 6) (N := (some 95)) (v := ?_) (a' := ?_) #[true, true, true, true, true, true, true, false, false, false, false, false, false] rfl rfl (by kernel_rfl) (fun _ _ _ h => h) (Or.inl ⟨by rfl, ?_⟩) ?_ ?_
                              rotate_left
                              · intro w'
                                go_simp
                                with_reducible rfl
                              rotate_left
                              · simp only [Act.put, List.setIfInBounds_toArray, List.set_cons_zero, List.set_cons_succ, i64_w, i32_w]
                                rfl
                              refine pure_ (i := 7) (N := (some 96)) (v := ?_) (a' := ?_) #[true, true, true, true, true, true, true, true, false, false, false, false, false] rfl rfl (by kernel_rfl) (fun _ _ _ h => h) (Or.inl ⟨by rfl, ?_⟩) ?_ ?_
                              rotate_left
                              · intro w'
                                go_simp
                                with_reducible rfl
                              rotate_left
                              · simp only [Act.put, List.setIfInBounds_toArray, List.set_cons_zero, List.set_cons_succ, i64_w, i32_w]
                                rfl
                              refine pure_ (i := 8) (N := (some 97)) (v := ?_) (a' := ?_) #[true, true, true, true, true, true, true, true, true, false, false, false, false] rfl rfl (by kernel_rfl) (fun _ _ _ h => h) (Or.inl ⟨by rfl, ?_⟩) ?_ ?_
                              rotate_left
                              · intro w'
                                go_simp
                                with_reducible rfl
                              rotate_left
                              · simp only [Act.put, List.setIfInBounds_toArray, List.set_cons_zero, List.set_cons_succ, i64_w, i32_w]
                                rfl
                              refine pure_ (i := 9) (N := (some 98)) (v := .int .u8 (bt hd dp)) (a' := ?_) #[true, true, true, true, true, true, true, true, true, true, false, false, false] rfl rfl (by kernel_rfl) (fun _ _ _ h => h) (Or.inl ⟨by rfl, ?_⟩) ?_ ?_
                              · intro w'
                                go_simp
                                first | done | (rw [bt_at]; done) | (rw [bt_at]; rfl) | (simp only [bt_at]; done)
                              rotate_left
                              · simp only [Act.put, List.setIfInBounds_toArray, List.set_cons_zero, List.set_cons_succ, i64_w, i32_w]
                                rfl
                              refine pure_ (i := 10) (N := (some 99)) (v := .int .i64 (bt hd dp)) (a' := ?_) #[true, true, true, true, true, true, true, true, true, true, true, false, false] rfl rfl (by kernel_rfl) (fun _ _ _ h => h) (Or.inl ⟨by rfl, ?_⟩) ?_ ?_
                              · intro w'
                                go_simp
                                first | done | (rw [HW8.out]; done) | (rw [HW8.out]; rfl) | (rw [HW8'.out]; done) | (rw [HW8'.out]; rfl)
                              rotate_left
                              · simp only [Act.put, List.setIfInBounds_toArray, List.set_cons_zero, List.set_cons_succ, i64_w, i32_w]
                                rfl
                              clear hrun
                              refine one_ (i := 11) (N := (some 100)) #[true, true, true, true, true, true, true, true, true, true, true, true, false] rfl rfl (by kernel_rfl) (by decide) (fun K hK => ?_)
                              refine goes_ Try.func39 (by kernel_rfl) rfl #[.slice (some ⟨g, 0, none⟩) Lr.length cR, .slice Ad wk.length cd, .int .i64 (wrap64 (dp + 1)), .int .i64 (bt hd dp)] (by rfl) rfl rfl (by (try simp only [List.map_toArray, List.map_cons, List.map_nil]); first | done | rfl) ?_
                              refine (IH.out k1 (by have := HK.out; omega) _ wk (wrap64 (dp + 1)) (bt hd dp) L2 (.slice (some ⟨g, 0, none⟩) Lr.length cR) Ad cd w0 w9 S9.out W9.out C9.out B9.out HFF.out).mono ?_
                              rintro e w10 ⟨v', rfl, s', b'⟩
                              have S10 := Lib.hid s'; have B10 := Lib.hid b'
                              clear s' b' S9 B9 W9 C9 HFF
                              refine ⟨_, rfl, ?_⟩
                              refine hK.out _ _ trivial (fun hHeld => ?_)
                              clear hK K
                              refine norm_ (a' := ?_) ?_ ?_
                              rotate_left
                              · show Act.put _ (some 100) _ = _
                                simp only [Act.put, List.setIfInBounds_toArray, List.set_cons_zero, List.set_cons_succ, i64_w, i32_w]
                                rfl
                              refine pure_ (i := 12) (N := (some 0)) (v := ?_) (a' := ?_) #[true, true, true, true, true, true, true, true, true, true, true, true, true] rfl rfl (by kernel_rfl) (fun _ _ _ h => h) (Or.inl ⟨by rfl, ?_⟩) ?_ ?_
                              rotate_left
                              · intro w'
                                go_simp
                                with_reducible rfl
                              rotate_left
                              · simp only [Act.put, List.setIfInBounds_toArray, List.set_cons_zero, List.set_cons_succ, i64_w, i32_w]
                                rfl
                              refine done_ (by kernel_rfl) ?_
                              clear hHeld
                              go_wp2_with (fail)
                              go_roundg k1
                              case measure => omega
                              case rel => exact ⟨L2, t1, rfl, H4, Lib.hid (by have := HK.out; omega), S10, B10⟩
                            · cases h3
                        | false =>
                          rw [if_neg Bool.false_ne_true] at h
                          obtain rfl := Option.some.inj h
                          clear h
                          have h3 := H3'.out
                          split at h3
                          · rename_i d5
                            obtain ⟨L2, hf, h4⟩ := Option.bind_eq_some_iff.1 h3
                            obtain ⟨⟨f1, f2⟩, ⟨f3, f4⟩, f5, f6⟩ := d5
                            have HF := Lib.hid hf; have H4 := Lib.hid h4; have F := Lib.hid (show (lf.f2.length ≤ 1000000 ∧ Lr.length ≤ 1000000) ∧ (i ≤ t1 ∧ t1 ≤ (ws.length : Int)) ∧ (0 ≤ dp ∧ dp < (hd.size : Int)) from ⟨⟨f1, f2⟩, ⟨f3, f4⟩, f5, f6⟩)
                            clear h3 hf h4 H3' f1 f2 f3 f4 f5 f6
                            have BQ := Lib.hid (pw_below_drewN BR.out (nd + nd2))
                            have HHQ := Lib.hid (Kd.H_below HHo.out (pw_below_drewN (Below.refl _ wr) (nd + nd2)))
                            have HRQ := Lib.hid (Kd.R_drewN HRk.out (nd + nd2))
                            obtain ⟨hcc4, hfr4⟩ := Kd.H_at HHQ.out (by omega) (by have := C2.out.2; omega)
                            have he2 := hcc4 2 _ rfl
                            rw [show k46.sz = 3 from rfl] at he2
                            simp only [Int.toNat_natCast] at he2
                            clear hcc4 hfr4 HHo HRk BR SR
                            generalize wr.drewN (nd + nd2) = wQ at BQ HHQ HRQ he2 ⊢
                            go_wp2_with (first | ((with_reducible refine gate_builtin (b := .append) (xs := #[.tmp 82, .tmp 85]) rfl ?_); at_builtin; refine Kd.R_append (Kd.int .i64) (w0 := w0) w0.heap.size rfl (.tmp 82) (.tmp 85) 44 3 (.int .i64 0) 8 rfl Try.underlying44 info3 rfl (by decide) (by omega) (.slice Ak lf.f2.length ck) lf.f2 (Lr.length : Int) [.int .i64 (Lr.length : Int)] (fun q => oki q ∨ (True ∧ wQ.heap.size ≤ q)) (fun _ => False) rfl rfl ?aP (fun _ hk => hk.elim) ?aF ?aO ?aB ?aS ?aL ?_; (case aP => exact rfl); (case aF => exact fun q hq => Or.inr ⟨trivial, hq⟩); (case aO => exact Kd.R_mono HRQ.out (fun _ hk => .inl hk)); (case aB => exact BQ.out); (case aS => exact BQ.out.size); (case aL => have := F.out.1.1; omega); intro v7 w7 ho hb hg hat; have ng : some g ≠ (Value.slice Ak lf.f2.length ck).ownBlock := (fun e => (HOI.out g (HRQ.out.1 g e.symm)).2 rfl); have HH7 := Lib.hid (Kd.H_grown (Kd.H_widen HHQ.out) hg (fun q e => .inl (HRQ.out.1 q e))); obtain ⟨hcc7, hfr7⟩ := Kd.H_at HH7.out (by omega) (by have := C2.out.2; omega); obtain ⟨A3, c3, rfl⟩ := Kd.R_slice ho; have hc7 := hcc7 2 _ rfl; have hf7 := hfr7 2; have HP := Kd.S_seg0 HH7.out (by omega) (by have := C2.out.2; omega) (seg := [.slice A3 (lf.f2 ++ [(Lr.length : Int)]).length c3]) (j := 2) (Nat.le_refl 3) (x' := (⟨lf.f0, lf.f1, lf.f2 ++ [(Lr.length : Int)]⟩ : S46)) (k46_mkM _ _ _ (⟨lf.f0, lf.f1, lf.f2 ++ [(Lr.length : Int)]⟩ : S46) ho) (fun _ hk => hk); rw [show k46.sz = 3 from rfl] at hc7 hf7 HP; simp only [Int.toNat_natCast] at hc7 hf7 HP; have P7 := Lib.hid HP.1; have B7 := Lib.hid hb; clear HP hcc7 hfr7 ho hb hg hat ng HH7 HHQ HRQ BQ he2; rw [List.length_append, List.length_singleton] at P7 ⊢))
                            have S8 := Lib.hid (show Kd.S k46 46 (w7.setCell ⟨g, m * 3 + 2, none⟩ (.slice A3 (lf.f2.length + 1) c3)) w0.heap.size (fun _ => True) (.slice (some ⟨g, 0, none⟩) Lr.length cR) (Lr.set m (⟨lf.f0, lf.f1, lf.f2 ++ [(Lr.length : Int)]⟩ : S46)) from P7.out)
                            have B8 := Lib.hid (below_set B7.out GB.out (j := m * 3 + 2) (v := .slice A3 (lf.f2.length + 1) c3))
                            clear P7 B7 hc7 hf7
                            generalize w7.setCell ⟨g, m * 3 + 2, none⟩ (.slice A3 (lf.f2.length + 1) c3) = w8 at S8 B8 ⊢
                            have f := F.out
                            obtain ⟨i9, hi9, _, hs9, _⟩ := info_parts info9
                            obtain ⟨Ad, hrun, hrd, hcd⟩ := print_mid_of (P := Try.prog) Value.string ByteArray.empty 24 9 .i64 .i64 Try.underlying24 hi9 hs9 (some aw) cap ws i t1 C2.out.1 f.2.1.1 f.2.1.2 HCP.out
                            have W9 := Lib.hid (show Kd.string.C w0 Ad ((ws.take t1.toNat).drop i.toNat).length ((ws.take t1.toNat).drop i.toNat) from Kd.C_of_reads (hrd w0 (Kd.reads_of_C HW.out)))
                            have C9 := Lib.hid hcd
                            have HF' := HF.out
                            clear hrd hcd HF hi9 hs9
                            generalize (ws.take t1.toNat).drop i.toNat = wk at hrun W9 C9 HF'
                            generalize cap - i.toNat = cd at hrun C9
                            have HFF := Lib.hid HF'
                            clear HF'
                            have u1 := eq_true f.2.2.1
                            have u2 := eq_true f.2.2.2
                            have hbr := bt_range hd dp
                            have hw8 : (wrap64 (bt hd dp)) = bt hd dp := by unfold wrap64; omega
                            have hw8' : (IntKind.i64.wrap (bt hd dp)) = bt hd dp := (i64_w _).trans hw8
                            have HW8 := Lib.hid hw8; have HW8' := Lib.hid hw8'
                            clear hw8 hw8' hbr f
                            refine start_ (n := 13) (S := fun _ => True) (ds := [12]) #[false, false, false, false, false, false, false, false, false, false, false, false, false] (by kernel_rfl) rfl rfl trivial (fun hHeld => ?_)
                            have S9 := Lib.hid (Kd.S_drew S8.out); have B9 := Lib.hid (below_drew1 B8.out)
                            clear S8 B8
                            generalize w8.drew = w9 at S9 B9 hHeld ⊢
                            refine pure_ (i := 0) (N := (some 89)) (v := ?_) (a' := ?_) #[true, false, false, false, false, false, false, false, false, false, false, false, false] rfl rfl (by kernel_rfl) (fun _ _ _ h => h) (Or.inl ⟨by rfl, ?_⟩) ?_ ?_
                            rotate_left
                            · intro w'
                              go_simp
                              with_reducible rfl
                            rotate_left
                            · simp only [Act.put, List.setIfInBounds_toArray, List.set_cons_zero, List.set_cons_succ, i64_w, i32_w]
                              rfl
                            refine pure_ (i := 1) (N := (some 90)) (v := ?_) (a' := ?_) #[true, true, false, false, false, false, false, false, false, false, false, false, false] rfl rfl (by kernel_rfl) (fun _ _ _ h => h) (Or.inl ⟨by rfl, ?_⟩) ?_ ?_
                            rotate_left
                            · intro w'
                              go_simp
                              with_reducible rfl
                            rotate_left
                            · simp only [Act.put, List.setIfInBounds_toArray, List.set_cons_zero, List.set_cons_succ, i64_w, i32_w]
                              rfl
                            refine pure_ (i := 2) (N := (some 91)) (v := ?_) (a' := ?_) #[true, true, true, false, false, false, false, false, false, false, false, false, false] rfl rfl (by kernel_rfl) (fun _ _ _ h => h) (Or.inl ⟨by rfl, ?_⟩) ?_ ?_
                            rotate_left
                            · intro w'
                              go_simp
                              with_reducible rfl
                            rotate_left
                            · simp only [Act.put, List.setIfInBounds_toArray, List.set_cons_zero, List.set_cons_succ, i64_w, i32_w]
                              rfl
                            refine pure_ (i := 3) (N := (some 92)) (v := ?_) (a' := ?_) #[true, true, true, true, false, false, false, false, false, false, false, false, false] rfl rfl (by kernel_rfl) (fun _ _ _ h => h) (Or.inl ⟨by rfl, ?_⟩) ?_ ?_
                            rotate_left
                            · intro w'
                              go_simp
                              with_reducible rfl
                            rotate_left
                            · simp only [Act.put, List.setIfInBounds_toArray, List.set_cons_zero, List.set_cons_succ, i64_w, i32_w]
                              rfl
                            refine pure_ (i := 4) (N := (some 93)) (v := ?_) (a' := ?_) #[true, true, true, true, true, false, false, false, false, false, false, false, false] rfl rfl (by kernel_rfl) (fun _ _ _ h => h) (Or.inl ⟨by rfl, ?_⟩) ?_ ?_
                            rotate_left
                            · intro w'
                              go_simp
                              with_reducible rfl
                            rotate_left
                            · simp only [Act.put, List.setIfInBounds_toArray, List.set_cons_zero, List.set_cons_succ, i64_w, i32_w]
                              rfl
                            refine pure_ (i := 5) (N := (some 94)) (v := ?_) (a' := ?_) #[true, true, true, true, true, true, false, false, false, false, false, false, false] rfl rfl (by kernel_rfl) (fun _ _ _ h => h) (Or.inl ⟨by rfl, ?_⟩) ?_ ?_
                            rotate_left
                            · intro w'
                              go_simp
                              with_reducible rfl
                            rotate_left
                            · simp only [Act.put, List.setIfInBounds_toArray, List.set_cons_zero, List.set_cons_succ, i64_w, i32_w]
                              rfl
                            refine pure_ (i := 6) (N := (some 95)) (v := ?_) (a' := ?_) #[true, true, true, true, true, true, true, false, false, false, false, false, false] rfl rfl (by kernel_rfl) (fun _ _ _ h => h) (Or.inl ⟨by rfl, ?_⟩) ?_ ?_
                            rotate_left
                            · intro w'
                              go_simp
                              with_reducible rfl
                            rotate_left
                            · simp only [Act.put, List.setIfInBounds_toArray, List.set_cons_zero, List.set_cons_succ, i64_w, i32_w]
                              rfl
                            refine pure_ (i := 7) (N := (some 96)) (v := ?_) (a' := ?_) #[true, true, true, true, true, true, true, true, false, false, false, false, false] rfl rfl (by kernel_rfl) (fun _ _ _ h => h) (Or.inl ⟨by rfl, ?_⟩) ?_ ?_
                            rotate_left
                            · intro w'
                              go_simp
                              with_reducible rfl
                            rotate_left
                            · simp only [Act.put, List.setIfInBounds_toArray, List.set_cons_zero, List.set_cons_succ, i64_w, i32_w]
                              rfl
                            refine pure_ (i := 8) (N := (some 97)) (v := ?_) (a' := ?_) #[true, true, true, true, true, true, true, true, true, false, false, false, false] rfl rfl (by kernel_rfl) (fun _ _ _ h => h) (Or.inl ⟨by rfl, ?_⟩) ?_ ?_
                            rotate_left
                            · intro w'
                              go_simp
                              with_reducible rfl
                            rotate_left
                            · simp only [Act.put, List.setIfInBounds_toArray, List.set_cons_zero, List.set_cons_succ, i64_w, i32_w]
                              rfl
                            refine pure_ (i := 9) (N := (some 98)) (v := .int .u8 (bt hd dp)) (a' := ?_) #[true, true, true, true, true, true, true, true, true, true, false, false, false] rfl rfl (by kernel_rfl) (fun _ _ _ h => h) (Or.inl ⟨by rfl, ?_⟩) ?_ ?_
                            · intro w'
                              go_simp
                              first | done | (rw [bt_at]; done) | (rw [bt_at]; rfl) | (simp only [bt_at]; done)
                            rotate_left
                            · simp only [Act.put, List.setIfInBounds_toArray, List.set_cons_zero, List.set_cons_succ, i64_w, i32_w]
                              rfl
                            refine pure_ (i := 10) (N := (some 99)) (v := .int .i64 (bt hd dp)) (a' := ?_) #[true, true, true, true, true, true, true, true, true, true, true, false, false] rfl rfl (by kernel_rfl) (fun _ _ _ h => h) (Or.inl ⟨by rfl, ?_⟩) ?_ ?_
                            · intro w'
                              go_simp
                              first | done | (rw [HW8.out]; done) | (rw [HW8.out]; rfl) | (rw [HW8'.out]; done) | (rw [HW8'.out]; rfl)
                            rotate_left
                            · simp only [Act.put, List.setIfInBounds_toArray, List.set_cons_zero, List.set_cons_succ, i64_w, i32_w]
                              rfl
                            clear hrun
                            refine one_ (i := 11) (N := (some 100)) #[true, true, true, true, true, true, true, true, true, true, true, true, false] rfl rfl (by kernel_rfl) (by decide) (fun K hK => ?_)
                            refine goes_ Try.func39 (by kernel_rfl) rfl #[.slice (some ⟨g, 0, none⟩) Lr.length cR, .slice Ad wk.length cd, .int .i64 (wrap64 (dp + 1)), .int .i64 (bt hd dp)] (by rfl) rfl rfl (by (try simp only [List.map_toArray, List.map_cons, List.map_nil]); first | done | rfl) ?_
                            refine (IH.out k1 (by have := HK.out; omega) _ wk (wrap64 (dp + 1)) (bt hd dp) L2 (.slice (some ⟨g, 0, none⟩) Lr.length cR) Ad cd w0 w9 S9.out W9.out C9.out B9.out HFF.out).mono ?_
                            rintro e w10 ⟨v', rfl, s', b'⟩
                            have S10 := Lib.hid s'; have B10 := Lib.hid b'
                            clear s' b' S9 B9 W9 C9 HFF
                            refine ⟨_, rfl, ?_⟩
                            refine hK.out _ _ trivial (fun hHeld => ?_)
                            clear hK K
                            refine norm_ (a' := ?_) ?_ ?_
                            rotate_left
                            · show Act.put _ (some 100) _ = _
                              simp only [Act.put, List.setIfInBounds_toArray, List.set_cons_zero, List.set_cons_succ, i64_w, i32_w]
                              rfl
                            refine pure_ (i := 12) (N := (some 0)) (v := ?_) (a' := ?_) #[true, true, true, true, true, true, true, true, true, true, true, true, true] rfl rfl (by kernel_rfl) (fun _ _ _ h => h) (Or.inl ⟨by rfl, ?_⟩) ?_ ?_
                            rotate_left
                            · intro w'
                              go_simp
                              with_reducible rfl
                            rotate_left
                            · simp only [Act.put, List.setIfInBounds_toArray, List.set_cons_zero, List.set_cons_succ, i64_w, i32_w]
                              rfl
                            refine done_ (by kernel_rfl) ?_
                            clear hHeld
                            go_wp2_with (fail)
                            go_roundg k1
                            case measure => omega
                            case rel => exact ⟨L2, t1, rfl, H4, Lib.hid (by have := HK.out; omega), S10, B10⟩
                          · cases h3
                      · rw [if_neg d2] at H; cases H
                    · rw [if_neg d1] at H
                      obtain rfl := Option.some.inj H
                      have b1 : decide (t1 < (ws.length : Int)) = false := decide_eq_false d1
                      clear H d1
                      have h3 := H3'.out
                      split at h3
                      · rename_i d5
                        obtain ⟨L2, hf, h4⟩ := Option.bind_eq_some_iff.1 h3
                        obtain ⟨⟨f1, f2⟩, ⟨f3, f4⟩, f5, f6⟩ := d5
                        have HF := Lib.hid hf; have H4 := Lib.hid h4; have F := Lib.hid (show (lf.f2.length ≤ 1000000 ∧ Lr.length ≤ 1000000) ∧ (i ≤ t1 ∧ t1 ≤ (ws.length : Int)) ∧ (0 ≤ dp ∧ dp < (hd.size : Int)) from ⟨⟨f1, f2⟩, ⟨f3, f4⟩, f5, f6⟩)
                        clear h3 hf h4 H3' f1 f2 f3 f4 f5 f6
                        have BQ := Lib.hid (pw_below_drewN BR.out (nd))
                        have HHQ := Lib.hid (Kd.H_below HHo.out (pw_below_drewN (Below.refl _ wr) (nd)))
                        have HRQ := Lib.hid (Kd.R_drewN HRk.out (nd))
                        obtain ⟨hcc4, hfr4⟩ := Kd.H_at HHQ.out (by omega) (by have := C2.out.2; omega)
                        have he2 := hcc4 2 _ rfl
                        rw [show k46.sz = 3 from rfl] at he2
                        simp only [Int.toNat_natCast] at he2
                        clear hcc4 hfr4 HHo HRk BR SR
                        generalize wr.drewN (nd) = wQ at BQ HHQ HRQ he2 ⊢
                        go_wp2_with (first | ((with_reducible refine gate_builtin (b := .append) (xs := #[.tmp 82, .tmp 85]) rfl ?_); at_builtin; refine Kd.R_append (Kd.int .i64) (w0 := w0) w0.heap.size rfl (.tmp 82) (.tmp 85) 44 3 (.int .i64 0) 8 rfl Try.underlying44 info3 rfl (by decide) (by omega) (.slice Ak lf.f2.length ck) lf.f2 (Lr.length : Int) [.int .i64 (Lr.length : Int)] (fun q => oki q ∨ (True ∧ wQ.heap.size ≤ q)) (fun _ => False) rfl rfl ?aP (fun _ hk => hk.elim) ?aF ?aO ?aB ?aS ?aL ?_; (case aP => exact rfl); (case aF => exact fun q hq => Or.inr ⟨trivial, hq⟩); (case aO => exact Kd.R_mono HRQ.out (fun _ hk => .inl hk)); (case aB => exact BQ.out); (case aS => exact BQ.out.size); (case aL => have := F.out.1.1; omega); intro v7 w7 ho hb hg hat; have ng : some g ≠ (Value.slice Ak lf.f2.length ck).ownBlock := (fun e => (HOI.out g (HRQ.out.1 g e.symm)).2 rfl); have HH7 := Lib.hid (Kd.H_grown (Kd.H_widen HHQ.out) hg (fun q e => .inl (HRQ.out.1 q e))); obtain ⟨hcc7, hfr7⟩ := Kd.H_at HH7.out (by omega) (by have := C2.out.2; omega); obtain ⟨A3, c3, rfl⟩ := Kd.R_slice ho; have hc7 := hcc7 2 _ rfl; have hf7 := hfr7 2; have HP := Kd.S_seg0 HH7.out (by omega) (by have := C2.out.2; omega) (seg := [.slice A3 (lf.f2 ++ [(Lr.length : Int)]).length c3]) (j := 2) (Nat.le_refl 3) (x' := (⟨lf.f0, lf.f1, lf.f2 ++ [(Lr.length : Int)]⟩ : S46)) (k46_mkM _ _ _ (⟨lf.f0, lf.f1, lf.f2 ++ [(Lr.length : Int)]⟩ : S46) ho) (fun _ hk => hk); rw [show k46.sz = 3 from rfl] at hc7 hf7 HP; simp only [Int.toNat_natCast] at hc7 hf7 HP; have P7 := Lib.hid HP.1; have B7 := Lib.hid hb; clear HP hcc7 hfr7 ho hb hg hat ng HH7 HHQ HRQ BQ he2; rw [List.length_append, List.length_singleton] at P7 ⊢))
                        have S8 := Lib.hid (show Kd.S k46 46 (w7.setCell ⟨g, m * 3 + 2, none⟩ (.slice A3 (lf.f2.length + 1) c3)) w0.heap.size (fun _ => True) (.slice (some ⟨g, 0, none⟩) Lr.length cR) (Lr.set m (⟨lf.f0, lf.f1, lf.f2 ++ [(Lr.length : Int)]⟩ : S46)) from P7.out)
                        have B8 := Lib.hid (below_set B7.out GB.out (j := m * 3 + 2) (v := .slice A3 (lf.f2.length + 1) c3))
                        clear P7 B7 hc7 hf7
                        generalize w7.setCell ⟨g, m * 3 + 2, none⟩ (.slice A3 (lf.f2.length + 1) c3) = w8 at S8 B8 ⊢
                        have f := F.out
                        obtain ⟨i9, hi9, _, hs9, _⟩ := info_parts info9
                        obtain ⟨Ad, hrun, hrd, hcd⟩ := print_mid_of (P := Try.prog) Value.string ByteArray.empty 24 9 .i64 .i64 Try.underlying24 hi9 hs9 (some aw) cap ws i t1 C2.out.1 f.2.1.1 f.2.1.2 HCP.out
                        have W9 := Lib.hid (show Kd.string.C w0 Ad ((ws.take t1.toNat).drop i.toNat).length ((ws.take t1.toNat).drop i.toNat) from Kd.C_of_reads (hrd w0 (Kd.reads_of_C HW.out)))
                        have C9 := Lib.hid hcd
                        have HF' := HF.out
                        clear hrd hcd HF hi9 hs9
                        generalize (ws.take t1.toNat).drop i.toNat = wk at hrun W9 C9 HF'
                        generalize cap - i.toNat = cd at hrun C9
                        have HFF := Lib.hid HF'
                        clear HF'
                        have u1 := eq_true f.2.2.1
                        have u2 := eq_true f.2.2.2
                        have hbr := bt_range hd dp
                        have hw8 : (wrap64 (bt hd dp)) = bt hd dp := by unfold wrap64; omega
                        have hw8' : (IntKind.i64.wrap (bt hd dp)) = bt hd dp := (i64_w _).trans hw8
                        have HW8 := Lib.hid hw8; have HW8' := Lib.hid hw8'
                        clear hw8 hw8' hbr f
                        refine start_ (n := 13) (S := fun _ => True) (ds := [12]) #[false, false, false, false, false, false, false, false, false, false, false, false, false] (by kernel_rfl) rfl rfl trivial (fun hHeld => ?_)
                        have S9 := Lib.hid (Kd.S_drew S8.out); have B9 := Lib.hid (below_drew1 B8.out)
                        clear S8 B8
                        generalize w8.drew = w9 at S9 B9 hHeld ⊢
                        refine pure_ (i := 0) (N := (some 89)) (v := ?_) (a' := ?_) #[true, false, false, false, false, false, false, false, false, false, false, false, false] rfl rfl (by kernel_rfl) (fun _ _ _ h => h) (Or.inl ⟨by rfl, ?_⟩) ?_ ?_
                        rotate_left
                        · intro w'
                          go_simp
                          with_reducible rfl
                        rotate_left
                        · simp only [Act.put, List.setIfInBounds_toArray, List.set_cons_zero, List.set_cons_succ, i64_w, i32_w]
                          rfl
                        refine pure_ (i := 1) (N := (some 90)) (v := ?_) (a' := ?_) #[true, true, false, false, false, false, false, false, false, false, false, false, false] rfl rfl (by kernel_rfl) (fun _ _ _ h => h) (Or.inl ⟨by rfl, ?_⟩) ?_ ?_
                        rotate_left
                        · intro w'
                          go_simp
                          with_reducible rfl
                        rotate_left
                        · simp only [Act.put, List.setIfInBounds_toArray, List.set_cons_zero, List.set_cons_succ, i64_w, i32_w]
                          rfl
                        refine pure_ (i := 2) (N := (some 91)) (v := ?_) (a' := ?_) #[true, true, true, false, false, false, false, false, false, false, false, false, false] rfl rfl (by kernel_rfl) (fun _ _ _ h => h) (Or.inl ⟨by rfl, ?_⟩) ?_ ?_
                        rotate_left
                        · intro w'
                          go_simp
                          with_reducible rfl
                        rotate_left
                        · simp only [Act.put, List.setIfInBounds_toArray, List.set_cons_zero, List.set_cons_succ, i64_w, i32_w]
                          rfl
                        refine pure_ (i := 3) (N := (some 92)) (v := ?_) (a' := ?_) #[true, true, true, true, false, false, false, false, false, false, false, false, false] rfl rfl (by kernel_rfl) (fun _ _ _ h => h) (Or.inl ⟨by rfl, ?_⟩) ?_ ?_
                        rotate_left
                        · intro w'
                          go_simp
                          with_reducible rfl
                        rotate_left
                        · simp only [Act.put, List.setIfInBounds_toArray, List.set_cons_zero, List.set_cons_succ, i64_w, i32_w]
                          rfl
                        refine pure_ (i := 4) (N := (some 93)) (v := ?_) (a' := ?_) #[true, true, true, true, true, false, false, false, false, false, false, false, false] rfl rfl (by kernel_rfl) (fun _ _ _ h => h) (Or.inl ⟨by rfl, ?_⟩) ?_ ?_
                        rotate_left
                        · intro w'
                          go_simp
                          with_reducible rfl
                        rotate_left
                        · simp only [Act.put, List.setIfInBounds_toArray, List.set_cons_zero, List.set_cons_succ, i64_w, i32_w]
                          rfl
                        refine pure_ (i := 5) (N := (some 94)) (v := ?_) (a' := ?_) #[true, true, true, true, true, true, false, false, false, false, false, false, false] rfl rfl (by kernel_rfl) (fun _ _ _ h => h) (Or.inl ⟨by rfl, ?_⟩) ?_ ?_
                        rotate_left
                        · intro w'
                          go_simp
                          with_reducible rfl
                        rotate_left
                        · simp only [Act.put, List.setIfInBounds_toArray, List.set_cons_zero, List.set_cons_succ, i64_w, i32_w]
                          rfl
                        refine pure_ (i := 6) (N := (some 95)) (v := ?_) (a' := ?_) #[true, true, true, true, true, true, true, false, false, false, false, false, false] rfl rfl (by kernel_rfl) (fun _ _ _ h => h) (Or.inl ⟨by rfl, ?_⟩) ?_ ?_
                        rotate_left
                        · intro w'
                          go_simp
                          with_reducible rfl
                        rotate_left
                        · simp only [Act.put, List.setIfInBounds_toArray, List.set_cons_zero, List.set_cons_succ, i64_w, i32_w]
                          rfl
                        refine pure_ (i := 7) (N := (some 96)) (v := ?_) (a' := ?_) #[true, true, true, true, true, true, true, true, false, false, false, false, false] rfl rfl (by kernel_rfl) (fun _ _ _ h => h) (Or.inl ⟨by rfl, ?_⟩) ?_ ?_
                        rotate_left
                        · intro w'
                          go_simp
                          with_reducible rfl
                        rotate_left
                        · simp only [Act.put, List.setIfInBounds_toArray, List.set_cons_zero, List.set_cons_succ, i64_w, i32_w]
                          rfl
                        refine pure_ (i := 8) (N := (some 97)) (v := ?_) (a' := ?_) #[true, true, true, true, true, true, true, true, true, false, false, false, false] rfl rfl (by kernel_rfl) (fun _ _ _ h => h) (Or.inl ⟨by rfl, ?_⟩) ?_ ?_
                        rotate_left
                        · intro w'
                          go_simp
                          with_reducible rfl
                        rotate_left
                        · simp only [Act.put, List.setIfInBounds_toArray, List.set_cons_zero, List.set_cons_succ, i64_w, i32_w]
                          rfl
                        refine pure_ (i := 9) (N := (some 98)) (v := .int .u8 (bt hd dp)) (a' := ?_) #[true, true, true, true, true, true, true, true, true, true, false, false, false] rfl rfl (by kernel_rfl) (fun _ _ _ h => h) (Or.inl ⟨by rfl, ?_⟩) ?_ ?_
                        · intro w'
                          go_simp
                          first | done | (rw [bt_at]; done) | (rw [bt_at]; rfl) | (simp only [bt_at]; done)
                        rotate_left
                        · simp only [Act.put, List.setIfInBounds_toArray, List.set_cons_zero, List.set_cons_succ, i64_w, i32_w]
                          rfl
                        refine pure_ (i := 10) (N := (some 99)) (v := .int .i64 (bt hd dp)) (a' := ?_) #[true, true, true, true, true, true, true, true, true, true, true, false, false] rfl rfl (by kernel_rfl) (fun _ _ _ h => h) (Or.inl ⟨by rfl, ?_⟩) ?_ ?_
                        · intro w'
                          go_simp
                          first | done | (rw [HW8.out]; done) | (rw [HW8.out]; rfl) | (rw [HW8'.out]; done) | (rw [HW8'.out]; rfl)
                        rotate_left
                        · simp only [Act.put, List.setIfInBounds_toArray, List.set_cons_zero, List.set_cons_succ, i64_w, i32_w]
                          rfl
                        clear hrun
                        refine one_ (i := 11) (N := (some 100)) #[true, true, true, true, true, true, true, true, true, true, true, true, false] rfl rfl (by kernel_rfl) (by decide) (fun K hK => ?_)
                        refine goes_ Try.func39 (by kernel_rfl) rfl #[.slice (some ⟨g, 0, none⟩) Lr.length cR, .slice Ad wk.length cd, .int .i64 (wrap64 (dp + 1)), .int .i64 (bt hd dp)] (by rfl) rfl rfl (by (try simp only [List.map_toArray, List.map_cons, List.map_nil]); first | done | rfl) ?_
                        refine (IH.out k1 (by have := HK.out; omega) _ wk (wrap64 (dp + 1)) (bt hd dp) L2 (.slice (some ⟨g, 0, none⟩) Lr.length cR) Ad cd w0 w9 S9.out W9.out C9.out B9.out HFF.out).mono ?_
                        rintro e w10 ⟨v', rfl, s', b'⟩
                        have S10 := Lib.hid s'; have B10 := Lib.hid b'
                        clear s' b' S9 B9 W9 C9 HFF
                        refine ⟨_, rfl, ?_⟩
                        refine hK.out _ _ trivial (fun hHeld => ?_)
                        clear hK K
                        refine norm_ (a' := ?_) ?_ ?_
                        rotate_left
                        · show Act.put _ (some 100) _ = _
                          simp only [Act.put, List.setIfInBounds_toArray, List.set_cons_zero, List.set_cons_succ, i64_w, i32_w]
                          rfl
                        refine pure_ (i := 12) (N := (some 0)) (v := ?_) (a' := ?_) #[true, true, true, true, true, true, true, true, true, true, true, true, true] rfl rfl (by kernel_rfl) (fun _ _ _ h => h) (Or.inl ⟨by rfl, ?_⟩) ?_ ?_
                        rotate_left
                        · intro w'
                          go_simp
                          with_reducible rfl
                        rotate_left
                        · simp only [Act.put, List.setIfInBounds_toArray, List.set_cons_zero, List.set_cons_succ, i64_w, i32_w]
                          rfl
                        refine done_ (by kernel_rfl) ?_
                        clear hHeld
                        go_wp2_with (fail)
                        go_roundg k1
                        case measure => omega
                        case rel => exact ⟨L2, t1, rfl, H4, Lib.hid (by have := HK.out; omega), S10, B10⟩
                      · cases h3
            · rw [if_neg c2] at H; cases H
          · rw [if_neg c1] at H
            obtain rfl := Option.some.inj H
            have b1 : decide (i < (ws.length : Int)) = false := decide_eq_false c1
            clear H
            go_wp2_with (fail)
            go_ret
            exact ⟨_, rfl, SR.out, BR.out⟩
    · rw [if_neg hL] at h; cases h
/-! ### ancepsref54_Tree: function 17 -/
def ancepsref54_Tree.f (k : Nat) (l0_0 : List ByteArray) : Option (List S46 × Int) := (ancepsref54_Valid.f k l0_0).bind fun e => if e = 0 then ((ancepsref54_grow.f k [] l0_0 0 0).bind fun t => some (t, 0)) else some ([], e)
theorem ancepsref54_Tree.mono : ∀ a0 k, LeO (ancepsref54_Tree.f k a0) (ancepsref54_Tree.f (k + 1) a0) := by
  intro a0 k
  unfold ancepsref54_Tree.f
  exact LeO.bind (ancepsref54_Valid.mono _ _) fun _ => LeO.ite (LeO.bind (ancepsref54_grow.mono _ _ _ _ _) fun _ => LeO.refl _) (LeO.refl _)
set_option maxHeartbeats 4000000 in
set_option maxRecDepth 100000 in
theorem ancepsref54_Tree.calls (k : Nat) (A0_0 : Option Addr) (c0_0 : Nat) (l0_0 : List ByteArray) (r1 : List S46) (r2 : Int) (w : World) (hr0_0 : Kd.C Kd.string w A0_0 l0_0.length l0_0) (hc0_0 : l0_0.length ≤ c0_0) (h : ancepsref54_Tree.f k l0_0 = some (r1, r2)) :
    Calls Try.prog 17 #[.agg #[.slice A0_0 l0_0.length c0_0]] w fun e w' => ∃ v0_ : Value, e = .returned (.tuple #[v0_, .int .i64 r2]) ∧ Kd.S k46 46 w' w.heap.size (fun _ => True) v0_ r1 ∧ Below w.heap.size w w' := by
  have hu26 := Try.underlying26
  unfold ancepsref54_Tree.f at h
  obtain ⟨e0, he, h1⟩ := Option.bind_eq_some_iff.1 h
  clear h
  have HV := Lib.hid he; have HR := Lib.hid hr0_0; have HC := Lib.hid hc0_0; have H1 := Lib.hid h1
  clear he hr0_0 hc0_0 h1
  go_enter Try.func17, Try.ntmps17
  go_wp2_with (first | ((with_reducible refine gate_dst (N := 1) rfl ?_); (try (refine gate_guard (by rfl) ?_; dsimp only)); refine box_event ?hg (N := 1) ?hd (cs := #[.slice A0_0 l0_0.length c0_0]) (t := 26) ?hr ?_; (case hd => rfl); (case hg => rfl); (case hr => first | (go_simp; done) | (go_simp; rfl)); intro b1 hb1 w1 hbox hbb; have Q1 := Lib.hid hbox; have B1 := Lib.hid hbb; clear hb1 hbox hbb; have hcx := (blk_cell Q1.out 0).trans (show _ = some (Value.slice A0_0 l0_0.length c0_0) from rfl)))
  refine (ancepsref54_Valid.calls k A0_0 c0_0 l0_0 e0 _ (Kd.C_below HR.out B1.out) HC.out HV.out).mono ?_
  rintro e w2 ⟨rfl, hb⟩
  have B2 := Lib.hid (B1.out.trans (hb.mono B1.out.size))
  have Q2 := Lib.hid (blk_below Q1.out hb)
  clear hb hcx Q1 B1
  have h1 := H1.out
  clear H1
  by_cases c0 : e0 = 0
  · subst c0
    rw [if_pos rfl] at h1
    obtain ⟨t, ht, h2⟩ := Option.bind_eq_some_iff.1 h1
    obtain ⟨rfl, rfl⟩ := Prod.mk.inj (Option.some.inj h2)
    have HG := Lib.hid ht
    clear h1 h2 ht
    have hcx := (blk_cell Q2.out 0).trans (show _ = some (Value.slice A0_0 l0_0.length c0_0) from rfl)
    go_wp2_with (fail)
    refine (ancepsref54_grow.walk k [] l0_0 0 0 t (.slice none 0 0) A0_0 c0_0 w _ (Kd.S_nil _ _ _ _ _) HR.out HC.out B2.out HG.out).mono ?_
    rintro e w4 ⟨v', rfl, s4, b4⟩
    have S4 := Lib.hid s4; have B4 := Lib.hid b4
    clear s4 b4
    go_wp2_with (fail)
    go_ret2
    exact ⟨_, rfl, S4.out, B4.out⟩
  · rw [if_neg c0] at h1
    obtain ⟨rfl, rfl⟩ := Prod.mk.inj (Option.some.inj h1)
    have b0 : (e0 != 0) = true := by simp [c0]
    have b0' : (e0 == 0) = false := beq_eq_false_iff_ne.2 c0
    go_wp2_with (fail)
    go_ret2
    exact ⟨_, rfl, Kd.S_nil _ _ _ _ _, B2.out⟩

end Go.Proofs.Ytdaooagikacboaa.X
