-- thinned
-- halved indents
-- printed by this session's xprint.py: out of the translation, by the kit's print with additions; Lean checks it
import Derived.Test.YtdaooagikacboaaWN
import Derived.Test.YtdaooagikacboaaWShare
import Derived.Test.YtdaooagikacboaaWRepsOne
import Derived.Test.YtdaooagikacboaaX0
import Derived.Test.YtdaooagikacboaaX2
import Derived.Test.YtdaooagikacboaaX6
import Derived.Test.YtdaooagikacboaaX7
import Derived.Test.YtdaooagikacboaaX8
import Derived.Test.YtdaooagikacboaaX9
import Derived.Test.YtdaooagikacboaaX12
import Derived.Test.YtdaooagikacboaaX13
import Derived.Test.YtdaooagikacboaaX23
import Derived.Test.YtdaooagikacboaaX24
namespace Go.Proofs.Ytdaooagikacboaa.X
open Go.RowKit Go.Proofs.YtdaooagikacboaaW.PrintWords Go.Proofs.YtdaooagikacboaaW.PrintLast Go.Proofs.YtdaooagikacboaaW.PrintMore
attribute [local go_sem] max2_int min2_int max_two min_two max_three min_three max_four min_four isSome_setCell binOp_gtr_str binOp_leq_str binOp_geq_str   -- for this text's walks alone
set_option linter.unusedVariables false
set_option linter.unusedSimpArgs false

/-! ### ancepslaw54_WordlistChanges: function 7 -/
mutual
def ancepslaw54_WordlistChanges.j0 : Nat → ByteArray → Bool → List ByteArray → Option (Bool)
 | 0, _, _, _ => none
 | k + 1, x1, x22, x486000 => if x22 = true then ((ancepslaw54_awake.f k).bind fun t488 => (some t488)) else ((ancepslaw54_copied.f x486000).bind fun t489 => ((wordlist_Add.f k t489 x1).bind fun bt492 => ((ancepsref54_Add.f k x486000 x1).bind fun bt497 => ((ancepslaw54_copied.f x486000).bind fun t502 => ((wordlist_Remove.f k t502 x1).bind fun bt505 => ((ancepsref54_Remove.f k x486000 x1).bind fun bt510 => ((ancepslaw54_copied.f x486000).bind fun t515 => ((wordlist_Valid.f k t515).bind fun t518 => ((ancepsref54_Valid.f k x486000).bind fun t519 => (if t518 = t519 then ((ancepslaw54_copied.f x486000).bind fun t520 => ((wordlist_Has.f k t520 x1).bind fun t523 => ((ancepsref54_Has.f k x486000 x1).bind fun t524 => (if (t523 != t524) = true then (none) else (if bt492.2 = bt497.2 then ((slices_Equal_string_string.f k bt492.1 bt497.1).bind fun t525 => (if t525 = true then (if bt505.2 = bt510.2 then ((slices_Equal_string_string.f k bt505.1 bt510.1).bind fun t526 => (ancepslaw54_WordlistChanges.j1 k x1 bt492.2 (!t526) x486000 bt492.1)) else (none)) else (none))) else (none)))))) else (none)))))))))))
def ancepslaw54_WordlistChanges.j1 : Nat → ByteArray → Int → Bool → List ByteArray → List ByteArray → Option (Bool)
 | 0, _, _, _, _, _ => none
 | k + 1, x1, x6, x91, x486000, x497000 => if x91 = true then (none) else (if x6 = 0 then ((wordlist_Remove.f k x497000 x1).bind fun bt527 => (if bt527.2 = 0 then ((slices_Equal_string_string.f k bt527.1 x486000).bind fun t532 => (if t532 = true then ((wordlist_Has.f k x497000 x1).bind fun t533 => (if t533 = true then ((wordlist_Has.f k bt527.1 x1).bind fun t534 => (some (!t534))) else (none))) else (none))) else (none))) else (some true))
end
def ancepslaw54_WordlistChanges.f (k : Nat) (l0_0 : List ByteArray) (a1 : ByteArray) : Option (Bool) := (ancepslaw54_awake.f k).bind fun t486 => (if t486 = true then ((ancepslaw54_few.f k l0_0 a1).bind fun t487 => (ancepslaw54_WordlistChanges.j0 k a1 (!t487) l0_0)) else (ancepslaw54_WordlistChanges.j0 k a1 true l0_0))
theorem ancepslaw54_WordlistChanges.mono_l : ∀ k, (∀ y0 y1 y2, LeO (ancepslaw54_WordlistChanges.j0 k y0 y1 y2) (ancepslaw54_WordlistChanges.j0 (k + 1) y0 y1 y2)) ∧ (∀ y0 y1 y2 y3 y4, LeO (ancepslaw54_WordlistChanges.j1 k y0 y1 y2 y3 y4) (ancepslaw54_WordlistChanges.j1 (k + 1) y0 y1 y2 y3 y4))
 | 0 => ⟨fun _ _ _ r h => by simp [ancepslaw54_WordlistChanges.j0] at h, fun _ _ _ _ _ r h => by simp [ancepslaw54_WordlistChanges.j1] at h⟩
 | k + 1 => by
  obtain ⟨ih0, ih1⟩ := ancepslaw54_WordlistChanges.mono_l k
  refine ⟨?_, ?_⟩
  ·intro y0 y1 y2
   unfold ancepslaw54_WordlistChanges.j0
   repeat' first
   | (with_reducible exact ih0 _ _ _)
   | (with_reducible exact ih1 _ _ _ _ _)
   | (with_reducible exact ancepslaw54_awake.mono _)
   | (with_reducible exact ancepslaw54_few.mono _ _ _)
   | (with_reducible exact ancepsref54_Add.mono _ _ _)
   | (with_reducible exact ancepsref54_Has.mono _ _ _)
   | (with_reducible exact ancepsref54_Remove.mono _ _ _)
   | (with_reducible exact ancepsref54_Valid.mono _ _)
   | (with_reducible exact slices_Equal_string_string.mono _ _ _)
   | (with_reducible exact wordlist_Add.mono _ _ _)
   | (with_reducible exact wordlist_Has.mono _ _ _)
   | (with_reducible exact wordlist_Remove.mono _ _ _)
   | (with_reducible exact wordlist_Valid.mono _ _)
   | (with_reducible exact LeO.refl _)
   | (with_reducible exact LeO.none _)
   | (with_reducible refine LeO.ite ?_ ?_)
   | (with_reducible refine LeO.bind ?_ (fun _ => ?_))
   | exact ih0 _ _ _
   | exact ih1 _ _ _ _ _
   | exact ancepslaw54_awake.mono _
   | exact ancepslaw54_few.mono _ _ _
   | exact ancepsref54_Add.mono _ _ _
   | exact ancepsref54_Has.mono _ _ _
   | exact ancepsref54_Remove.mono _ _ _
   | exact ancepsref54_Valid.mono _ _
   | exact slices_Equal_string_string.mono _ _ _
   | exact wordlist_Add.mono _ _ _
   | exact wordlist_Has.mono _ _ _
   | exact wordlist_Remove.mono _ _ _
   | exact wordlist_Valid.mono _ _
   | exact LeO.none _
   | refine LeO.ite ?_ ?_
   | refine LeO.bind ?_ (fun _ => ?_)
  ·intro y0 y1 y2 y3 y4
   unfold ancepslaw54_WordlistChanges.j1
   repeat' first
   | (with_reducible exact ih0 _ _ _)
   | (with_reducible exact ih1 _ _ _ _ _)
   | (with_reducible exact ancepslaw54_awake.mono _)
   | (with_reducible exact ancepslaw54_few.mono _ _ _)
   | (with_reducible exact ancepsref54_Add.mono _ _ _)
   | (with_reducible exact ancepsref54_Has.mono _ _ _)
   | (with_reducible exact ancepsref54_Remove.mono _ _ _)
   | (with_reducible exact ancepsref54_Valid.mono _ _)
   | (with_reducible exact slices_Equal_string_string.mono _ _ _)
   | (with_reducible exact wordlist_Add.mono _ _ _)
   | (with_reducible exact wordlist_Has.mono _ _ _)
   | (with_reducible exact wordlist_Remove.mono _ _ _)
   | (with_reducible exact wordlist_Valid.mono _ _)
   | (with_reducible exact LeO.refl _)
   | (with_reducible exact LeO.none _)
   | (with_reducible refine LeO.ite ?_ ?_)
   | (with_reducible refine LeO.bind ?_ (fun _ => ?_))
   | exact ih0 _ _ _
   | exact ih1 _ _ _ _ _
   | exact ancepslaw54_awake.mono _
   | exact ancepslaw54_few.mono _ _ _
   | exact ancepsref54_Add.mono _ _ _
   | exact ancepsref54_Has.mono _ _ _
   | exact ancepsref54_Remove.mono _ _ _
   | exact ancepsref54_Valid.mono _ _
   | exact slices_Equal_string_string.mono _ _ _
   | exact wordlist_Add.mono _ _ _
   | exact wordlist_Has.mono _ _ _
   | exact wordlist_Remove.mono _ _ _
   | exact wordlist_Valid.mono _ _
   | exact LeO.none _
   | refine LeO.ite ?_ ?_
   | refine LeO.bind ?_ (fun _ => ?_)
theorem ancepslaw54_WordlistChanges.mono : ∀ a0 a1 k, LeO (ancepslaw54_WordlistChanges.f k a0 a1) (ancepslaw54_WordlistChanges.f (k + 1) a0 a1) := by
 intro a0 a1 k
 obtain ⟨ih0, ih1⟩ := ancepslaw54_WordlistChanges.mono_l k
 unfold ancepslaw54_WordlistChanges.f
 repeat' first
   | (with_reducible exact ih0 _ _ _)
   | (with_reducible exact ih1 _ _ _ _ _)
   | (with_reducible exact ancepslaw54_awake.mono _)
   | (with_reducible exact ancepslaw54_few.mono _ _ _)
   | (with_reducible exact ancepsref54_Add.mono _ _ _)
   | (with_reducible exact ancepsref54_Has.mono _ _ _)
   | (with_reducible exact ancepsref54_Remove.mono _ _ _)
   | (with_reducible exact ancepsref54_Valid.mono _ _)
   | (with_reducible exact slices_Equal_string_string.mono _ _ _)
   | (with_reducible exact wordlist_Add.mono _ _ _)
   | (with_reducible exact wordlist_Has.mono _ _ _)
   | (with_reducible exact wordlist_Remove.mono _ _ _)
   | (with_reducible exact wordlist_Valid.mono _ _)
   | (with_reducible exact LeO.refl _)
   | (with_reducible exact LeO.none _)
   | (with_reducible refine LeO.ite ?_ ?_)
   | (with_reducible refine LeO.bind ?_ (fun _ => ?_))
   | exact ih0 _ _ _
   | exact ih1 _ _ _ _ _
   | exact ancepslaw54_awake.mono _
   | exact ancepslaw54_few.mono _ _ _
   | exact ancepsref54_Add.mono _ _ _
   | exact ancepsref54_Has.mono _ _ _
   | exact ancepsref54_Remove.mono _ _ _
   | exact ancepsref54_Valid.mono _ _
   | exact slices_Equal_string_string.mono _ _ _
   | exact wordlist_Add.mono _ _ _
   | exact wordlist_Has.mono _ _ _
   | exact wordlist_Remove.mono _ _ _
   | exact wordlist_Valid.mono _ _
   | exact LeO.none _
   | refine LeO.ite ?_ ?_
   | refine LeO.bind ?_ (fun _ => ?_)
def ancepslaw54_WordlistChanges.T7 : Bool × List (List Nat × List Nat) := (true, [([], []), ([0], [0]), ([1, 1], [1]), ([], []), ([3, 2], [3]), ([2, 4], [2, 4]), ([5, 4], [5]), ([6], [6]), ([7, 6, 6], [6, 7]), ([6], [6]), ([8, 9, 8, 6], [6, 8, 9]), ([6], [6]), ([6], [6]), ([11, 12, 10, 6], [6, 11, 12]), ([10, 13, 6], [6, 10, 13]), ([6, 14], [6, 14]), ([15, 13], [15]), ([16], [16]), ([16], [16]), ([17, 18, 16], [16, 17, 18]), ([16, 19], [16, 19]), ([20, 16], [20]), ([21], [21]), ([22, 21], [21, 22]), ([21], [21]), ([24, 21], [21, 24]), ([23, 25, 21, 21], [21, 23, 25]), ([26, 21], [21, 26]), ([21, 27], [21, 27]), ([28, 26], [28]), ([29], [29]), ([29], [29]), ([30, 31, 29], [29, 30, 31]), ([29, 32], [29, 32]), ([33, 29], [33]), ([34], [34]), ([35, 34], [34, 35]), ([34], [34]), ([37, 34], [34, 37]), ([36, 38, 34, 34], [34, 36, 38]), ([39, 34], [34, 39]), ([34, 40], [34, 40])])
def ancepslaw54_WordlistChanges.B7 : List Nat := [0, 1, 3, 0, 15, 31, 63, 127, 255, 127, 1023, 127, 127, 8191, 16383, 32767, 65535, 131071, 131071, 524287, 1048575, 2097151, 4194303, 8388607, 4194303, 20971519, 67108863, 134217727, 268435455, 536870911, 1073741823, 1073741823, 4294967295, 8589934591, 17179869183, 34359738367, 68719476735, 34359738367, 171798691839, 549755813887, 1099511627775, 2199023255551]
theorem ancepslaw54_WordlistChanges.tab7 : rtab .any (opsOf Try.f7 7) = ancepslaw54_WordlistChanges.T7 := by kernel_rfl
theorem ancepslaw54_WordlistChanges.bits7 : waitsOk ancepslaw54_WordlistChanges.T7.2 ancepslaw54_WordlistChanges.B7 = true := by kernel_rfl
set_option maxHeartbeats 8000000 in
set_option maxRecDepth 100000 in
theorem ancepslaw54_WordlistChanges.calls (k : Nat) (A0_0 : Option Addr) (c0_0 : Nat) (l0_0 : List ByteArray) (a1 : ByteArray) (r : Bool) (w : World) (hr0_0 : Kd.C Kd.string w A0_0 l0_0.length l0_0) (hc0_0 : l0_0.length ≤ c0_0) (h : ancepslaw54_WordlistChanges.f k l0_0 a1 = some r) :
  Calls Try.prog 7 #[.agg #[.slice A0_0 l0_0.length c0_0], .string a1] w fun e w' => e = .returned (.bool r) ∧ Below w.heap.size w w' := by
 have hu26 := Try.underlying26
 have HR0_0 := Aside0.mk hr0_0
 have HC0_0 := Aside0.mk hc0_0
 clear hr0_0 hc0_0
 have HB := Aside0.mk (Below.refl w.heap.size w)
 have H : ((ancepslaw54_awake.f k).bind fun t486 => (if t486 = true then ((ancepslaw54_few.f k l0_0 a1).bind fun t487 => (ancepslaw54_WordlistChanges.j0 k a1 (!t487) l0_0)) else (ancepslaw54_WordlistChanges.j0 k a1 true l0_0))) = some r := h
 clear h
 have HC3 := Aside0.mk H
 clear H
 go_enter Try.func7, Try.ntmps7
 go_upto_region 1 with (first | ((with_reducible refine gate_dst (N := 2) rfl ?_); refine box_event ?hg (N := 2) ?hd (cs := #[.slice A0_0 l0_0.length c0_0]) (t := 26) ?hr ?_; (case hd | hg => rfl); (case hr => first | (go_simp; done) | (go_simp; rfl)); intro gb485 hg w4 hbox hb; have n0_ := Aside0.mk (below_step (by repeat (first | (with_reducible first | exact HB.out | apply below_alloc | apply pw_below_drewN | apply below_drew1) | exact HB.out)) hb); have n1_ := Aside0.mk (hbox); have n2_ := Aside0.mk ((by rw [hg]; exact (below_size (by repeat (first | (with_reducible first | exact HB.out | apply below_alloc | apply pw_below_drewN | apply below_drew1) | exact HB.out))) : w.heap.size ≤ gb485)); have n3_ := Aside0.mk ((by rw [hg]; exact (below_size (by repeat (first | (with_reducible first | exact HB.out | apply below_alloc | apply pw_below_drewN | apply below_drew1) | exact HB.out))) : w.heap.size ≤ gb485)); clear HB; have HB := n0_; have BK485 := n1_; have GW485 := n2_; have GE485 := n3_; clear n0_ n1_ n2_ n3_; clear hb hbox hg))
 (try simp only [Act.put, List.setIfInBounds_toArray, List.set_cons_zero, List.set_cons_succ])
 go_cut [22] (fun v22 wc => ∃ (kq : Nat) (x22_2 : Bool), v22 = .bool x22_2 ∧ Aside0 (ancepslaw54_WordlistChanges.j0 kq a1 x22_2 l0_0 = some r) ∧ Aside0 (kq ≤ k) ∧ Aside0 (wc.heap[gb485]? = some (.cells #[(.slice A0_0 l0_0.length c0_0)] 26 (0, 0))) ∧ Aside0 (Below w.heap.size w wc))
 case first =>
  have H := HC3.out
  clear HC3
  replace H := Option.bind_eq_some_iff.mp H
  obtain ⟨t486, A50, H⟩ := H
  try dsimp only at H
  have A5 := Aside0.mk A50
  clear A50
  by_cases c6 : t486 = true
  ·subst c6
   have H1 : ((ancepslaw54_few.f k l0_0 a1).bind fun t487 => (ancepslaw54_WordlistChanges.j0 k a1 (!t487) l0_0)) = some r := by rw [if_pos rfl] at H; exact H
   clear H
   have H := H1
   clear H1
   replace H := Option.bind_eq_some_iff.mp H
   obtain ⟨t487, A70, H⟩ := H
   try dsimp only at H
   have A7 := Aside0.mk A70
   clear A70
   have H' := Aside0.mk H
   clear H
   go_wp2_with (first | ((with_reducible refine gate_callee (f := 8) rfl ?_); refine goesL_ (some 15) rfl rfl Try.func8 (by kernel_rfl) rfl #[] rfl (by (try simp only [List.map_toArray, List.map_cons, List.map_nil]); first | done | rfl | (simp only [List.length_drop, List.length_take]; rfl)) ?_; (with_reducible refine (ancepslaw54_awake.calls k  true _ A5.out).mono ?_); rintro e w8 ⟨rfl, hb⟩; refine ⟨_, rfl, ?_⟩; have n0_ := Aside0.mk (blk_below (g := gb485) (o := .cells #[.slice A0_0 l0_0.length c0_0] 26 (0, 0)) (by (with_reducible repeat (first | apply blk_drewN | apply blk_drew | apply blk_alloc)); exact BK485.out) hb); have n1_ := Aside0.mk (below_step (by repeat (first | (with_reducible first | exact HB.out | apply below_alloc | apply pw_below_drewN | apply below_drew1 | refine below_set ?_ GE485.out) | exact HB.out)) hb); clear BK485; clear HB; have BK485 := n0_; have HB := n1_; clear n0_ n1_; (try clear hb); (try clear hb2); (try clear hk); (try clear hi); have hcz9_0 : w8.cell? ⟨gb485, 0, none⟩ = some (.slice A0_0 l0_0.length c0_0) := (blk_cell BK485.out 0).trans rfl; have hfz9_0 := blk_frozen BK485.out 0) | (go_at_call 12; (with_reducible refine (ancepslaw54_few.calls k _ _ l0_0 a1 t487 _ ?side1 ?side2 A7.out).mono ?_); (case side1 => repeat (first | exact (Kd.C_below HR0_0.out HB.out) | (with_reducible refine Kd.C_alloc ?_ _) | (with_reducible refine Kd.C_drewN ?_ _) | (with_reducible refine Kd.C_drew ?_))); (case side2 => exact HC0_0.out); rintro e w10 ⟨rfl, hb⟩; have n0_ := Aside0.mk (blk_below (g := gb485) (o := .cells #[.slice A0_0 l0_0.length c0_0] 26 (0, 0)) (by (with_reducible repeat (first | apply blk_drewN | apply blk_drew | apply blk_alloc)); exact BK485.out) hb); have n1_ := Aside0.mk (below_step (by repeat (first | (with_reducible first | exact HB.out | apply below_alloc | apply pw_below_drewN | apply below_drew1 | refine below_set ?_ GE485.out) | exact HB.out)) hb); clear BK485; clear HB; have BK485 := n0_; have HB := n1_; clear n0_ n1_; (try clear hb); (try clear hb2); (try clear hk); (try clear hi)))
   go_meet
   case rel => exact ⟨_, (!t487), (by first | rfl | (simp; done) | (simp [*]; done)), H', ⟨by first | omega | exact Nat.le_refl _⟩, ⟨by (with_reducible repeat (first | apply blk_drewN | apply blk_drew | apply blk_alloc)); exact BK485.out⟩, ⟨by repeat (first | (with_reducible first | exact HB.out | apply below_alloc | apply pw_below_drewN | apply below_drew1 | refine below_set ?_ GE485.out) | exact HB.out)⟩⟩
  ·replace c6 := Bool.eq_false_iff.mpr c6
   subst c6
   have H1 : (ancepslaw54_WordlistChanges.j0 k a1 true l0_0) = some r := by rw [if_neg (show ¬ (false = true) by decide)] at H; exact H
   clear H
   have H := H1
   clear H1
   have H' := Aside0.mk H
   clear H
   go_wp2_with (first | ((with_reducible refine gate_callee (f := 8) rfl ?_); refine goesL_ (some 15) rfl rfl Try.func8 (by kernel_rfl) rfl #[] rfl (by (try simp only [List.map_toArray, List.map_cons, List.map_nil]); first | done | rfl | (simp only [List.length_drop, List.length_take]; rfl)) ?_; (with_reducible refine (ancepslaw54_awake.calls k  false _ A5.out).mono ?_); rintro e w11 ⟨rfl, hb⟩; refine ⟨_, rfl, ?_⟩; have n0_ := Aside0.mk (blk_below (g := gb485) (o := .cells #[.slice A0_0 l0_0.length c0_0] 26 (0, 0)) (by (with_reducible repeat (first | apply blk_drewN | apply blk_drew | apply blk_alloc)); exact BK485.out) hb); have n1_ := Aside0.mk (below_step (by repeat (first | (with_reducible first | exact HB.out | apply below_alloc | apply pw_below_drewN | apply below_drew1 | refine below_set ?_ GE485.out) | exact HB.out)) hb); clear BK485; clear HB; have BK485 := n0_; have HB := n1_; clear n0_ n1_; (try clear hb); (try clear hb2); (try clear hk); (try clear hi)))
   go_meet
   case rel => exact ⟨_, (true), (by first | rfl | (simp; done) | (simp [*]; done)), H', ⟨by first | omega | exact Nat.le_refl _⟩, ⟨by (with_reducible repeat (first | apply blk_drewN | apply blk_drew | apply blk_alloc)); exact BK485.out⟩, ⟨by repeat (first | (with_reducible first | exact HB.out | apply below_alloc | apply pw_below_drewN | apply below_drew1 | refine below_set ?_ GE485.out) | exact HB.out)⟩⟩
 case rest =>
  clear HC3
  try clear p2
  try clear c6
  try clear c7
  try clear c8
  try clear hcz9_0
  try clear hfz9_0
  obtain ⟨kq, x22_2, rfl, HA, HJ2, BK485, HB⟩ := hcut
  cases kq with
  | zero => exact absurd HA.out (by simp [ancepslaw54_WordlistChanges.j0])
  | succ kj2 =>
   have H := HA.out
   clear HA
   simp only [ancepslaw54_WordlistChanges.j0] at H
   by_cases c12 : x22_2 = true
   ·subst c12
    have H1 : ((ancepslaw54_awake.f kj2).bind fun t488 => (some t488)) = some r := by rw [if_pos rfl] at H; exact H
    clear H
    have H := H1
    clear H1
    replace H := Option.bind_eq_some_iff.mp H
    obtain ⟨t488, A130, H⟩ := H
    replace H : (some t488) = some r := H
    have A13 := Aside0.mk A130
    clear A130
    obtain rfl := Option.some.inj H
    go_wp2_with (first | ((with_reducible refine gate_callee (f := 8) rfl ?_); refine goesL_ (some 23) rfl rfl Try.func8 (by kernel_rfl) rfl #[] rfl (by (try simp only [List.map_toArray, List.map_cons, List.map_nil]); first | done | rfl | (simp only [List.length_drop, List.length_take]; rfl)) ?_; (with_reducible refine (ancepslaw54_awake.calls kj2  t488 _ A13.out).mono ?_); rintro e w14 ⟨rfl, hb⟩; refine ⟨_, rfl, ?_⟩; have n0_ := Aside0.mk (blk_below (g := gb485) (o := .cells #[.slice A0_0 l0_0.length c0_0] 26 (0, 0)) (by (with_reducible repeat (first | apply blk_drewN | apply blk_drew | apply blk_alloc)); exact BK485.out) hb); have n1_ := Aside0.mk (below_step (by repeat (first | (with_reducible first | exact HB.out | apply below_alloc | apply pw_below_drewN | apply below_drew1 | refine below_set ?_ GE485.out) | exact HB.out)) hb); clear BK485; clear HB; have BK485 := n0_; have HB := n1_; clear n0_ n1_; (try clear hb); (try clear hb2); (try clear hk); (try clear hi)))
    go_ret
    exact ⟨by first | rfl | (simp [errW_none, errW_some] <;> rfl) | (simp [*, errW_none, errW_some] <;> rfl), by repeat (first | (with_reducible first | exact HB.out | apply below_alloc | apply pw_below_drewN | apply below_drew1 | refine below_set ?_ GE485.out) | exact HB.out)⟩
   ·replace c12 := Bool.eq_false_iff.mpr c12
    subst c12
    have H1 : ((ancepslaw54_copied.f l0_0).bind fun t489 => ((wordlist_Add.f kj2 t489 a1).bind fun bt492 => ((ancepsref54_Add.f kj2 l0_0 a1).bind fun bt497 => ((ancepslaw54_copied.f l0_0).bind fun t502 => ((wordlist_Remove.f kj2 t502 a1).bind fun bt505 => ((ancepsref54_Remove.f kj2 l0_0 a1).bind fun bt510 => ((ancepslaw54_copied.f l0_0).bind fun t515 => ((wordlist_Valid.f kj2 t515).bind fun t518 => ((ancepsref54_Valid.f kj2 l0_0).bind fun t519 => (if t518 = t519 then ((ancepslaw54_copied.f l0_0).bind fun t520 => ((wordlist_Has.f kj2 t520 a1).bind fun t523 => ((ancepsref54_Has.f kj2 l0_0 a1).bind fun t524 => (if (t523 != t524) = true then (none) else (if bt492.2 = bt497.2 then ((slices_Equal_string_string.f kj2 bt492.1 bt497.1).bind fun t525 => (if t525 = true then (if bt505.2 = bt510.2 then ((slices_Equal_string_string.f kj2 bt505.1 bt510.1).bind fun t526 => (ancepslaw54_WordlistChanges.j1 kj2 a1 bt492.2 (!t526) l0_0 bt492.1)) else (none)) else (none))) else (none)))))) else (none))))))))))) = some r := by rw [if_neg (show ¬ (false = true) by decide)] at H; exact H
    clear H
    have H := H1
    clear H1
    replace H := Option.bind_eq_some_iff.mp H
    obtain ⟨t489, A150, H⟩ := H
    try dsimp only at H
    have A15 := Aside0.mk A150
    clear A150
    replace H := Option.bind_eq_some_iff.mp H
    obtain ⟨⟨t492, t495⟩, A160, H⟩ := H
    try dsimp only at H
    have A16 := Aside0.mk A160
    clear A160
    replace H := Option.bind_eq_some_iff.mp H
    obtain ⟨⟨t497, t500⟩, A170, H⟩ := H
    try dsimp only at H
    have A17 := Aside0.mk A170
    clear A170
    replace H := Option.bind_eq_some_iff.mp H
    obtain ⟨t502, A180, H⟩ := H
    try dsimp only at H
    have A18 := Aside0.mk A180
    clear A180
    replace H := Option.bind_eq_some_iff.mp H
    obtain ⟨⟨t505, t508⟩, A190, H⟩ := H
    try dsimp only at H
    have A19 := Aside0.mk A190
    clear A190
    replace H := Option.bind_eq_some_iff.mp H
    obtain ⟨⟨t510, t513⟩, A200, H⟩ := H
    try dsimp only at H
    have A20 := Aside0.mk A200
    clear A200
    have HC21 := Aside0.mk H
    clear H
    have hcz22_0 : wc.cell? ⟨gb485, 0, none⟩ = some (.slice A0_0 l0_0.length c0_0) := (blk_cell BK485.out 0).trans rfl
    have hfz22_0 := blk_frozen BK485.out 0
    go_upto_region 7 with (first | ((with_reducible refine gate_callee (f := 13) rfl ?_); refine goesL_ (some 26) rfl rfl Try.func13 (by kernel_rfl) rfl #[.agg #[.slice A0_0 l0_0.length c0_0]] rfl (by (try simp only [List.map_toArray, List.map_cons, List.map_nil]); first | done | rfl | (simp only [List.length_drop, List.length_take]; rfl)) ?_; (with_reducible refine (ancepslaw54_copied.calls _ _ l0_0 t489 _ ?side1 ?side2 A15.out).mono ?_); (case side1 => repeat (first | exact (Kd.C_below HR0_0.out HB.out) | (with_reducible refine Kd.C_alloc ?_ _) | (with_reducible refine Kd.C_drewN ?_ _) | (with_reducible refine Kd.C_drew ?_))); (case side2 => exact HC0_0.out); rintro e w23 ⟨v490, rfl, ho0, hb⟩; refine ⟨_, rfl, ?_⟩; have n0_ := Aside0.mk (Kd.R_lower ho0 (below_size (by repeat (first | (with_reducible first | exact HB.out | apply below_alloc | apply pw_below_drewN | apply below_drew1 | refine below_set ?_ GE485.out) | exact HB.out)))); have n1_ := Aside0.mk (blk_below (g := gb485) (o := .cells #[.slice A0_0 l0_0.length c0_0] 26 (0, 0)) (by (with_reducible repeat (first | apply blk_drewN | apply blk_drew | apply blk_alloc)); exact BK485.out) hb); have n2_ := Aside0.mk (below_step (by repeat (first | (with_reducible first | exact HB.out | apply below_alloc | apply pw_below_drewN | apply below_drew1 | refine below_set ?_ GE485.out) | exact HB.out)) hb); clear BK485; clear HB; have HO491 := n0_; have BK485 := n1_; have HB := n2_; clear n0_ n1_ n2_; (try clear hb); (try clear hb2); (try clear hk); (try clear hi); (try clear ho0); obtain ⟨Ao24, co24, eo24⟩ := Kd.R_slice HO491.out; subst eo24) | ((with_reducible refine gate_callee (f := 22) rfl ?_); refine goesL_ (some 28) rfl rfl Try.func22 (by kernel_rfl) rfl #[.agg #[.slice Ao24 t489.length co24], .string a1] rfl (by (try simp only [List.map_toArray, List.map_cons, List.map_nil]); first | done | rfl | (simp only [List.length_drop, List.length_take]; rfl)) ?_; (with_reducible refine (wordlist_Add.calls kj2 _ _ t489 a1 t492 t495 _ ?side1 ?side2 A16.out).mono ?_); (case side1 => repeat (first | exact (Kd.R_reads' HO491.out).2.2 | (with_reducible refine Kd.C_alloc ?_ _) | (with_reducible refine Kd.C_drewN ?_ _) | (with_reducible refine Kd.C_drew ?_))); (case side2 => exact (Kd.R_reads' HO491.out).2.1); rintro e w25 ⟨v493, rfl, ho0, hb⟩; refine ⟨_, rfl, ?_⟩; have n0_ := Aside0.mk (Kd.R_elder' (by (with_reducible repeat (first | apply Kd.R_alloc | apply Kd.R_drewN | apply Kd.R_drew)); exact HO491.out) (Kd.R_base ho0) hb); have n1_ := Aside0.mk (Kd.R_lower (Kd.R_new' ho0 (Kd.R_lt (by (with_reducible repeat (first | apply Kd.R_alloc | apply Kd.R_drewN | apply Kd.R_drew)); exact HO491.out))) (below_size (by repeat (first | (with_reducible first | exact HB.out | apply below_alloc | apply pw_below_drewN | apply below_drew1 | refine below_set ?_ GE485.out) | exact HB.out)))); have n2_ := Aside0.mk (blk_below (g := gb485) (o := .cells #[.slice A0_0 l0_0.length c0_0] 26 (0, 0)) (by (with_reducible repeat (first | apply blk_drewN | apply blk_drew | apply blk_alloc)); exact BK485.out) hb); have n3_ := Aside0.mk (below_step (by repeat (first | (with_reducible first | exact HB.out | apply below_alloc | apply pw_below_drewN | apply below_drew1 | refine below_set ?_ GE485.out) | exact HB.out)) hb); clear HO491; clear BK485; clear HB; have HO491 := n0_; have HO494 := n1_; have BK485 := n2_; have HB := n3_; clear n0_ n1_ n2_ n3_; (try clear hb); (try clear hb2); (try clear hk); (try clear hi); (try clear ho0)) | ((with_reducible refine gate_dst (N := 5) rfl ?_); refine box_event ?hg (N := 5) ?hd (cs := #[.slice none 0 0]) (t := 26) ?hr ?_; (case hd | hg => rfl); (case hr => first | (go_simp; done) | (go_simp; rfl)); intro gb496 hg w26 hbox hb; have n0_ := Aside0.mk (Kd.R_below (by (with_reducible repeat (first | apply Kd.R_alloc | apply Kd.R_drewN | apply Kd.R_drew)); exact HO491.out) hb); have n1_ := Aside0.mk (Kd.R_below (by (with_reducible repeat (first | apply Kd.R_alloc | apply Kd.R_drewN | apply Kd.R_drew)); exact HO494.out) hb); have n2_ := Aside0.mk (blk_below (g := gb485) (o := .cells #[.slice A0_0 l0_0.length c0_0] 26 (0, 0)) (by (with_reducible repeat (first | apply blk_drewN | apply blk_drew | apply blk_alloc)); exact BK485.out) hb); have n3_ := Aside0.mk (below_step (by repeat (first | (with_reducible first | exact HB.out | apply below_alloc | apply pw_below_drewN | apply below_drew1 | refine below_set ?_ GE485.out) | exact HB.out)) hb); have n4_ := Aside0.mk (hbox); have n5_ := Aside0.mk ((by rw [hg]; exact (below_size (by repeat (first | (with_reducible first | exact HB.out | apply below_alloc | apply pw_below_drewN | apply below_drew1 | refine below_set ?_ GE485.out) | exact HB.out))) : w.heap.size ≤ gb496)); have n6_ := Aside0.mk ((by rw [hg]; exact (below_size (by repeat (first | (with_reducible first | exact HB.out | apply below_alloc | apply pw_below_drewN | apply below_drew1 | refine below_set ?_ GE485.out) | exact HB.out))) : w.heap.size ≤ gb496)); have n7_ := Aside0.mk ((by rw [hg]; exact Nat.ne_of_lt (blk_lt (g := gb485) (o := .cells #[.slice A0_0 l0_0.length c0_0] 26 (0, 0)) (by (with_reducible repeat (first | apply blk_drewN | apply blk_drew | apply blk_alloc)); exact BK485.out)) : gb485 ≠ gb496)); have n8_ := Aside0.mk ((by rw [hg]; exact Nat.ne_of_gt (blk_lt (g := gb485) (o := .cells #[.slice A0_0 l0_0.length c0_0] 26 (0, 0)) (by (with_reducible repeat (first | apply blk_drewN | apply blk_drew | apply blk_alloc)); exact BK485.out)) : gb496 ≠ gb485)); clear HO491; clear HO494; clear BK485; clear HB; have HO491 := n0_; have HO494 := n1_; have BK485 := n2_; have HB := n3_; have BK496 := n4_; have GW496 := n5_; have GE496 := n6_; have NB485_496 := n7_; have NB496_485 := n8_; clear n0_ n1_ n2_ n3_ n4_ n5_ n6_ n7_ n8_; clear hb hbox hg; obtain ⟨Ao27, co27, eo27⟩ := Kd.R_slice HO494.out; subst eo27; have hnb28 := NB496_485.out; have hnc28 := NB485_496.out; have hcz29_0 : w26.cell? ⟨gb496, 0, none⟩ = some (.slice none 0 0) := (blk_cell BK496.out 0).trans rfl; have hfz29_0 := blk_frozen BK496.out 0; have hcz30_0 : w26.cell? ⟨gb485, 0, none⟩ = some (.slice A0_0 l0_0.length c0_0) := (blk_cell BK485.out 0).trans rfl; have hfz30_0 := blk_frozen BK485.out 0) | ((with_reducible refine gate_callee (f := 23) rfl ?_); refine goesL_ (some 34) rfl rfl Try.func23 (by kernel_rfl) rfl #[.agg #[.slice A0_0 l0_0.length c0_0], .string a1] rfl (by (try simp only [List.map_toArray, List.map_cons, List.map_nil]); first | done | rfl | (simp only [List.length_drop, List.length_take]; rfl)) ?_; (with_reducible refine (ancepsref54_Add.calls kj2 _ _ l0_0 a1 t497 t500 _ ?side1 ?side2 A17.out).mono ?_); (case side1 => exact Kd.C_below HR0_0.out (by repeat (first | (with_reducible first | exact HB.out | apply below_alloc | apply pw_below_drewN | apply below_drew1 | refine below_set ?_ GE485.out | refine below_set ?_ GE496.out) | exact HB.out))); (case side2 => exact HC0_0.out); rintro e w31 ⟨v498, rfl, ho0, hb⟩; refine ⟨_, rfl, ?_⟩; have n0_ := Aside0.mk (Kd.R_elder' (by (with_reducible repeat (first | apply Kd.R_alloc | apply Kd.R_drewN | apply Kd.R_drew)); exact (Kd.R_mono (Kd.R_far (p := ⟨gb496, 0, none⟩) (Kd.R_types HO491.out BK496.out (by decide)) (fun _ hk => hk.2) (.slice Ao27 t492.length co27)) (fun _ h_ => h_.1))) (Kd.R_base ho0) hb); have n1_ := Aside0.mk (Kd.R_elder' (by (with_reducible repeat (first | apply Kd.R_alloc | apply Kd.R_drewN | apply Kd.R_drew)); exact (Kd.R_mono (Kd.R_far (p := ⟨gb496, 0, none⟩) (Kd.R_types HO494.out BK496.out (by decide)) (fun _ hk => hk.2) (.slice Ao27 t492.length co27)) (fun _ h_ => h_.1))) (Kd.R_base ho0) hb); have n2_ := Aside0.mk (Kd.R_lower (Kd.R_new' (Kd.R_new' ho0 (Kd.R_lt (by (with_reducible repeat (first | apply Kd.R_alloc | apply Kd.R_drewN | apply Kd.R_drew)); exact (Kd.R_mono (Kd.R_far (p := ⟨gb496, 0, none⟩) (Kd.R_types HO491.out BK496.out (by decide)) (fun _ hk => hk.2) (.slice Ao27 t492.length co27)) (fun _ h_ => h_.1))))) (Kd.R_lt (by (with_reducible repeat (first | apply Kd.R_alloc | apply Kd.R_drewN | apply Kd.R_drew)); exact (Kd.R_mono (Kd.R_far (p := ⟨gb496, 0, none⟩) (Kd.R_types HO494.out BK496.out (by decide)) (fun _ hk => hk.2) (.slice Ao27 t492.length co27)) (fun _ h_ => h_.1))))) (below_size (by repeat (first | (with_reducible first | exact HB.out | apply below_alloc | apply pw_below_drewN | apply below_drew1 | refine below_set ?_ GE485.out | refine below_set ?_ GE496.out) | exact HB.out)))); have n3_ := Aside0.mk (blk_below (g := gb485) (o := .cells #[.slice A0_0 l0_0.length c0_0] 26 (0, 0)) (by (with_reducible repeat (first | apply blk_drewN | apply blk_drew | apply blk_alloc)); refine blk_far ?_ NB485_496.out _; (with_reducible repeat (first | apply blk_drewN | apply blk_drew | apply blk_alloc)); exact BK485.out) hb); have n4_ := Aside0.mk (blk_below (g := gb496) (o := .cells #[.slice Ao27 t492.length co27] 26 (0, 0)) (by (with_reducible repeat (first | apply blk_drewN | apply blk_drew | apply blk_alloc)); refine blk_put (cs := #[.slice none 0 0]) ?_ 0 _ rfl; (with_reducible repeat (first | apply blk_drewN | apply blk_drew | apply blk_alloc)); exact BK496.out) hb); have n5_ := Aside0.mk (below_step (by repeat (first | (with_reducible first | exact HB.out | apply below_alloc | apply pw_below_drewN | apply below_drew1 | refine below_set ?_ GE485.out | refine below_set ?_ GE496.out) | exact HB.out)) hb); clear HO491; clear HO494; clear BK485; clear BK496; clear HB; have HO491 := n0_; have HO494 := n1_; have HO499 := n2_; have BK485 := n3_; have BK496 := n4_; have HB := n5_; clear n0_ n1_ n2_ n3_ n4_ n5_; (try clear hb); (try clear hb2); (try clear hk); (try clear hi); (try clear ho0)) | ((with_reducible refine gate_dst (N := 7) rfl ?_); refine box_event ?hg (N := 7) ?hd (cs := #[.slice none 0 0]) (t := 26) ?hr ?_; (case hd | hg => rfl); (case hr => first | (go_simp; done) | (go_simp; rfl)); intro gb501 hg w32 hbox hb; have n0_ := Aside0.mk (Kd.R_below (by (with_reducible repeat (first | apply Kd.R_alloc | apply Kd.R_drewN | apply Kd.R_drew)); exact HO491.out) hb); have n1_ := Aside0.mk (Kd.R_below (by (with_reducible repeat (first | apply Kd.R_alloc | apply Kd.R_drewN | apply Kd.R_drew)); exact HO494.out) hb); have n2_ := Aside0.mk (Kd.R_below (by (with_reducible repeat (first | apply Kd.R_alloc | apply Kd.R_drewN | apply Kd.R_drew)); exact HO499.out) hb); have n3_ := Aside0.mk (blk_below (g := gb485) (o := .cells #[.slice A0_0 l0_0.length c0_0] 26 (0, 0)) (by (with_reducible repeat (first | apply blk_drewN | apply blk_drew | apply blk_alloc)); exact BK485.out) hb); have n4_ := Aside0.mk (blk_below (g := gb496) (o := .cells #[.slice Ao27 t492.length co27] 26 (0, 0)) (by (with_reducible repeat (first | apply blk_drewN | apply blk_drew | apply blk_alloc)); exact BK496.out) hb); have n5_ := Aside0.mk (below_step (by repeat (first | (with_reducible first | exact HB.out | apply below_alloc | apply pw_below_drewN | apply below_drew1 | refine below_set ?_ GE485.out | refine below_set ?_ GE496.out) | exact HB.out)) hb); have n6_ := Aside0.mk (hbox); have n7_ := Aside0.mk ((by rw [hg]; exact (below_size (by repeat (first | (with_reducible first | exact HB.out | apply below_alloc | apply pw_below_drewN | apply below_drew1 | refine below_set ?_ GE485.out | refine below_set ?_ GE496.out) | exact HB.out))) : w.heap.size ≤ gb501)); have n8_ := Aside0.mk ((by rw [hg]; exact (below_size (by repeat (first | (with_reducible first | exact HB.out | apply below_alloc | apply pw_below_drewN | apply below_drew1 | refine below_set ?_ GE485.out | refine below_set ?_ GE496.out) | exact HB.out))) : w.heap.size ≤ gb501)); have n9_ := Aside0.mk ((by rw [hg]; exact Nat.ne_of_lt (blk_lt (g := gb485) (o := .cells #[.slice A0_0 l0_0.length c0_0] 26 (0, 0)) (by (with_reducible repeat (first | apply blk_drewN | apply blk_drew | apply blk_alloc)); exact BK485.out)) : gb485 ≠ gb501)); have n10_ := Aside0.mk ((by rw [hg]; exact Nat.ne_of_gt (blk_lt (g := gb485) (o := .cells #[.slice A0_0 l0_0.length c0_0] 26 (0, 0)) (by (with_reducible repeat (first | apply blk_drewN | apply blk_drew | apply blk_alloc)); exact BK485.out)) : gb501 ≠ gb485)); have n11_ := Aside0.mk ((by rw [hg]; exact Nat.ne_of_lt (blk_lt (g := gb496) (o := .cells #[.slice Ao27 t492.length co27] 26 (0, 0)) (by (with_reducible repeat (first | apply blk_drewN | apply blk_drew | apply blk_alloc)); exact BK496.out)) : gb496 ≠ gb501)); have n12_ := Aside0.mk ((by rw [hg]; exact Nat.ne_of_gt (blk_lt (g := gb496) (o := .cells #[.slice Ao27 t492.length co27] 26 (0, 0)) (by (with_reducible repeat (first | apply blk_drewN | apply blk_drew | apply blk_alloc)); exact BK496.out)) : gb501 ≠ gb496)); clear HO491; clear HO494; clear HO499; clear BK485; clear BK496; clear HB; have HO491 := n0_; have HO494 := n1_; have HO499 := n2_; have BK485 := n3_; have BK496 := n4_; have HB := n5_; have BK501 := n6_; have GW501 := n7_; have GE501 := n8_; have NB485_501 := n9_; have NB501_485 := n10_; have NB496_501 := n11_; have NB501_496 := n12_; clear n0_ n1_ n2_ n3_ n4_ n5_ n6_ n7_ n8_ n9_ n10_ n11_ n12_; clear hb hbox hg; obtain ⟨Ao33, co33, eo33⟩ := Kd.R_slice HO499.out; subst eo33; have hnb34 := NB501_485.out; have hnc34 := NB485_501.out; have hnb35 := NB501_496.out; have hnc35 := NB496_501.out; have hcz36_0 : w32.cell? ⟨gb501, 0, none⟩ = some (.slice none 0 0) := (blk_cell BK501.out 0).trans rfl; have hfz36_0 := blk_frozen BK501.out 0; have hcz37_0 : w32.cell? ⟨gb485, 0, none⟩ = some (.slice A0_0 l0_0.length c0_0) := (blk_cell BK485.out 0).trans rfl; have hfz37_0 := blk_frozen BK485.out 0) | ((with_reducible refine gate_callee (f := 13) rfl ?_); refine goesL_ (some 39) rfl rfl Try.func13 (by kernel_rfl) rfl #[.agg #[.slice A0_0 l0_0.length c0_0]] rfl (by (try simp only [List.map_toArray, List.map_cons, List.map_nil]); first | done | rfl | (simp only [List.length_drop, List.length_take]; rfl)) ?_; (with_reducible refine (ancepslaw54_copied.calls _ _ l0_0 t502 _ ?side1 ?side2 A18.out).mono ?_); (case side1 => exact Kd.C_below HR0_0.out (by repeat (first | (with_reducible first | exact HB.out | apply below_alloc | apply pw_below_drewN | apply below_drew1 | refine below_set ?_ GE485.out | refine below_set ?_ GE496.out | refine below_set ?_ GE501.out) | exact HB.out))); (case side2 => exact HC0_0.out); rintro e w38 ⟨v503, rfl, ho0, hb⟩; refine ⟨_, rfl, ?_⟩; have n0_ := Aside0.mk (Kd.R_elder' (by (with_reducible repeat (first | apply Kd.R_alloc | apply Kd.R_drewN | apply Kd.R_drew)); exact (Kd.R_mono (Kd.R_far (p := ⟨gb501, 0, none⟩) (Kd.R_types HO491.out BK501.out (by decide)) (fun _ hk => hk.2) (.slice Ao33 t497.length co33)) (fun _ h_ => h_.1))) (Kd.R_base ho0) hb); have n1_ := Aside0.mk (Kd.R_elder' (by (with_reducible repeat (first | apply Kd.R_alloc | apply Kd.R_drewN | apply Kd.R_drew)); exact (Kd.R_mono (Kd.R_far (p := ⟨gb501, 0, none⟩) (Kd.R_types HO494.out BK501.out (by decide)) (fun _ hk => hk.2) (.slice Ao33 t497.length co33)) (fun _ h_ => h_.1))) (Kd.R_base ho0) hb); have n2_ := Aside0.mk (Kd.R_elder' (by (with_reducible repeat (first | apply Kd.R_alloc | apply Kd.R_drewN | apply Kd.R_drew)); exact (Kd.R_mono (Kd.R_far (p := ⟨gb501, 0, none⟩) (Kd.R_types HO499.out BK501.out (by decide)) (fun _ hk => hk.2) (.slice Ao33 t497.length co33)) (fun _ h_ => h_.1))) (Kd.R_base ho0) hb); have n3_ := Aside0.mk (Kd.R_lower (Kd.R_new' (Kd.R_new' (Kd.R_new' ho0 (Kd.R_lt (by (with_reducible repeat (first | apply Kd.R_alloc | apply Kd.R_drewN | apply Kd.R_drew)); exact (Kd.R_mono (Kd.R_far (p := ⟨gb501, 0, none⟩) (Kd.R_types HO491.out BK501.out (by decide)) (fun _ hk => hk.2) (.slice Ao33 t497.length co33)) (fun _ h_ => h_.1))))) (Kd.R_lt (by (with_reducible repeat (first | apply Kd.R_alloc | apply Kd.R_drewN | apply Kd.R_drew)); exact (Kd.R_mono (Kd.R_far (p := ⟨gb501, 0, none⟩) (Kd.R_types HO494.out BK501.out (by decide)) (fun _ hk => hk.2) (.slice Ao33 t497.length co33)) (fun _ h_ => h_.1))))) (Kd.R_lt (by (with_reducible repeat (first | apply Kd.R_alloc | apply Kd.R_drewN | apply Kd.R_drew)); exact (Kd.R_mono (Kd.R_far (p := ⟨gb501, 0, none⟩) (Kd.R_types HO499.out BK501.out (by decide)) (fun _ hk => hk.2) (.slice Ao33 t497.length co33)) (fun _ h_ => h_.1))))) (below_size (by repeat (first | (with_reducible first | exact HB.out | apply below_alloc | apply pw_below_drewN | apply below_drew1 | refine below_set ?_ GE485.out | refine below_set ?_ GE496.out | refine below_set ?_ GE501.out) | exact HB.out)))); have n4_ := Aside0.mk (blk_below (g := gb485) (o := .cells #[.slice A0_0 l0_0.length c0_0] 26 (0, 0)) (by (with_reducible repeat (first | apply blk_drewN | apply blk_drew | apply blk_alloc)); refine blk_far ?_ NB485_501.out _; (with_reducible repeat (first | apply blk_drewN | apply blk_drew | apply blk_alloc)); exact BK485.out) hb); have n5_ := Aside0.mk (blk_below (g := gb496) (o := .cells #[.slice Ao27 t492.length co27] 26 (0, 0)) (by (with_reducible repeat (first | apply blk_drewN | apply blk_drew | apply blk_alloc)); refine blk_far ?_ NB496_501.out _; (with_reducible repeat (first | apply blk_drewN | apply blk_drew | apply blk_alloc)); exact BK496.out) hb); have n6_ := Aside0.mk (blk_below (g := gb501) (o := .cells #[.slice Ao33 t497.length co33] 26 (0, 0)) (by (with_reducible repeat (first | apply blk_drewN | apply blk_drew | apply blk_alloc)); refine blk_put (cs := #[.slice none 0 0]) ?_ 0 _ rfl; (with_reducible repeat (first | apply blk_drewN | apply blk_drew | apply blk_alloc)); exact BK501.out) hb); have n7_ := Aside0.mk (below_step (by repeat (first | (with_reducible first | exact HB.out | apply below_alloc | apply pw_below_drewN | apply below_drew1 | refine below_set ?_ GE485.out | refine below_set ?_ GE496.out | refine below_set ?_ GE501.out) | exact HB.out)) hb); clear HO491; clear HO494; clear HO499; clear BK485; clear BK496; clear BK501; clear HB; have HO491 := n0_; have HO494 := n1_; have HO499 := n2_; have HO504 := n3_; have BK485 := n4_; have BK496 := n5_; have BK501 := n6_; have HB := n7_; clear n0_ n1_ n2_ n3_ n4_ n5_ n6_ n7_; (try clear hb); (try clear hb2); (try clear hk); (try clear hi); (try clear ho0); obtain ⟨Ao39, co39, eo39⟩ := Kd.R_slice HO504.out; subst eo39) | ((with_reducible refine gate_callee (f := 24) rfl ?_); refine goesL_ (some 41) rfl rfl Try.func24 (by kernel_rfl) rfl #[.agg #[.slice Ao39 t502.length co39], .string a1] rfl (by (try simp only [List.map_toArray, List.map_cons, List.map_nil]); first | done | rfl | (simp only [List.length_drop, List.length_take]; rfl)) ?_; (with_reducible refine (wordlist_Remove.calls kj2 _ _ t502 a1 t505 t508 _ ?side1 ?side2 A19.out).mono ?_); (case side1 => repeat (first | exact (Kd.R_reads' HO504.out).2.2 | (with_reducible refine Kd.C_alloc ?_ _) | (with_reducible refine Kd.C_drewN ?_ _) | (with_reducible refine Kd.C_drew ?_))); (case side2 => exact (Kd.R_reads' HO504.out).2.1); rintro e w40 ⟨v506, rfl, ho0, hb⟩; refine ⟨_, rfl, ?_⟩; have n0_ := Aside0.mk (Kd.R_elder' (by (with_reducible repeat (first | apply Kd.R_alloc | apply Kd.R_drewN | apply Kd.R_drew)); exact HO491.out) (Kd.R_base ho0) hb); have n1_ := Aside0.mk (Kd.R_elder' (by (with_reducible repeat (first | apply Kd.R_alloc | apply Kd.R_drewN | apply Kd.R_drew)); exact HO494.out) (Kd.R_base ho0) hb); have n2_ := Aside0.mk (Kd.R_elder' (by (with_reducible repeat (first | apply Kd.R_alloc | apply Kd.R_drewN | apply Kd.R_drew)); exact HO499.out) (Kd.R_base ho0) hb); have n3_ := Aside0.mk (Kd.R_elder' (by (with_reducible repeat (first | apply Kd.R_alloc | apply Kd.R_drewN | apply Kd.R_drew)); exact HO504.out) (Kd.R_base ho0) hb); have n4_ := Aside0.mk (Kd.R_lower (Kd.R_new' (Kd.R_new' (Kd.R_new' (Kd.R_new' ho0 (Kd.R_lt (by (with_reducible repeat (first | apply Kd.R_alloc | apply Kd.R_drewN | apply Kd.R_drew)); exact HO491.out))) (Kd.R_lt (by (with_reducible repeat (first | apply Kd.R_alloc | apply Kd.R_drewN | apply Kd.R_drew)); exact HO494.out))) (Kd.R_lt (by (with_reducible repeat (first | apply Kd.R_alloc | apply Kd.R_drewN | apply Kd.R_drew)); exact HO499.out))) (Kd.R_lt (by (with_reducible repeat (first | apply Kd.R_alloc | apply Kd.R_drewN | apply Kd.R_drew)); exact HO504.out))) (below_size (by repeat (first | (with_reducible first | exact HB.out | apply below_alloc | apply pw_below_drewN | apply below_drew1 | refine below_set ?_ GE485.out | refine below_set ?_ GE496.out | refine below_set ?_ GE501.out) | exact HB.out)))); have n5_ := Aside0.mk (blk_below (g := gb485) (o := .cells #[.slice A0_0 l0_0.length c0_0] 26 (0, 0)) (by (with_reducible repeat (first | apply blk_drewN | apply blk_drew | apply blk_alloc)); exact BK485.out) hb); have n6_ := Aside0.mk (blk_below (g := gb496) (o := .cells #[.slice Ao27 t492.length co27] 26 (0, 0)) (by (with_reducible repeat (first | apply blk_drewN | apply blk_drew | apply blk_alloc)); exact BK496.out) hb); have n7_ := Aside0.mk (blk_below (g := gb501) (o := .cells #[.slice Ao33 t497.length co33] 26 (0, 0)) (by (with_reducible repeat (first | apply blk_drewN | apply blk_drew | apply blk_alloc)); exact BK501.out) hb); have n8_ := Aside0.mk (below_step (by repeat (first | (with_reducible first | exact HB.out | apply below_alloc | apply pw_below_drewN | apply below_drew1 | refine below_set ?_ GE485.out | refine below_set ?_ GE496.out | refine below_set ?_ GE501.out) | exact HB.out)) hb); clear HO491; clear HO494; clear HO499; clear HO504; clear BK485; clear BK496; clear BK501; clear HB; have HO491 := n0_; have HO494 := n1_; have HO499 := n2_; have HO504 := n3_; have HO507 := n4_; have BK485 := n5_; have BK496 := n6_; have BK501 := n7_; have HB := n8_; clear n0_ n1_ n2_ n3_ n4_ n5_ n6_ n7_ n8_; (try clear hb); (try clear hb2); (try clear hk); (try clear hi); (try clear ho0)) | ((with_reducible refine gate_dst (N := 9) rfl ?_); refine box_event ?hg (N := 9) ?hd (cs := #[.slice none 0 0]) (t := 26) ?hr ?_; (case hd | hg => rfl); (case hr => first | (go_simp; done) | (go_simp; rfl)); intro gb509 hg w41 hbox hb; have n0_ := Aside0.mk (Kd.R_below (by (with_reducible repeat (first | apply Kd.R_alloc | apply Kd.R_drewN | apply Kd.R_drew)); exact HO491.out) hb); have n1_ := Aside0.mk (Kd.R_below (by (with_reducible repeat (first | apply Kd.R_alloc | apply Kd.R_drewN | apply Kd.R_drew)); exact HO494.out) hb); have n2_ := Aside0.mk (Kd.R_below (by (with_reducible repeat (first | apply Kd.R_alloc | apply Kd.R_drewN | apply Kd.R_drew)); exact HO499.out) hb); have n3_ := Aside0.mk (Kd.R_below (by (with_reducible repeat (first | apply Kd.R_alloc | apply Kd.R_drewN | apply Kd.R_drew)); exact HO504.out) hb); have n4_ := Aside0.mk (Kd.R_below (by (with_reducible repeat (first | apply Kd.R_alloc | apply Kd.R_drewN | apply Kd.R_drew)); exact HO507.out) hb); have n5_ := Aside0.mk (blk_below (g := gb485) (o := .cells #[.slice A0_0 l0_0.length c0_0] 26 (0, 0)) (by (with_reducible repeat (first | apply blk_drewN | apply blk_drew | apply blk_alloc)); exact BK485.out) hb); have n6_ := Aside0.mk (blk_below (g := gb496) (o := .cells #[.slice Ao27 t492.length co27] 26 (0, 0)) (by (with_reducible repeat (first | apply blk_drewN | apply blk_drew | apply blk_alloc)); exact BK496.out) hb); have n7_ := Aside0.mk (blk_below (g := gb501) (o := .cells #[.slice Ao33 t497.length co33] 26 (0, 0)) (by (with_reducible repeat (first | apply blk_drewN | apply blk_drew | apply blk_alloc)); exact BK501.out) hb); have n8_ := Aside0.mk (below_step (by repeat (first | (with_reducible first | exact HB.out | apply below_alloc | apply pw_below_drewN | apply below_drew1 | refine below_set ?_ GE485.out | refine below_set ?_ GE496.out | refine below_set ?_ GE501.out) | exact HB.out)) hb); have n9_ := Aside0.mk (hbox); have n10_ := Aside0.mk ((by rw [hg]; exact (below_size (by repeat (first | (with_reducible first | exact HB.out | apply below_alloc | apply pw_below_drewN | apply below_drew1 | refine below_set ?_ GE485.out | refine below_set ?_ GE496.out | refine below_set ?_ GE501.out) | exact HB.out))) : w.heap.size ≤ gb509)); have n11_ := Aside0.mk ((by rw [hg]; exact (below_size (by repeat (first | (with_reducible first | exact HB.out | apply below_alloc | apply pw_below_drewN | apply below_drew1 | refine below_set ?_ GE485.out | refine below_set ?_ GE496.out | refine below_set ?_ GE501.out) | exact HB.out))) : w.heap.size ≤ gb509)); have n12_ := Aside0.mk ((by rw [hg]; exact Nat.ne_of_lt (blk_lt (g := gb485) (o := .cells #[.slice A0_0 l0_0.length c0_0] 26 (0, 0)) (by (with_reducible repeat (first | apply blk_drewN | apply blk_drew | apply blk_alloc)); exact BK485.out)) : gb485 ≠ gb509)); have n13_ := Aside0.mk ((by rw [hg]; exact Nat.ne_of_gt (blk_lt (g := gb485) (o := .cells #[.slice A0_0 l0_0.length c0_0] 26 (0, 0)) (by (with_reducible repeat (first | apply blk_drewN | apply blk_drew | apply blk_alloc)); exact BK485.out)) : gb509 ≠ gb485)); have n14_ := Aside0.mk ((by rw [hg]; exact Nat.ne_of_lt (blk_lt (g := gb496) (o := .cells #[.slice Ao27 t492.length co27] 26 (0, 0)) (by (with_reducible repeat (first | apply blk_drewN | apply blk_drew | apply blk_alloc)); exact BK496.out)) : gb496 ≠ gb509)); have n15_ := Aside0.mk ((by rw [hg]; exact Nat.ne_of_gt (blk_lt (g := gb496) (o := .cells #[.slice Ao27 t492.length co27] 26 (0, 0)) (by (with_reducible repeat (first | apply blk_drewN | apply blk_drew | apply blk_alloc)); exact BK496.out)) : gb509 ≠ gb496)); have n16_ := Aside0.mk ((by rw [hg]; exact Nat.ne_of_lt (blk_lt (g := gb501) (o := .cells #[.slice Ao33 t497.length co33] 26 (0, 0)) (by (with_reducible repeat (first | apply blk_drewN | apply blk_drew | apply blk_alloc)); exact BK501.out)) : gb501 ≠ gb509)); have n17_ := Aside0.mk ((by rw [hg]; exact Nat.ne_of_gt (blk_lt (g := gb501) (o := .cells #[.slice Ao33 t497.length co33] 26 (0, 0)) (by (with_reducible repeat (first | apply blk_drewN | apply blk_drew | apply blk_alloc)); exact BK501.out)) : gb509 ≠ gb501)); clear HO491; clear HO494; clear HO499; clear HO504; clear HO507; clear BK485; clear BK496; clear BK501; clear HB; have HO491 := n0_; have HO494 := n1_; have HO499 := n2_; have HO504 := n3_; have HO507 := n4_; have BK485 := n5_; have BK496 := n6_; have BK501 := n7_; have HB := n8_; have BK509 := n9_; have GW509 := n10_; have GE509 := n11_; have NB485_509 := n12_; have NB509_485 := n13_; have NB496_509 := n14_; have NB509_496 := n15_; have NB501_509 := n16_; have NB509_501 := n17_; clear n0_ n1_ n2_ n3_ n4_ n5_ n6_ n7_ n8_ n9_ n10_ n11_ n12_ n13_ n14_ n15_ n16_ n17_; clear hb hbox hg; obtain ⟨Ao42, co42, eo42⟩ := Kd.R_slice HO507.out; subst eo42; have hnb43 := NB509_485.out; have hnc43 := NB485_509.out; have hnb44 := NB509_496.out; have hnc44 := NB496_509.out; have hnb45 := NB509_501.out; have hnc45 := NB501_509.out; have hcz46_0 : w41.cell? ⟨gb509, 0, none⟩ = some (.slice none 0 0) := (blk_cell BK509.out 0).trans rfl; have hfz46_0 := blk_frozen BK509.out 0; have hcz47_0 : w41.cell? ⟨gb485, 0, none⟩ = some (.slice A0_0 l0_0.length c0_0) := (blk_cell BK485.out 0).trans rfl; have hfz47_0 := blk_frozen BK485.out 0) | ((with_reducible refine gate_callee (f := 25) rfl ?_); refine goesL_ (some 47) rfl rfl Try.func25 (by kernel_rfl) rfl #[.agg #[.slice A0_0 l0_0.length c0_0], .string a1] rfl (by (try simp only [List.map_toArray, List.map_cons, List.map_nil]); first | done | rfl | (simp only [List.length_drop, List.length_take]; rfl)) ?_; (with_reducible refine (ancepsref54_Remove.calls kj2 _ _ l0_0 a1 t510 t513 _ ?side1 ?side2 A20.out).mono ?_); (case side1 => exact Kd.C_below HR0_0.out (by repeat (first | (with_reducible first | exact HB.out | apply below_alloc | apply pw_below_drewN | apply below_drew1 | refine below_set ?_ GE485.out | refine below_set ?_ GE496.out | refine below_set ?_ GE501.out | refine below_set ?_ GE509.out) | exact HB.out))); (case side2 => exact HC0_0.out); rintro e w48 ⟨v511, rfl, ho0, hb⟩; refine ⟨_, rfl, ?_⟩; have n0_ := Aside0.mk (Kd.R_elder' (by (with_reducible repeat (first | apply Kd.R_alloc | apply Kd.R_drewN | apply Kd.R_drew)); exact (Kd.R_mono (Kd.R_far (p := ⟨gb509, 0, none⟩) (Kd.R_types HO491.out BK509.out (by decide)) (fun _ hk => hk.2) (.slice Ao42 t505.length co42)) (fun _ h_ => h_.1))) (Kd.R_base ho0) hb); have n1_ := Aside0.mk (Kd.R_elder' (by (with_reducible repeat (first | apply Kd.R_alloc | apply Kd.R_drewN | apply Kd.R_drew)); exact (Kd.R_mono (Kd.R_far (p := ⟨gb509, 0, none⟩) (Kd.R_types HO494.out BK509.out (by decide)) (fun _ hk => hk.2) (.slice Ao42 t505.length co42)) (fun _ h_ => h_.1))) (Kd.R_base ho0) hb); have n2_ := Aside0.mk (Kd.R_elder' (by (with_reducible repeat (first | apply Kd.R_alloc | apply Kd.R_drewN | apply Kd.R_drew)); exact (Kd.R_mono (Kd.R_far (p := ⟨gb509, 0, none⟩) (Kd.R_types HO499.out BK509.out (by decide)) (fun _ hk => hk.2) (.slice Ao42 t505.length co42)) (fun _ h_ => h_.1))) (Kd.R_base ho0) hb); have n3_ := Aside0.mk (Kd.R_elder' (by (with_reducible repeat (first | apply Kd.R_alloc | apply Kd.R_drewN | apply Kd.R_drew)); exact (Kd.R_mono (Kd.R_far (p := ⟨gb509, 0, none⟩) (Kd.R_types HO504.out BK509.out (by decide)) (fun _ hk => hk.2) (.slice Ao42 t505.length co42)) (fun _ h_ => h_.1))) (Kd.R_base ho0) hb); have n4_ := Aside0.mk (Kd.R_elder' (by (with_reducible repeat (first | apply Kd.R_alloc | apply Kd.R_drewN | apply Kd.R_drew)); exact (Kd.R_mono (Kd.R_far (p := ⟨gb509, 0, none⟩) (Kd.R_types HO507.out BK509.out (by decide)) (fun _ hk => hk.2) (.slice Ao42 t505.length co42)) (fun _ h_ => h_.1))) (Kd.R_base ho0) hb); have n5_ := Aside0.mk (Kd.R_lower (Kd.R_new' (Kd.R_new' (Kd.R_new' (Kd.R_new' (Kd.R_new' ho0 (Kd.R_lt (by (with_reducible repeat (first | apply Kd.R_alloc | apply Kd.R_drewN | apply Kd.R_drew)); exact (Kd.R_mono (Kd.R_far (p := ⟨gb509, 0, none⟩) (Kd.R_types HO491.out BK509.out (by decide)) (fun _ hk => hk.2) (.slice Ao42 t505.length co42)) (fun _ h_ => h_.1))))) (Kd.R_lt (by (with_reducible repeat (first | apply Kd.R_alloc | apply Kd.R_drewN | apply Kd.R_drew)); exact (Kd.R_mono (Kd.R_far (p := ⟨gb509, 0, none⟩) (Kd.R_types HO494.out BK509.out (by decide)) (fun _ hk => hk.2) (.slice Ao42 t505.length co42)) (fun _ h_ => h_.1))))) (Kd.R_lt (by (with_reducible repeat (first | apply Kd.R_alloc | apply Kd.R_drewN | apply Kd.R_drew)); exact (Kd.R_mono (Kd.R_far (p := ⟨gb509, 0, none⟩) (Kd.R_types HO499.out BK509.out (by decide)) (fun _ hk => hk.2) (.slice Ao42 t505.length co42)) (fun _ h_ => h_.1))))) (Kd.R_lt (by (with_reducible repeat (first | apply Kd.R_alloc | apply Kd.R_drewN | apply Kd.R_drew)); exact (Kd.R_mono (Kd.R_far (p := ⟨gb509, 0, none⟩) (Kd.R_types HO504.out BK509.out (by decide)) (fun _ hk => hk.2) (.slice Ao42 t505.length co42)) (fun _ h_ => h_.1))))) (Kd.R_lt (by (with_reducible repeat (first | apply Kd.R_alloc | apply Kd.R_drewN | apply Kd.R_drew)); exact (Kd.R_mono (Kd.R_far (p := ⟨gb509, 0, none⟩) (Kd.R_types HO507.out BK509.out (by decide)) (fun _ hk => hk.2) (.slice Ao42 t505.length co42)) (fun _ h_ => h_.1))))) (below_size (by repeat (first | (with_reducible first | exact HB.out | apply below_alloc | apply pw_below_drewN | apply below_drew1 | refine below_set ?_ GE485.out | refine below_set ?_ GE496.out | refine below_set ?_ GE501.out | refine below_set ?_ GE509.out) | exact HB.out)))); have n6_ := Aside0.mk (blk_below (g := gb485) (o := .cells #[.slice A0_0 l0_0.length c0_0] 26 (0, 0)) (by (with_reducible repeat (first | apply blk_drewN | apply blk_drew | apply blk_alloc)); refine blk_far ?_ NB485_509.out _; (with_reducible repeat (first | apply blk_drewN | apply blk_drew | apply blk_alloc)); exact BK485.out) hb); have n7_ := Aside0.mk (blk_below (g := gb496) (o := .cells #[.slice Ao27 t492.length co27] 26 (0, 0)) (by (with_reducible repeat (first | apply blk_drewN | apply blk_drew | apply blk_alloc)); refine blk_far ?_ NB496_509.out _; (with_reducible repeat (first | apply blk_drewN | apply blk_drew | apply blk_alloc)); exact BK496.out) hb); have n8_ := Aside0.mk (blk_below (g := gb501) (o := .cells #[.slice Ao33 t497.length co33] 26 (0, 0)) (by (with_reducible repeat (first | apply blk_drewN | apply blk_drew | apply blk_alloc)); refine blk_far ?_ NB501_509.out _; (with_reducible repeat (first | apply blk_drewN | apply blk_drew | apply blk_alloc)); exact BK501.out) hb); have n9_ := Aside0.mk (blk_below (g := gb509) (o := .cells #[.slice Ao42 t505.length co42] 26 (0, 0)) (by (with_reducible repeat (first | apply blk_drewN | apply blk_drew | apply blk_alloc)); refine blk_put (cs := #[.slice none 0 0]) ?_ 0 _ rfl; (with_reducible repeat (first | apply blk_drewN | apply blk_drew | apply blk_alloc)); exact BK509.out) hb); have n10_ := Aside0.mk (below_step (by repeat (first | (with_reducible first | exact HB.out | apply below_alloc | apply pw_below_drewN | apply below_drew1 | refine below_set ?_ GE485.out | refine below_set ?_ GE496.out | refine below_set ?_ GE501.out | refine below_set ?_ GE509.out) | exact HB.out)) hb); clear HO491; clear HO494; clear HO499; clear HO504; clear HO507; clear BK485; clear BK496; clear BK501; clear BK509; clear HB; have HO491 := n0_; have HO494 := n1_; have HO499 := n2_; have HO504 := n3_; have HO507 := n4_; have HO512 := n5_; have BK485 := n6_; have BK496 := n7_; have BK501 := n8_; have BK509 := n9_; have HB := n10_; clear n0_ n1_ n2_ n3_ n4_ n5_ n6_ n7_ n8_ n9_ n10_; (try clear hb); (try clear hb2); (try clear hk); (try clear hi); (try clear ho0)) | ((with_reducible refine gate_dst (N := 11) rfl ?_); refine box_event ?hg (N := 11) ?hd (cs := #[.slice none 0 0]) (t := 26) ?hr ?_; (case hd | hg => rfl); (case hr => first | (go_simp; done) | (go_simp; rfl)); intro gb514 hg w49 hbox hb; have n0_ := Aside0.mk (Kd.R_below (by (with_reducible repeat (first | apply Kd.R_alloc | apply Kd.R_drewN | apply Kd.R_drew)); exact HO491.out) hb); have n1_ := Aside0.mk (Kd.R_below (by (with_reducible repeat (first | apply Kd.R_alloc | apply Kd.R_drewN | apply Kd.R_drew)); exact HO494.out) hb); have n2_ := Aside0.mk (Kd.R_below (by (with_reducible repeat (first | apply Kd.R_alloc | apply Kd.R_drewN | apply Kd.R_drew)); exact HO499.out) hb); have n3_ := Aside0.mk (Kd.R_below (by (with_reducible repeat (first | apply Kd.R_alloc | apply Kd.R_drewN | apply Kd.R_drew)); exact HO504.out) hb); have n4_ := Aside0.mk (Kd.R_below (by (with_reducible repeat (first | apply Kd.R_alloc | apply Kd.R_drewN | apply Kd.R_drew)); exact HO507.out) hb); have n5_ := Aside0.mk (Kd.R_below (by (with_reducible repeat (first | apply Kd.R_alloc | apply Kd.R_drewN | apply Kd.R_drew)); exact HO512.out) hb); have n6_ := Aside0.mk (blk_below (g := gb485) (o := .cells #[.slice A0_0 l0_0.length c0_0] 26 (0, 0)) (by (with_reducible repeat (first | apply blk_drewN | apply blk_drew | apply blk_alloc)); exact BK485.out) hb); have n7_ := Aside0.mk (blk_below (g := gb496) (o := .cells #[.slice Ao27 t492.length co27] 26 (0, 0)) (by (with_reducible repeat (first | apply blk_drewN | apply blk_drew | apply blk_alloc)); exact BK496.out) hb); have n8_ := Aside0.mk (blk_below (g := gb501) (o := .cells #[.slice Ao33 t497.length co33] 26 (0, 0)) (by (with_reducible repeat (first | apply blk_drewN | apply blk_drew | apply blk_alloc)); exact BK501.out) hb); have n9_ := Aside0.mk (blk_below (g := gb509) (o := .cells #[.slice Ao42 t505.length co42] 26 (0, 0)) (by (with_reducible repeat (first | apply blk_drewN | apply blk_drew | apply blk_alloc)); exact BK509.out) hb); have n10_ := Aside0.mk (below_step (by repeat (first | (with_reducible first | exact HB.out | apply below_alloc | apply pw_below_drewN | apply below_drew1 | refine below_set ?_ GE485.out | refine below_set ?_ GE496.out | refine below_set ?_ GE501.out | refine below_set ?_ GE509.out) | exact HB.out)) hb); have n11_ := Aside0.mk (hbox); have n12_ := Aside0.mk ((by rw [hg]; exact (below_size (by repeat (first | (with_reducible first | exact HB.out | apply below_alloc | apply pw_below_drewN | apply below_drew1 | refine below_set ?_ GE485.out | refine below_set ?_ GE496.out | refine below_set ?_ GE501.out | refine below_set ?_ GE509.out) | exact HB.out))) : w.heap.size ≤ gb514)); have n13_ := Aside0.mk ((by rw [hg]; exact (below_size (by repeat (first | (with_reducible first | exact HB.out | apply below_alloc | apply pw_below_drewN | apply below_drew1 | refine below_set ?_ GE485.out | refine below_set ?_ GE496.out | refine below_set ?_ GE501.out | refine below_set ?_ GE509.out) | exact HB.out))) : w.heap.size ≤ gb514)); have n14_ := Aside0.mk ((by rw [hg]; exact Nat.ne_of_lt (blk_lt (g := gb485) (o := .cells #[.slice A0_0 l0_0.length c0_0] 26 (0, 0)) (by (with_reducible repeat (first | apply blk_drewN | apply blk_drew | apply blk_alloc)); exact BK485.out)) : gb485 ≠ gb514)); have n15_ := Aside0.mk ((by rw [hg]; exact Nat.ne_of_gt (blk_lt (g := gb485) (o := .cells #[.slice A0_0 l0_0.length c0_0] 26 (0, 0)) (by (with_reducible repeat (first | apply blk_drewN | apply blk_drew | apply blk_alloc)); exact BK485.out)) : gb514 ≠ gb485)); have n16_ := Aside0.mk ((by rw [hg]; exact Nat.ne_of_lt (blk_lt (g := gb496) (o := .cells #[.slice Ao27 t492.length co27] 26 (0, 0)) (by (with_reducible repeat (first | apply blk_drewN | apply blk_drew | apply blk_alloc)); exact BK496.out)) : gb496 ≠ gb514)); have n17_ := Aside0.mk ((by rw [hg]; exact Nat.ne_of_gt (blk_lt (g := gb496) (o := .cells #[.slice Ao27 t492.length co27] 26 (0, 0)) (by (with_reducible repeat (first | apply blk_drewN | apply blk_drew | apply blk_alloc)); exact BK496.out)) : gb514 ≠ gb496)); have n18_ := Aside0.mk ((by rw [hg]; exact Nat.ne_of_lt (blk_lt (g := gb501) (o := .cells #[.slice Ao33 t497.length co33] 26 (0, 0)) (by (with_reducible repeat (first | apply blk_drewN | apply blk_drew | apply blk_alloc)); exact BK501.out)) : gb501 ≠ gb514)); have n19_ := Aside0.mk ((by rw [hg]; exact Nat.ne_of_gt (blk_lt (g := gb501) (o := .cells #[.slice Ao33 t497.length co33] 26 (0, 0)) (by (with_reducible repeat (first | apply blk_drewN | apply blk_drew | apply blk_alloc)); exact BK501.out)) : gb514 ≠ gb501)); have n20_ := Aside0.mk ((by rw [hg]; exact Nat.ne_of_lt (blk_lt (g := gb509) (o := .cells #[.slice Ao42 t505.length co42] 26 (0, 0)) (by (with_reducible repeat (first | apply blk_drewN | apply blk_drew | apply blk_alloc)); exact BK509.out)) : gb509 ≠ gb514)); have n21_ := Aside0.mk ((by rw [hg]; exact Nat.ne_of_gt (blk_lt (g := gb509) (o := .cells #[.slice Ao42 t505.length co42] 26 (0, 0)) (by (with_reducible repeat (first | apply blk_drewN | apply blk_drew | apply blk_alloc)); exact BK509.out)) : gb514 ≠ gb509)); clear HO491; clear HO494; clear HO499; clear HO504; clear HO507; clear HO512; clear BK485; clear BK496; clear BK501; clear BK509; clear HB; have HO491 := n0_; have HO494 := n1_; have HO499 := n2_; have HO504 := n3_; have HO507 := n4_; have HO512 := n5_; have BK485 := n6_; have BK496 := n7_; have BK501 := n8_; have BK509 := n9_; have HB := n10_; have BK514 := n11_; have GW514 := n12_; have GE514 := n13_; have NB485_514 := n14_; have NB514_485 := n15_; have NB496_514 := n16_; have NB514_496 := n17_; have NB501_514 := n18_; have NB514_501 := n19_; have NB509_514 := n20_; have NB514_509 := n21_; clear n0_ n1_ n2_ n3_ n4_ n5_ n6_ n7_ n8_ n9_ n10_ n11_ n12_ n13_ n14_ n15_ n16_ n17_ n18_ n19_ n20_ n21_; clear hb hbox hg; obtain ⟨Ao50, co50, eo50⟩ := Kd.R_slice HO512.out; subst eo50; have hnb51 := NB514_485.out; have hnc51 := NB485_514.out; have hnb52 := NB514_496.out; have hnc52 := NB496_514.out; have hnb53 := NB514_501.out; have hnc53 := NB501_514.out; have hnb54 := NB514_509.out; have hnc54 := NB509_514.out; have hcz55_0 : w49.cell? ⟨gb514, 0, none⟩ = some (.slice none 0 0) := (blk_cell BK514.out 0).trans rfl; have hfz55_0 := blk_frozen BK514.out 0))
    (try simp only [Act.put, List.setIfInBounds_toArray, List.set_cons_zero, List.set_cons_succ])
    go_cut [91] (fun v91 wc => ∃ (kq : Nat) (x91_20 : Bool), v91 = .bool x91_20 ∧ Aside0 (ancepslaw54_WordlistChanges.j1 kq a1 t495 x91_20 l0_0 t492 = some r) ∧ Aside0 (kq ≤ kj2) ∧ Aside0 (Kd.R Kd.string 9 wc w.heap.size (fun k_ => some k_ ≠ ((.slice Ao33 t497.length co33) : Value).ownBlock ∧ some k_ ≠ ((.slice Ao42 t505.length co42) : Value).ownBlock ∧ some k_ ≠ ((.slice Ao50 t510.length co50) : Value).ownBlock) (.slice Ao27 t492.length co27) t492) ∧ Aside0 (Kd.R Kd.string 9 wc w.heap.size (fun k_ => some k_ ≠ ((.slice Ao27 t492.length co27) : Value).ownBlock ∧ some k_ ≠ ((.slice Ao42 t505.length co42) : Value).ownBlock ∧ some k_ ≠ ((.slice Ao50 t510.length co50) : Value).ownBlock) (.slice Ao33 t497.length co33) t497) ∧ Aside0 (Kd.R Kd.string 9 wc w.heap.size (fun k_ => some k_ ≠ ((.slice Ao27 t492.length co27) : Value).ownBlock ∧ some k_ ≠ ((.slice Ao33 t497.length co33) : Value).ownBlock ∧ some k_ ≠ ((.slice Ao50 t510.length co50) : Value).ownBlock) (.slice Ao42 t505.length co42) t505) ∧ Aside0 (Kd.R Kd.string 9 wc w.heap.size (fun k_ => some k_ ≠ ((.slice Ao27 t492.length co27) : Value).ownBlock ∧ some k_ ≠ ((.slice Ao33 t497.length co33) : Value).ownBlock ∧ some k_ ≠ ((.slice Ao42 t505.length co42) : Value).ownBlock) (.slice Ao50 t510.length co50) t510) ∧ Aside0 (wc.heap[gb485]? = some (.cells #[(.slice A0_0 l0_0.length c0_0)] 26 (0, 0))) ∧ Aside0 (wc.heap[gb496]? = some (.cells #[(.slice Ao27 t492.length co27)] 26 (0, 0))) ∧ Aside0 (wc.heap[gb501]? = some (.cells #[(.slice Ao33 t497.length co33)] 26 (0, 0))) ∧ Aside0 (wc.heap[gb509]? = some (.cells #[(.slice Ao42 t505.length co42)] 26 (0, 0))) ∧ Aside0 (wc.heap[gb514]? = some (.cells #[(.slice Ao50 t510.length co50)] 26 (0, 0))) ∧ Aside0 (Below w.heap.size w wc))
    case first =>
     have H := HC21.out
     clear HC21
     replace H := Option.bind_eq_some_iff.mp H
     obtain ⟨t515, A560, H⟩ := H
     try dsimp only at H
     have A56 := Aside0.mk A560
     clear A560
     replace H := Option.bind_eq_some_iff.mp H
     obtain ⟨t518, A570, H⟩ := H
     try dsimp only at H
     have A57 := Aside0.mk A570
     clear A570
     replace H := Option.bind_eq_some_iff.mp H
     obtain ⟨t519, A580, H⟩ := H
     try dsimp only at H
     have A58 := Aside0.mk A580
     clear A580
     by_cases c59 : t518 = t519
     ·rw [if_pos c59] at H
      have c59b0 : (t518 == t519) = true := beq_iff_eq.mpr c59
      have c59b1 : (t518 != t519) = false := bne_eq_false_iff_eq.mpr c59
      clear c59
      (first | rw [c59b0] | (simp only [i64_w, i32_w]; rw [c59b0]) | skip)
      replace H := Option.bind_eq_some_iff.mp H
      obtain ⟨t520, A600, H⟩ := H
      try dsimp only at H
      have A60 := Aside0.mk A600
      clear A600
      replace H := Option.bind_eq_some_iff.mp H
      obtain ⟨t523, A610, H⟩ := H
      try dsimp only at H
      have A61 := Aside0.mk A610
      clear A610
      replace H := Option.bind_eq_some_iff.mp H
      obtain ⟨t524, A620, H⟩ := H
      try dsimp only at H
      have A62 := Aside0.mk A620
      clear A620
      by_cases c63 : (t523 != t524) = true
      ·rw [if_pos c63] at H; cases H
      ·rw [if_neg c63] at H
       have c63b0 : (t523 != t524) = false := by simpa using c63
       (try (have c63b1 : decide (t523 = t524) = true := by simpa using c63))
       (try (have c63b2 : (t523 == t524) = true := by simpa using c63))
       clear c63
       by_cases c74 : t495 = t500
       ·rw [if_pos c74] at H
        have c74b0 : (t495 == t500) = true := beq_iff_eq.mpr c74
        have c74b1 : (t495 != t500) = false := bne_eq_false_iff_eq.mpr c74
        clear c74
        replace H := Option.bind_eq_some_iff.mp H
        obtain ⟨t525, A750, H⟩ := H
        try dsimp only at H
        have A75 := Aside0.mk A750
        clear A750
        by_cases c76 : t525 = true
        ·subst c76
         have H1 : (if t508 = t513 then ((slices_Equal_string_string.f kj2 t505 t510).bind fun t526 => (ancepslaw54_WordlistChanges.j1 kj2 a1 t495 (!t526) l0_0 t492)) else (none)) = some r := by rw [if_pos rfl] at H; exact H
         clear H
         have H := H1
         clear H1
         by_cases c77 : t508 = t513
         ·rw [if_pos c77] at H
          have c77b0 : (t508 == t513) = true := beq_iff_eq.mpr c77
          have c77b1 : (t508 != t513) = false := bne_eq_false_iff_eq.mpr c77
          clear c77
          replace H := Option.bind_eq_some_iff.mp H
          obtain ⟨t526, A780, H⟩ := H
          try dsimp only at H
          have A78 := Aside0.mk A780
          clear A780
          have H' := Aside0.mk H
          clear H
          try go_wp2
          have n0_ : Aside0 (Kd.R Kd.string 9 (w49.setCell ⟨gb514, 0, none⟩ (.slice Ao50 t510.length co50)) w.heap.size (fun k_ => some k_ ≠ (.slice Ao27 t492.length co27 : Value).ownBlock ∧ some k_ ≠ (.slice Ao33 t497.length co33 : Value).ownBlock ∧ some k_ ≠ (.slice Ao39 t502.length co39 : Value).ownBlock ∧ some k_ ≠ (.slice Ao42 t505.length co42 : Value).ownBlock ∧ some k_ ≠ (.slice Ao50 t510.length co50 : Value).ownBlock) (.slice Ao24 t489.length co24) t489) := ⟨by (with_reducible repeat (first | apply Kd.R_alloc | apply Kd.R_drewN | apply Kd.R_drew)); exact Kd.R_mono (Kd.R_far (p := ⟨gb514, 0, none⟩) (Kd.R_types HO491.out BK514.out (by decide)) (fun _ hk => hk.2) (.slice Ao50 t510.length co50)) (fun _ hk => ⟨hk.1.1.1.1.1.2, ⟨hk.1.1.1.1.2, ⟨hk.1.1.1.2, ⟨hk.1.1.2, hk.1.2⟩⟩⟩⟩)⟩
          have n1_ : Aside0 (Kd.R Kd.string 9 (w49.setCell ⟨gb514, 0, none⟩ (.slice Ao50 t510.length co50)) w.heap.size (fun k_ => some k_ ≠ (.slice Ao24 t489.length co24 : Value).ownBlock ∧ some k_ ≠ (.slice Ao33 t497.length co33 : Value).ownBlock ∧ some k_ ≠ (.slice Ao39 t502.length co39 : Value).ownBlock ∧ some k_ ≠ (.slice Ao42 t505.length co42 : Value).ownBlock ∧ some k_ ≠ (.slice Ao50 t510.length co50 : Value).ownBlock) (.slice Ao27 t492.length co27) t492) := ⟨by (with_reducible repeat (first | apply Kd.R_alloc | apply Kd.R_drewN | apply Kd.R_drew)); exact Kd.R_mono (Kd.R_far (p := ⟨gb514, 0, none⟩) (Kd.R_types HO494.out BK514.out (by decide)) (fun _ hk => hk.2) (.slice Ao50 t510.length co50)) (fun _ hk => ⟨hk.1.1.1.1.1.2, ⟨hk.1.1.1.1.2, ⟨hk.1.1.1.2, ⟨hk.1.1.2, hk.1.2⟩⟩⟩⟩)⟩
          have n2_ : Aside0 (Kd.R Kd.string 9 (w49.setCell ⟨gb514, 0, none⟩ (.slice Ao50 t510.length co50)) w.heap.size (fun k_ => some k_ ≠ (.slice Ao24 t489.length co24 : Value).ownBlock ∧ some k_ ≠ (.slice Ao27 t492.length co27 : Value).ownBlock ∧ some k_ ≠ (.slice Ao39 t502.length co39 : Value).ownBlock ∧ some k_ ≠ (.slice Ao42 t505.length co42 : Value).ownBlock ∧ some k_ ≠ (.slice Ao50 t510.length co50 : Value).ownBlock) (.slice Ao33 t497.length co33) t497) := ⟨by (with_reducible repeat (first | apply Kd.R_alloc | apply Kd.R_drewN | apply Kd.R_drew)); exact Kd.R_mono (Kd.R_far (p := ⟨gb514, 0, none⟩) (Kd.R_types HO499.out BK514.out (by decide)) (fun _ hk => hk.2) (.slice Ao50 t510.length co50)) (fun _ hk => ⟨hk.1.1.1.1.1.2, ⟨hk.1.1.1.1.2, ⟨hk.1.1.1.2, ⟨hk.1.1.2, hk.1.2⟩⟩⟩⟩)⟩
          have n3_ : Aside0 (Kd.R Kd.string 9 (w49.setCell ⟨gb514, 0, none⟩ (.slice Ao50 t510.length co50)) w.heap.size (fun k_ => some k_ ≠ (.slice Ao24 t489.length co24 : Value).ownBlock ∧ some k_ ≠ (.slice Ao27 t492.length co27 : Value).ownBlock ∧ some k_ ≠ (.slice Ao33 t497.length co33 : Value).ownBlock ∧ some k_ ≠ (.slice Ao42 t505.length co42 : Value).ownBlock ∧ some k_ ≠ (.slice Ao50 t510.length co50 : Value).ownBlock) (.slice Ao39 t502.length co39) t502) := ⟨by (with_reducible repeat (first | apply Kd.R_alloc | apply Kd.R_drewN | apply Kd.R_drew)); exact Kd.R_mono (Kd.R_far (p := ⟨gb514, 0, none⟩) (Kd.R_types HO504.out BK514.out (by decide)) (fun _ hk => hk.2) (.slice Ao50 t510.length co50)) (fun _ hk => ⟨hk.1.1.1.1.1.2, ⟨hk.1.1.1.1.2, ⟨hk.1.1.1.2, ⟨hk.1.1.2, hk.1.2⟩⟩⟩⟩)⟩
          have n4_ : Aside0 (Kd.R Kd.string 9 (w49.setCell ⟨gb514, 0, none⟩ (.slice Ao50 t510.length co50)) w.heap.size (fun k_ => some k_ ≠ (.slice Ao24 t489.length co24 : Value).ownBlock ∧ some k_ ≠ (.slice Ao27 t492.length co27 : Value).ownBlock ∧ some k_ ≠ (.slice Ao33 t497.length co33 : Value).ownBlock ∧ some k_ ≠ (.slice Ao39 t502.length co39 : Value).ownBlock ∧ some k_ ≠ (.slice Ao50 t510.length co50 : Value).ownBlock) (.slice Ao42 t505.length co42) t505) := ⟨by (with_reducible repeat (first | apply Kd.R_alloc | apply Kd.R_drewN | apply Kd.R_drew)); exact Kd.R_mono (Kd.R_far (p := ⟨gb514, 0, none⟩) (Kd.R_types HO507.out BK514.out (by decide)) (fun _ hk => hk.2) (.slice Ao50 t510.length co50)) (fun _ hk => ⟨hk.1.1.1.1.1.2, ⟨hk.1.1.1.1.2, ⟨hk.1.1.1.2, ⟨hk.1.1.2, hk.1.2⟩⟩⟩⟩)⟩
          have n5_ : Aside0 (Kd.R Kd.string 9 (w49.setCell ⟨gb514, 0, none⟩ (.slice Ao50 t510.length co50)) w.heap.size (fun k_ => some k_ ≠ (.slice Ao24 t489.length co24 : Value).ownBlock ∧ some k_ ≠ (.slice Ao27 t492.length co27 : Value).ownBlock ∧ some k_ ≠ (.slice Ao33 t497.length co33 : Value).ownBlock ∧ some k_ ≠ (.slice Ao39 t502.length co39 : Value).ownBlock ∧ some k_ ≠ (.slice Ao42 t505.length co42 : Value).ownBlock) (.slice Ao50 t510.length co50) t510) := ⟨by (with_reducible repeat (first | apply Kd.R_alloc | apply Kd.R_drewN | apply Kd.R_drew)); exact Kd.R_mono (Kd.R_far (p := ⟨gb514, 0, none⟩) (Kd.R_types HO512.out BK514.out (by decide)) (fun _ hk => hk.2) (.slice Ao50 t510.length co50)) (fun _ hk => ⟨hk.1.1.1.1.1.2, ⟨hk.1.1.1.1.2, ⟨hk.1.1.1.2, ⟨hk.1.1.2, hk.1.2⟩⟩⟩⟩)⟩
          have n6_ : Aside0 ((w49.setCell ⟨gb514, 0, none⟩ (.slice Ao50 t510.length co50)).heap[gb485]? = some (.cells #[.slice A0_0 l0_0.length c0_0] 26 (0, 0))) := ⟨by (with_reducible repeat (first | apply blk_drewN | apply blk_drew | apply blk_alloc)); refine blk_far ?_ NB485_514.out _; (with_reducible repeat (first | apply blk_drewN | apply blk_drew | apply blk_alloc)); exact BK485.out⟩
          have n7_ : Aside0 ((w49.setCell ⟨gb514, 0, none⟩ (.slice Ao50 t510.length co50)).heap[gb496]? = some (.cells #[.slice Ao27 t492.length co27] 26 (0, 0))) := ⟨by (with_reducible repeat (first | apply blk_drewN | apply blk_drew | apply blk_alloc)); refine blk_far ?_ NB496_514.out _; (with_reducible repeat (first | apply blk_drewN | apply blk_drew | apply blk_alloc)); exact BK496.out⟩
          have n8_ : Aside0 ((w49.setCell ⟨gb514, 0, none⟩ (.slice Ao50 t510.length co50)).heap[gb501]? = some (.cells #[.slice Ao33 t497.length co33] 26 (0, 0))) := ⟨by (with_reducible repeat (first | apply blk_drewN | apply blk_drew | apply blk_alloc)); refine blk_far ?_ NB501_514.out _; (with_reducible repeat (first | apply blk_drewN | apply blk_drew | apply blk_alloc)); exact BK501.out⟩
          have n9_ : Aside0 ((w49.setCell ⟨gb514, 0, none⟩ (.slice Ao50 t510.length co50)).heap[gb509]? = some (.cells #[.slice Ao42 t505.length co42] 26 (0, 0))) := ⟨by (with_reducible repeat (first | apply blk_drewN | apply blk_drew | apply blk_alloc)); refine blk_far ?_ NB509_514.out _; (with_reducible repeat (first | apply blk_drewN | apply blk_drew | apply blk_alloc)); exact BK509.out⟩
          have n10_ : Aside0 ((w49.setCell ⟨gb514, 0, none⟩ (.slice Ao50 t510.length co50)).heap[gb514]? = some (.cells #[.slice Ao50 t510.length co50] 26 (0, 0))) := ⟨by (with_reducible repeat (first | apply blk_drewN | apply blk_drew | apply blk_alloc)); refine blk_put (cs := #[.slice none 0 0]) ?_ 0 _ rfl; (with_reducible repeat (first | apply blk_drewN | apply blk_drew | apply blk_alloc)); exact BK514.out⟩
          have n11_ : Aside0 (Below w.heap.size w (w49.setCell ⟨gb514, 0, none⟩ (.slice Ao50 t510.length co50))) := ⟨by repeat (first | (with_reducible first | exact HB.out | apply below_alloc | apply pw_below_drewN | apply below_drew1 | refine below_set ?_ GE485.out | refine below_set ?_ GE496.out | refine below_set ?_ GE501.out | refine below_set ?_ GE509.out | refine below_set ?_ GE514.out) | exact HB.out)⟩
          (try clear HO491)
          (try clear HO494)
          (try clear HO499)
          (try clear HO504)
          (try clear HO507)
          (try clear HO512)
          (try clear BK485)
          (try clear BK496)
          (try clear BK501)
          (try clear BK509)
          (try clear BK514)
          (try clear HB)
          generalize (w49.setCell ⟨gb514, 0, none⟩ (.slice Ao50 t510.length co50)) = w79 at n0_ n1_ n2_ n3_ n4_ n5_ n6_ n7_ n8_ n9_ n10_ n11_ ⊢
          have HO491 := n0_
          have HO494 := n1_
          have HO499 := n2_
          have HO504 := n3_
          have HO507 := n4_
          have HO512 := n5_
          have BK485 := n6_
          have BK496 := n7_
          have BK501 := n8_
          have BK509 := n9_
          have BK514 := n10_
          have HB := n11_
          clear n0_ n1_ n2_ n3_ n4_ n5_ n6_ n7_ n8_ n9_ n10_ n11_
          have n0_ := Aside0.mk (Kd.R_drew HO491.out)
          have n1_ := Aside0.mk (Kd.R_drew HO494.out)
          have n2_ := Aside0.mk (Kd.R_drew HO499.out)
          have n3_ := Aside0.mk (Kd.R_drew HO504.out)
          have n4_ := Aside0.mk (Kd.R_drew HO507.out)
          have n5_ := Aside0.mk (Kd.R_drew HO512.out)
          have n6_ := Aside0.mk (blk_drew BK485.out)
          have n7_ := Aside0.mk (blk_drew BK496.out)
          have n8_ := Aside0.mk (blk_drew BK501.out)
          have n9_ := Aside0.mk (blk_drew BK509.out)
          have n10_ := Aside0.mk (blk_drew BK514.out)
          have n11_ := Aside0.mk (below_drew1 HB.out)
          clear HO491
          clear HO494
          clear HO499
          clear HO504
          clear HO507
          clear HO512
          clear BK485
          clear BK496
          clear BK501
          clear BK509
          clear BK514
          clear HB
          have HO491 := n0_
          have HO494 := n1_
          have HO499 := n2_
          have HO504 := n3_
          have HO507 := n4_
          have HO512 := n5_
          have BK485 := n6_
          have BK496 := n7_
          have BK501 := n8_
          have BK509 := n9_
          have BK514 := n10_
          have HB := n11_
          clear n0_ n1_ n2_ n3_ n4_ n5_ n6_ n7_ n8_ n9_ n10_ n11_
          refine start_ (n := 42) (S := fun w' => w'.cell? ⟨gb485, 0, none⟩ = some (.slice A0_0 l0_0.length c0_0) ∧ w'.cell? ⟨gb496, 0, none⟩ = some (.slice Ao27 t492.length co27) ∧ w'.cell? ⟨gb501, 0, none⟩ = some (.slice Ao33 t497.length co33) ∧ w'.cell? ⟨gb509, 0, none⟩ = some (.slice Ao42 t505.length co42) ∧ w'.cell? ⟨gb514, 0, none⟩ = some (.slice Ao50 t510.length co50)) (ds := []) #[false, false, false, false, false, false, false, false, false, false, false, false, false, false, false, false, false, false, false, false, false, false, false, false, false, false, false, false, false, false, false, false, false, false, false, false, false, false, false, false, false, false] (by kernel_rfl) rfl rfl ⟨(blk_cell BK485.out 0).trans rfl, (blk_cell BK496.out 0).trans rfl, (blk_cell BK501.out 0).trans rfl, (blk_cell BK509.out 0).trans rfl, (blk_cell BK514.out 0).trans rfl⟩ (fun hHeld => ?_); refine with_tabW ancepslaw54_WordlistChanges.tab7 ancepslaw54_WordlistChanges.bits7 (fun HT_ HW_ => ?_)
          generalize w79.drew = w80 at HO491 HO494 HO499 HO504 HO507 HO512 BK485 BK496 BK501 BK509 BK514 HB hHeld ⊢
          refine take_ (i := 0) (N := some 50) (v := ?_) (a' := ?_) #[true, false, false, false, false, false, false, false, false, false, false, false, false, false, false, false, false, false, false, false, false, false, false, false, false, false, false, false, false, false, false, false, false, false, false, false, false, false, false, false, false, false] rfl rfl (take_ofW HT_.out HW_.out (by kernel_rfl)) (fun _ _ _ h => h) (Or.inl ⟨by rfl, ?_⟩) hHeld ?_ ?_
          rotate_left
          ·rintro w' ⟨s0, s1, s2, s3, s4⟩
           go_simp
           with_reducible rfl
          rotate_left
          ·simp only [Act.put, List.setIfInBounds_toArray, List.set_cons_zero, List.set_cons_succ, i64_w, i32_w]
           rfl
          refine take_ (i := 3) (N := some 53) (v := ?_) (a' := ?_) #[true, false, false, true, false, false, false, false, false, false, false, false, false, false, false, false, false, false, false, false, false, false, false, false, false, false, false, false, false, false, false, false, false, false, false, false, false, false, false, false, false, false] rfl rfl (take_ofW HT_.out HW_.out (by kernel_rfl)) (fun _ _ _ h => h) (Or.inl ⟨by rfl, ?_⟩) hHeld ?_ ?_
          rotate_left
          ·rintro w' ⟨s0, s1, s2, s3, s4⟩
           go_simp
           with_reducible rfl
          rotate_left
          ·simp only [Act.put, List.setIfInBounds_toArray, List.set_cons_zero, List.set_cons_succ, i64_w, i32_w]
           rfl
          refine one_ (i := 1) (N := some 51) #[true, true, false, true, false, false, false, false, false, false, false, false, false, false, false, false, false, false, false, false, false, false, false, false, false, false, false, false, false, false, false, false, false, false, false, false, false, false, false, false, false, false] rfl rfl (one_of HT_.out (by kernel_rfl)) (by decide) (fun K hK => ?_)
          refine goes_ Try.func13 (by kernel_rfl) rfl #[.agg #[.slice A0_0 l0_0.length c0_0]] (by rfl) rfl rfl (by (try simp only [List.map_toArray, List.map_cons, List.map_nil]); first | done | rfl | (simp only [List.length_drop, List.length_take]; rfl)) ?_
          with_reducible refine (ancepslaw54_copied.calls _ _ l0_0 t515 _ ?side1 ?side2 A56.out).mono ?_
          (case side1 => repeat (first | exact (Kd.C_below HR0_0.out HB.out) | (with_reducible refine Kd.C_alloc ?_ _) | (with_reducible refine Kd.C_drewN ?_ _) | (with_reducible refine Kd.C_drew ?_)))
          (case side2 => exact HC0_0.out)
          rintro e w81 ⟨v516, rfl, ho0, hb⟩
          refine ⟨_, rfl, ?_⟩
          have n0_ := Aside0.mk (Kd.R_elder' (by (with_reducible repeat (first | apply Kd.R_alloc | apply Kd.R_drewN | apply Kd.R_drew)); exact HO491.out) (Kd.R_base ho0) hb)
          have n1_ := Aside0.mk (Kd.R_elder' (by (with_reducible repeat (first | apply Kd.R_alloc | apply Kd.R_drewN | apply Kd.R_drew)); exact HO494.out) (Kd.R_base ho0) hb)
          have n2_ := Aside0.mk (Kd.R_elder' (by (with_reducible repeat (first | apply Kd.R_alloc | apply Kd.R_drewN | apply Kd.R_drew)); exact HO499.out) (Kd.R_base ho0) hb)
          have n3_ := Aside0.mk (Kd.R_elder' (by (with_reducible repeat (first | apply Kd.R_alloc | apply Kd.R_drewN | apply Kd.R_drew)); exact HO504.out) (Kd.R_base ho0) hb)
          have n4_ := Aside0.mk (Kd.R_elder' (by (with_reducible repeat (first | apply Kd.R_alloc | apply Kd.R_drewN | apply Kd.R_drew)); exact HO507.out) (Kd.R_base ho0) hb)
          have n5_ := Aside0.mk (Kd.R_elder' (by (with_reducible repeat (first | apply Kd.R_alloc | apply Kd.R_drewN | apply Kd.R_drew)); exact HO512.out) (Kd.R_base ho0) hb)
          have n6_ := Aside0.mk (Kd.R_lower (Kd.R_new' (Kd.R_new' (Kd.R_new' (Kd.R_new' (Kd.R_new' (Kd.R_new' ho0 (Kd.R_lt (by (with_reducible repeat (first | apply Kd.R_alloc | apply Kd.R_drewN | apply Kd.R_drew)); exact HO491.out))) (Kd.R_lt (by (with_reducible repeat (first | apply Kd.R_alloc | apply Kd.R_drewN | apply Kd.R_drew)); exact HO494.out))) (Kd.R_lt (by (with_reducible repeat (first | apply Kd.R_alloc | apply Kd.R_drewN | apply Kd.R_drew)); exact HO499.out))) (Kd.R_lt (by (with_reducible repeat (first | apply Kd.R_alloc | apply Kd.R_drewN | apply Kd.R_drew)); exact HO504.out))) (Kd.R_lt (by (with_reducible repeat (first | apply Kd.R_alloc | apply Kd.R_drewN | apply Kd.R_drew)); exact HO507.out))) (Kd.R_lt (by (with_reducible repeat (first | apply Kd.R_alloc | apply Kd.R_drewN | apply Kd.R_drew)); exact HO512.out))) (below_size (by repeat (first | (with_reducible first | exact HB.out | apply below_alloc | apply pw_below_drewN | apply below_drew1 | refine below_set ?_ GE485.out | refine below_set ?_ GE496.out | refine below_set ?_ GE501.out | refine below_set ?_ GE509.out | refine below_set ?_ GE514.out) | exact HB.out))))
          have n7_ := Aside0.mk (blk_below (g := gb485) (o := .cells #[.slice A0_0 l0_0.length c0_0] 26 (0, 0)) (by (with_reducible repeat (first | apply blk_drewN | apply blk_drew | apply blk_alloc)); exact BK485.out) hb)
          have n8_ := Aside0.mk (blk_below (g := gb496) (o := .cells #[.slice Ao27 t492.length co27] 26 (0, 0)) (by (with_reducible repeat (first | apply blk_drewN | apply blk_drew | apply blk_alloc)); exact BK496.out) hb)
          have n9_ := Aside0.mk (blk_below (g := gb501) (o := .cells #[.slice Ao33 t497.length co33] 26 (0, 0)) (by (with_reducible repeat (first | apply blk_drewN | apply blk_drew | apply blk_alloc)); exact BK501.out) hb)
          have n10_ := Aside0.mk (blk_below (g := gb509) (o := .cells #[.slice Ao42 t505.length co42] 26 (0, 0)) (by (with_reducible repeat (first | apply blk_drewN | apply blk_drew | apply blk_alloc)); exact BK509.out) hb)
          have n11_ := Aside0.mk (blk_below (g := gb514) (o := .cells #[.slice Ao50 t510.length co50] 26 (0, 0)) (by (with_reducible repeat (first | apply blk_drewN | apply blk_drew | apply blk_alloc)); exact BK514.out) hb)
          have n12_ := Aside0.mk (below_step (by repeat (first | (with_reducible first | exact HB.out | apply below_alloc | apply pw_below_drewN | apply below_drew1 | refine below_set ?_ GE485.out | refine below_set ?_ GE496.out | refine below_set ?_ GE501.out | refine below_set ?_ GE509.out | refine below_set ?_ GE514.out) | exact HB.out)) hb)
          clear HO491
          clear HO494
          clear HO499
          clear HO504
          clear HO507
          clear HO512
          clear BK485
          clear BK496
          clear BK501
          clear BK509
          clear BK514
          clear HB
          have HO491 := n0_
          have HO494 := n1_
          have HO499 := n2_
          have HO504 := n3_
          have HO507 := n4_
          have HO512 := n5_
          have HO517 := n6_
          have BK485 := n7_
          have BK496 := n8_
          have BK501 := n9_
          have BK509 := n10_
          have BK514 := n11_
          have HB := n12_
          clear n0_ n1_ n2_ n3_ n4_ n5_ n6_ n7_ n8_ n9_ n10_ n11_ n12_
          (try clear hb)
          (try clear hb2)
          (try clear hk)
          (try clear hi)
          (try clear ho0)
          obtain ⟨Ao82, co82, eo82⟩ := Kd.R_slice HO517.out
          (first | subst eo82 | (injection eo82 with f1_ f2_ f3_; have f4_ := f1_.symm; have f5_ := f3_.symm; clear f1_ f2_ f3_; subst f4_; subst f5_))
          refine hK.out _ _ ⟨(blk_cell BK485.out 0).trans rfl, (blk_cell BK496.out 0).trans rfl, (blk_cell BK501.out 0).trans rfl, (blk_cell BK509.out 0).trans rfl, (blk_cell BK514.out 0).trans rfl⟩ (fun hHeld => ?_)
          clear hK K
          refine norm_ (a' := ?_) ?_ ?_
          rotate_left
          ·show Act.put _ (some 51) _ = _
           simp only [Act.put, List.setIfInBounds_toArray, List.set_cons_zero, List.set_cons_succ, i64_w, i32_w]
           rfl
          refine one_ (i := 2) (N := some 52) #[true, true, true, true, false, false, false, false, false, false, false, false, false, false, false, false, false, false, false, false, false, false, false, false, false, false, false, false, false, false, false, false, false, false, false, false, false, false, false, false, false, false] rfl rfl (one_of HT_.out (by kernel_rfl)) (by decide) (fun K hK => ?_)
          refine goes_ Try.func26 (by kernel_rfl) rfl #[.agg #[.slice Ao82 t515.length co82]] (by rfl) rfl rfl (by (try simp only [List.map_toArray, List.map_cons, List.map_nil]); first | done | rfl | (simp only [List.length_drop, List.length_take]; rfl)) ?_
          with_reducible refine (wordlist_Valid.calls kj2 _ _ t515 t518 _ ?side1 ?side2 A57.out).mono ?_
          (case side1 => repeat (first | exact (Kd.R_reads' HO517.out).2.2 | (with_reducible refine Kd.C_alloc ?_ _) | (with_reducible refine Kd.C_drewN ?_ _) | (with_reducible refine Kd.C_drew ?_)))
          (case side2 => exact (Kd.R_reads' HO517.out).2.1)
          rintro e w83 ⟨rfl, hb⟩
          refine ⟨_, rfl, ?_⟩
          have n0_ := Aside0.mk (Kd.R_below (by (with_reducible repeat (first | apply Kd.R_alloc | apply Kd.R_drewN | apply Kd.R_drew)); exact HO491.out) hb)
          have n1_ := Aside0.mk (Kd.R_below (by (with_reducible repeat (first | apply Kd.R_alloc | apply Kd.R_drewN | apply Kd.R_drew)); exact HO494.out) hb)
          have n2_ := Aside0.mk (Kd.R_below (by (with_reducible repeat (first | apply Kd.R_alloc | apply Kd.R_drewN | apply Kd.R_drew)); exact HO499.out) hb)
          have n3_ := Aside0.mk (Kd.R_below (by (with_reducible repeat (first | apply Kd.R_alloc | apply Kd.R_drewN | apply Kd.R_drew)); exact HO504.out) hb)
          have n4_ := Aside0.mk (Kd.R_below (by (with_reducible repeat (first | apply Kd.R_alloc | apply Kd.R_drewN | apply Kd.R_drew)); exact HO507.out) hb)
          have n5_ := Aside0.mk (Kd.R_below (by (with_reducible repeat (first | apply Kd.R_alloc | apply Kd.R_drewN | apply Kd.R_drew)); exact HO512.out) hb)
          have n6_ := Aside0.mk (Kd.R_below (by (with_reducible repeat (first | apply Kd.R_alloc | apply Kd.R_drewN | apply Kd.R_drew)); exact HO517.out) hb)
          have n7_ := Aside0.mk (blk_below (g := gb485) (o := .cells #[.slice A0_0 l0_0.length c0_0] 26 (0, 0)) (by (with_reducible repeat (first | apply blk_drewN | apply blk_drew | apply blk_alloc)); exact BK485.out) hb)
          have n8_ := Aside0.mk (blk_below (g := gb496) (o := .cells #[.slice Ao27 t492.length co27] 26 (0, 0)) (by (with_reducible repeat (first | apply blk_drewN | apply blk_drew | apply blk_alloc)); exact BK496.out) hb)
          have n9_ := Aside0.mk (blk_below (g := gb501) (o := .cells #[.slice Ao33 t497.length co33] 26 (0, 0)) (by (with_reducible repeat (first | apply blk_drewN | apply blk_drew | apply blk_alloc)); exact BK501.out) hb)
          have n10_ := Aside0.mk (blk_below (g := gb509) (o := .cells #[.slice Ao42 t505.length co42] 26 (0, 0)) (by (with_reducible repeat (first | apply blk_drewN | apply blk_drew | apply blk_alloc)); exact BK509.out) hb)
          have n11_ := Aside0.mk (blk_below (g := gb514) (o := .cells #[.slice Ao50 t510.length co50] 26 (0, 0)) (by (with_reducible repeat (first | apply blk_drewN | apply blk_drew | apply blk_alloc)); exact BK514.out) hb)
          have n12_ := Aside0.mk (below_step (by repeat (first | (with_reducible first | exact HB.out | apply below_alloc | apply pw_below_drewN | apply below_drew1 | refine below_set ?_ GE485.out | refine below_set ?_ GE496.out | refine below_set ?_ GE501.out | refine below_set ?_ GE509.out | refine below_set ?_ GE514.out) | exact HB.out)) hb)
          clear HO491
          clear HO494
          clear HO499
          clear HO504
          clear HO507
          clear HO512
          clear HO517
          clear BK485
          clear BK496
          clear BK501
          clear BK509
          clear BK514
          clear HB
          have HO491 := n0_
          have HO494 := n1_
          have HO499 := n2_
          have HO504 := n3_
          have HO507 := n4_
          have HO512 := n5_
          have HO517 := n6_
          have BK485 := n7_
          have BK496 := n8_
          have BK501 := n9_
          have BK509 := n10_
          have BK514 := n11_
          have HB := n12_
          clear n0_ n1_ n2_ n3_ n4_ n5_ n6_ n7_ n8_ n9_ n10_ n11_ n12_
          (try clear hb)
          (try clear hb2)
          (try clear hk)
          (try clear hi)
          refine hK.out _ _ ⟨(blk_cell BK485.out 0).trans rfl, (blk_cell BK496.out 0).trans rfl, (blk_cell BK501.out 0).trans rfl, (blk_cell BK509.out 0).trans rfl, (blk_cell BK514.out 0).trans rfl⟩ (fun hHeld => ?_)
          clear hK K
          refine norm_ (a' := ?_) ?_ ?_
          rotate_left
          ·show Act.put _ (some 52) _ = _
           simp only [Act.put, List.setIfInBounds_toArray, List.set_cons_zero, List.set_cons_succ, i64_w, i32_w]
           rfl
          refine one_ (i := 4) (N := some 54) #[true, true, true, true, true, false, false, false, false, false, false, false, false, false, false, false, false, false, false, false, false, false, false, false, false, false, false, false, false, false, false, false, false, false, false, false, false, false, false, false, false, false] rfl rfl (one_of HT_.out (by kernel_rfl)) (by decide) (fun K hK => ?_)
          refine goes_ Try.func27 (by kernel_rfl) rfl #[.agg #[.slice A0_0 l0_0.length c0_0]] (by rfl) rfl rfl (by (try simp only [List.map_toArray, List.map_cons, List.map_nil]); first | done | rfl | (simp only [List.length_drop, List.length_take]; rfl)) ?_
          with_reducible refine (ancepsref54_Valid.calls kj2 _ _ l0_0 t519 _ ?side1 ?side2 A58.out).mono ?_
          (case side1 => repeat (first | exact (Kd.C_below HR0_0.out HB.out) | (with_reducible refine Kd.C_alloc ?_ _) | (with_reducible refine Kd.C_drewN ?_ _) | (with_reducible refine Kd.C_drew ?_)))
          (case side2 => exact HC0_0.out)
          rintro e w84 ⟨rfl, hb⟩
          refine ⟨_, rfl, ?_⟩
          have n0_ := Aside0.mk (Kd.R_below (by (with_reducible repeat (first | apply Kd.R_alloc | apply Kd.R_drewN | apply Kd.R_drew)); exact HO491.out) hb)
          have n1_ := Aside0.mk (Kd.R_below (by (with_reducible repeat (first | apply Kd.R_alloc | apply Kd.R_drewN | apply Kd.R_drew)); exact HO494.out) hb)
          have n2_ := Aside0.mk (Kd.R_below (by (with_reducible repeat (first | apply Kd.R_alloc | apply Kd.R_drewN | apply Kd.R_drew)); exact HO499.out) hb)
          have n3_ := Aside0.mk (Kd.R_below (by (with_reducible repeat (first | apply Kd.R_alloc | apply Kd.R_drewN | apply Kd.R_drew)); exact HO504.out) hb)
          have n4_ := Aside0.mk (Kd.R_below (by (with_reducible repeat (first | apply Kd.R_alloc | apply Kd.R_drewN | apply Kd.R_drew)); exact HO507.out) hb)
          have n5_ := Aside0.mk (Kd.R_below (by (with_reducible repeat (first | apply Kd.R_alloc | apply Kd.R_drewN | apply Kd.R_drew)); exact HO512.out) hb)
          have n6_ := Aside0.mk (Kd.R_below (by (with_reducible repeat (first | apply Kd.R_alloc | apply Kd.R_drewN | apply Kd.R_drew)); exact HO517.out) hb)
          have n7_ := Aside0.mk (blk_below (g := gb485) (o := .cells #[.slice A0_0 l0_0.length c0_0] 26 (0, 0)) (by (with_reducible repeat (first | apply blk_drewN | apply blk_drew | apply blk_alloc)); exact BK485.out) hb)
          have n8_ := Aside0.mk (blk_below (g := gb496) (o := .cells #[.slice Ao27 t492.length co27] 26 (0, 0)) (by (with_reducible repeat (first | apply blk_drewN | apply blk_drew | apply blk_alloc)); exact BK496.out) hb)
          have n9_ := Aside0.mk (blk_below (g := gb501) (o := .cells #[.slice Ao33 t497.length co33] 26 (0, 0)) (by (with_reducible repeat (first | apply blk_drewN | apply blk_drew | apply blk_alloc)); exact BK501.out) hb)
          have n10_ := Aside0.mk (blk_below (g := gb509) (o := .cells #[.slice Ao42 t505.length co42] 26 (0, 0)) (by (with_reducible repeat (first | apply blk_drewN | apply blk_drew | apply blk_alloc)); exact BK509.out) hb)
          have n11_ := Aside0.mk (blk_below (g := gb514) (o := .cells #[.slice Ao50 t510.length co50] 26 (0, 0)) (by (with_reducible repeat (first | apply blk_drewN | apply blk_drew | apply blk_alloc)); exact BK514.out) hb)
          have n12_ := Aside0.mk (below_step (by repeat (first | (with_reducible first | exact HB.out | apply below_alloc | apply pw_below_drewN | apply below_drew1 | refine below_set ?_ GE485.out | refine below_set ?_ GE496.out | refine below_set ?_ GE501.out | refine below_set ?_ GE509.out | refine below_set ?_ GE514.out) | exact HB.out)) hb)
          clear HO491
          clear HO494
          clear HO499
          clear HO504
          clear HO507
          clear HO512
          clear HO517
          clear BK485
          clear BK496
          clear BK501
          clear BK509
          clear BK514
          clear HB
          have HO491 := n0_
          have HO494 := n1_
          have HO499 := n2_
          have HO504 := n3_
          have HO507 := n4_
          have HO512 := n5_
          have HO517 := n6_
          have BK485 := n7_
          have BK496 := n8_
          have BK501 := n9_
          have BK509 := n10_
          have BK514 := n11_
          have HB := n12_
          clear n0_ n1_ n2_ n3_ n4_ n5_ n6_ n7_ n8_ n9_ n10_ n11_ n12_
          (try clear hb)
          (try clear hb2)
          (try clear hk)
          (try clear hi)
          refine hK.out _ _ ⟨(blk_cell BK485.out 0).trans rfl, (blk_cell BK496.out 0).trans rfl, (blk_cell BK501.out 0).trans rfl, (blk_cell BK509.out 0).trans rfl, (blk_cell BK514.out 0).trans rfl⟩ (fun hHeld => ?_)
          clear hK K
          refine norm_ (a' := ?_) ?_ ?_
          rotate_left
          ·show Act.put _ (some 54) _ = _
           simp only [Act.put, List.setIfInBounds_toArray, List.set_cons_zero, List.set_cons_succ, i64_w, i32_w]
           rfl
          refine pure_ (i := 5) (N := some 55) (v := ?_) (a' := ?_) #[true, true, true, true, true, true, false, false, false, false, false, false, false, false, false, false, false, false, false, false, false, false, false, false, false, false, false, false, false, false, false, false, false, false, false, false, false, false, false, false, false, false] rfl rfl (any_of HT_.out (by kernel_rfl)) (fun _ _ _ h => h) (Or.inl ⟨by rfl, ?_⟩) ?_ ?_
          rotate_left
          ·intro w'
           go_simp
           with_reducible rfl
          rotate_left
          ·simp only [Act.put, List.setIfInBounds_toArray, List.set_cons_zero, List.set_cons_succ, i64_w, i32_w]
           rfl
          refine pure_ (i := 6) (N := some 56) (v := ?_) (a' := ?_) #[true, true, true, true, true, true, true, false, false, false, false, false, false, false, false, false, false, false, false, false, false, false, false, false, false, false, false, false, false, false, false, false, false, false, false, false, false, false, false, false, false, false] rfl rfl (any_of HT_.out (by kernel_rfl)) (fun _ _ _ h => h) (Or.inl ⟨by rfl, ?_⟩) ?_ ?_
          rotate_left
          ·intro w'
           go_simp
           with_reducible rfl
          rotate_left
          ·simp only [Act.put, List.setIfInBounds_toArray, List.set_cons_zero, List.set_cons_succ, i64_w, i32_w]
           rfl
          refine pure_ (i := 9) (N := some 59) (v := ?_) (a' := ?_) #[true, true, true, true, true, true, true, false, false, true, false, false, false, false, false, false, false, false, false, false, false, false, false, false, false, false, false, false, false, false, false, false, false, false, false, false, false, false, false, false, false, false] rfl rfl (any_of HT_.out (by kernel_rfl)) (fun _ _ _ h => h) (Or.inl ⟨by rfl, ?_⟩) ?_ ?_
          rotate_left
          ·intro w'
           go_simp
           with_reducible rfl
          rotate_left
          ·simp only [Act.put, List.setIfInBounds_toArray, List.set_cons_zero, List.set_cons_succ, i64_w, i32_w]
           rfl
          refine pure_ (i := 12) (N := some 62) (v := ?_) (a' := ?_) #[true, true, true, true, true, true, true, false, false, true, false, false, true, false, false, false, false, false, false, false, false, false, false, false, false, false, false, false, false, false, false, false, false, false, false, false, false, false, false, false, false, false] rfl rfl (any_of HT_.out (by kernel_rfl)) (fun _ _ _ h => h) (Or.inl ⟨by rfl, ?_⟩) ?_ ?_
          rotate_left
          ·intro w'
           go_simp
           with_reducible rfl
          rotate_left
          ·simp only [Act.put, List.setIfInBounds_toArray, List.set_cons_zero, List.set_cons_succ, i64_w, i32_w]
           rfl
          refine take_ (i := 7) (N := some 57) (v := ?_) (a' := ?_) #[true, true, true, true, true, true, true, true, false, true, false, false, true, false, false, false, false, false, false, false, false, false, false, false, false, false, false, false, false, false, false, false, false, false, false, false, false, false, false, false, false, false] rfl rfl (take_ofW HT_.out HW_.out (by kernel_rfl)) (fun _ _ _ h => h) (Or.inl ⟨by rfl, ?_⟩) hHeld ?_ ?_
          rotate_left
          ·rintro w' ⟨s0, s1, s2, s3, s4⟩
           go_simp
           with_reducible rfl
          rotate_left
          ·simp only [Act.put, List.setIfInBounds_toArray, List.set_cons_zero, List.set_cons_succ, i64_w, i32_w]
           rfl
          refine take_ (i := 11) (N := some 61) (v := ?_) (a' := ?_) #[true, true, true, true, true, true, true, true, false, true, false, true, true, false, false, false, false, false, false, false, false, false, false, false, false, false, false, false, false, false, false, false, false, false, false, false, false, false, false, false, false, false] rfl rfl (take_ofW HT_.out HW_.out (by kernel_rfl)) (fun _ _ _ h => h) (Or.inl ⟨by rfl, ?_⟩) hHeld ?_ ?_
          rotate_left
          ·rintro w' ⟨s0, s1, s2, s3, s4⟩
           go_simp
           with_reducible rfl
          rotate_left
          ·simp only [Act.put, List.setIfInBounds_toArray, List.set_cons_zero, List.set_cons_succ, i64_w, i32_w]
           rfl
          refine one_ (i := 8) (N := some 58) #[true, true, true, true, true, true, true, true, true, true, false, true, true, false, false, false, false, false, false, false, false, false, false, false, false, false, false, false, false, false, false, false, false, false, false, false, false, false, false, false, false, false] rfl rfl (one_of HT_.out (by kernel_rfl)) (by decide) (fun K hK => ?_)
          refine goes_ Try.func13 (by kernel_rfl) rfl #[.agg #[.slice A0_0 l0_0.length c0_0]] (by rfl) rfl rfl (by (try simp only [List.map_toArray, List.map_cons, List.map_nil]); first | done | rfl | (simp only [List.length_drop, List.length_take]; rfl)) ?_
          with_reducible refine (ancepslaw54_copied.calls _ _ l0_0 t520 _ ?side1 ?side2 A60.out).mono ?_
          (case side1 => repeat (first | exact (Kd.C_below HR0_0.out HB.out) | (with_reducible refine Kd.C_alloc ?_ _) | (with_reducible refine Kd.C_drewN ?_ _) | (with_reducible refine Kd.C_drew ?_)))
          (case side2 => exact HC0_0.out)
          rintro e w85 ⟨v521, rfl, ho0, hb⟩
          refine ⟨_, rfl, ?_⟩
          have n0_ := Aside0.mk (Kd.R_elder' (by (with_reducible repeat (first | apply Kd.R_alloc | apply Kd.R_drewN | apply Kd.R_drew)); exact HO491.out) (Kd.R_base ho0) hb)
          have n1_ := Aside0.mk (Kd.R_elder' (by (with_reducible repeat (first | apply Kd.R_alloc | apply Kd.R_drewN | apply Kd.R_drew)); exact HO494.out) (Kd.R_base ho0) hb)
          have n2_ := Aside0.mk (Kd.R_elder' (by (with_reducible repeat (first | apply Kd.R_alloc | apply Kd.R_drewN | apply Kd.R_drew)); exact HO499.out) (Kd.R_base ho0) hb)
          have n3_ := Aside0.mk (Kd.R_elder' (by (with_reducible repeat (first | apply Kd.R_alloc | apply Kd.R_drewN | apply Kd.R_drew)); exact HO504.out) (Kd.R_base ho0) hb)
          have n4_ := Aside0.mk (Kd.R_elder' (by (with_reducible repeat (first | apply Kd.R_alloc | apply Kd.R_drewN | apply Kd.R_drew)); exact HO507.out) (Kd.R_base ho0) hb)
          have n5_ := Aside0.mk (Kd.R_elder' (by (with_reducible repeat (first | apply Kd.R_alloc | apply Kd.R_drewN | apply Kd.R_drew)); exact HO512.out) (Kd.R_base ho0) hb)
          have n6_ := Aside0.mk (Kd.R_elder' (by (with_reducible repeat (first | apply Kd.R_alloc | apply Kd.R_drewN | apply Kd.R_drew)); exact HO517.out) (Kd.R_base ho0) hb)
          have n7_ := Aside0.mk (Kd.R_lower (Kd.R_new' (Kd.R_new' (Kd.R_new' (Kd.R_new' (Kd.R_new' (Kd.R_new' (Kd.R_new' ho0 (Kd.R_lt (by (with_reducible repeat (first | apply Kd.R_alloc | apply Kd.R_drewN | apply Kd.R_drew)); exact HO491.out))) (Kd.R_lt (by (with_reducible repeat (first | apply Kd.R_alloc | apply Kd.R_drewN | apply Kd.R_drew)); exact HO494.out))) (Kd.R_lt (by (with_reducible repeat (first | apply Kd.R_alloc | apply Kd.R_drewN | apply Kd.R_drew)); exact HO499.out))) (Kd.R_lt (by (with_reducible repeat (first | apply Kd.R_alloc | apply Kd.R_drewN | apply Kd.R_drew)); exact HO504.out))) (Kd.R_lt (by (with_reducible repeat (first | apply Kd.R_alloc | apply Kd.R_drewN | apply Kd.R_drew)); exact HO507.out))) (Kd.R_lt (by (with_reducible repeat (first | apply Kd.R_alloc | apply Kd.R_drewN | apply Kd.R_drew)); exact HO512.out))) (Kd.R_lt (by (with_reducible repeat (first | apply Kd.R_alloc | apply Kd.R_drewN | apply Kd.R_drew)); exact HO517.out))) (below_size (by repeat (first | (with_reducible first | exact HB.out | apply below_alloc | apply pw_below_drewN | apply below_drew1 | refine below_set ?_ GE485.out | refine below_set ?_ GE496.out | refine below_set ?_ GE501.out | refine below_set ?_ GE509.out | refine below_set ?_ GE514.out) | exact HB.out))))
          have n8_ := Aside0.mk (blk_below (g := gb485) (o := .cells #[.slice A0_0 l0_0.length c0_0] 26 (0, 0)) (by (with_reducible repeat (first | apply blk_drewN | apply blk_drew | apply blk_alloc)); exact BK485.out) hb)
          have n9_ := Aside0.mk (blk_below (g := gb496) (o := .cells #[.slice Ao27 t492.length co27] 26 (0, 0)) (by (with_reducible repeat (first | apply blk_drewN | apply blk_drew | apply blk_alloc)); exact BK496.out) hb)
          have n10_ := Aside0.mk (blk_below (g := gb501) (o := .cells #[.slice Ao33 t497.length co33] 26 (0, 0)) (by (with_reducible repeat (first | apply blk_drewN | apply blk_drew | apply blk_alloc)); exact BK501.out) hb)
          have n11_ := Aside0.mk (blk_below (g := gb509) (o := .cells #[.slice Ao42 t505.length co42] 26 (0, 0)) (by (with_reducible repeat (first | apply blk_drewN | apply blk_drew | apply blk_alloc)); exact BK509.out) hb)
          have n12_ := Aside0.mk (blk_below (g := gb514) (o := .cells #[.slice Ao50 t510.length co50] 26 (0, 0)) (by (with_reducible repeat (first | apply blk_drewN | apply blk_drew | apply blk_alloc)); exact BK514.out) hb)
          have n13_ := Aside0.mk (below_step (by repeat (first | (with_reducible first | exact HB.out | apply below_alloc | apply pw_below_drewN | apply below_drew1 | refine below_set ?_ GE485.out | refine below_set ?_ GE496.out | refine below_set ?_ GE501.out | refine below_set ?_ GE509.out | refine below_set ?_ GE514.out) | exact HB.out)) hb)
          clear HO491
          clear HO494
          clear HO499
          clear HO504
          clear HO507
          clear HO512
          clear HO517
          clear BK485
          clear BK496
          clear BK501
          clear BK509
          clear BK514
          clear HB
          have HO491 := n0_
          have HO494 := n1_
          have HO499 := n2_
          have HO504 := n3_
          have HO507 := n4_
          have HO512 := n5_
          have HO517 := n6_
          have HO522 := n7_
          have BK485 := n8_
          have BK496 := n9_
          have BK501 := n10_
          have BK509 := n11_
          have BK514 := n12_
          have HB := n13_
          clear n0_ n1_ n2_ n3_ n4_ n5_ n6_ n7_ n8_ n9_ n10_ n11_ n12_ n13_
          (try clear hb)
          (try clear hb2)
          (try clear hk)
          (try clear hi)
          (try clear ho0)
          obtain ⟨Ao86, co86, eo86⟩ := Kd.R_slice HO522.out
          (first | subst eo86 | (injection eo86 with f1_ f2_ f3_; have f4_ := f1_.symm; have f5_ := f3_.symm; clear f1_ f2_ f3_; subst f4_; subst f5_))
          refine hK.out _ _ ⟨(blk_cell BK485.out 0).trans rfl, (blk_cell BK496.out 0).trans rfl, (blk_cell BK501.out 0).trans rfl, (blk_cell BK509.out 0).trans rfl, (blk_cell BK514.out 0).trans rfl⟩ (fun hHeld => ?_)
          clear hK K
          refine norm_ (a' := ?_) ?_ ?_
          rotate_left
          ·show Act.put _ (some 58) _ = _
           simp only [Act.put, List.setIfInBounds_toArray, List.set_cons_zero, List.set_cons_succ, i64_w, i32_w]
           rfl
          refine one_ (i := 10) (N := some 60) #[true, true, true, true, true, true, true, true, true, true, true, true, true, false, false, false, false, false, false, false, false, false, false, false, false, false, false, false, false, false, false, false, false, false, false, false, false, false, false, false, false, false] rfl rfl (one_of HT_.out (by kernel_rfl)) (by decide) (fun K hK => ?_)
          refine goes_ Try.func28 (by kernel_rfl) rfl #[.agg #[.slice Ao86 t520.length co86], .string a1] (by rfl) rfl rfl (by (try simp only [List.map_toArray, List.map_cons, List.map_nil]); first | done | rfl | (simp only [List.length_drop, List.length_take]; rfl)) ?_
          with_reducible refine (wordlist_Has.calls kj2 _ _ t520 a1 t523 _ ?side1 ?side2 A61.out).mono ?_
          (case side1 => repeat (first | exact (Kd.R_reads' HO522.out).2.2 | (with_reducible refine Kd.C_alloc ?_ _) | (with_reducible refine Kd.C_drewN ?_ _) | (with_reducible refine Kd.C_drew ?_)))
          (case side2 => exact (Kd.R_reads' HO522.out).2.1)
          rintro e w87 ⟨rfl, hb⟩
          refine ⟨_, rfl, ?_⟩
          have n0_ := Aside0.mk (Kd.R_below (by (with_reducible repeat (first | apply Kd.R_alloc | apply Kd.R_drewN | apply Kd.R_drew)); exact HO491.out) hb)
          have n1_ := Aside0.mk (Kd.R_below (by (with_reducible repeat (first | apply Kd.R_alloc | apply Kd.R_drewN | apply Kd.R_drew)); exact HO494.out) hb)
          have n2_ := Aside0.mk (Kd.R_below (by (with_reducible repeat (first | apply Kd.R_alloc | apply Kd.R_drewN | apply Kd.R_drew)); exact HO499.out) hb)
          have n3_ := Aside0.mk (Kd.R_below (by (with_reducible repeat (first | apply Kd.R_alloc | apply Kd.R_drewN | apply Kd.R_drew)); exact HO504.out) hb)
          have n4_ := Aside0.mk (Kd.R_below (by (with_reducible repeat (first | apply Kd.R_alloc | apply Kd.R_drewN | apply Kd.R_drew)); exact HO507.out) hb)
          have n5_ := Aside0.mk (Kd.R_below (by (with_reducible repeat (first | apply Kd.R_alloc | apply Kd.R_drewN | apply Kd.R_drew)); exact HO512.out) hb)
          have n6_ := Aside0.mk (Kd.R_below (by (with_reducible repeat (first | apply Kd.R_alloc | apply Kd.R_drewN | apply Kd.R_drew)); exact HO517.out) hb)
          have n7_ := Aside0.mk (Kd.R_below (by (with_reducible repeat (first | apply Kd.R_alloc | apply Kd.R_drewN | apply Kd.R_drew)); exact HO522.out) hb)
          have n8_ := Aside0.mk (blk_below (g := gb485) (o := .cells #[.slice A0_0 l0_0.length c0_0] 26 (0, 0)) (by (with_reducible repeat (first | apply blk_drewN | apply blk_drew | apply blk_alloc)); exact BK485.out) hb)
          have n9_ := Aside0.mk (blk_below (g := gb496) (o := .cells #[.slice Ao27 t492.length co27] 26 (0, 0)) (by (with_reducible repeat (first | apply blk_drewN | apply blk_drew | apply blk_alloc)); exact BK496.out) hb)
          have n10_ := Aside0.mk (blk_below (g := gb501) (o := .cells #[.slice Ao33 t497.length co33] 26 (0, 0)) (by (with_reducible repeat (first | apply blk_drewN | apply blk_drew | apply blk_alloc)); exact BK501.out) hb)
          have n11_ := Aside0.mk (blk_below (g := gb509) (o := .cells #[.slice Ao42 t505.length co42] 26 (0, 0)) (by (with_reducible repeat (first | apply blk_drewN | apply blk_drew | apply blk_alloc)); exact BK509.out) hb)
          have n12_ := Aside0.mk (blk_below (g := gb514) (o := .cells #[.slice Ao50 t510.length co50] 26 (0, 0)) (by (with_reducible repeat (first | apply blk_drewN | apply blk_drew | apply blk_alloc)); exact BK514.out) hb)
          have n13_ := Aside0.mk (below_step (by repeat (first | (with_reducible first | exact HB.out | apply below_alloc | apply pw_below_drewN | apply below_drew1 | refine below_set ?_ GE485.out | refine below_set ?_ GE496.out | refine below_set ?_ GE501.out | refine below_set ?_ GE509.out | refine below_set ?_ GE514.out) | exact HB.out)) hb)
          clear HO491
          clear HO494
          clear HO499
          clear HO504
          clear HO507
          clear HO512
          clear HO517
          clear HO522
          clear BK485
          clear BK496
          clear BK501
          clear BK509
          clear BK514
          clear HB
          have HO491 := n0_
          have HO494 := n1_
          have HO499 := n2_
          have HO504 := n3_
          have HO507 := n4_
          have HO512 := n5_
          have HO517 := n6_
          have HO522 := n7_
          have BK485 := n8_
          have BK496 := n9_
          have BK501 := n10_
          have BK509 := n11_
          have BK514 := n12_
          have HB := n13_
          clear n0_ n1_ n2_ n3_ n4_ n5_ n6_ n7_ n8_ n9_ n10_ n11_ n12_ n13_
          (try clear hb)
          (try clear hb2)
          (try clear hk)
          (try clear hi)
          refine hK.out _ _ ⟨(blk_cell BK485.out 0).trans rfl, (blk_cell BK496.out 0).trans rfl, (blk_cell BK501.out 0).trans rfl, (blk_cell BK509.out 0).trans rfl, (blk_cell BK514.out 0).trans rfl⟩ (fun hHeld => ?_)
          clear hK K
          refine norm_ (a' := ?_) ?_ ?_
          rotate_left
          ·show Act.put _ (some 60) _ = _
           simp only [Act.put, List.setIfInBounds_toArray, List.set_cons_zero, List.set_cons_succ, i64_w, i32_w]
           rfl
          refine one_ (i := 13) (N := some 63) #[true, true, true, true, true, true, true, true, true, true, true, true, true, true, false, false, false, false, false, false, false, false, false, false, false, false, false, false, false, false, false, false, false, false, false, false, false, false, false, false, false, false] rfl rfl (one_of HT_.out (by kernel_rfl)) (by decide) (fun K hK => ?_)
          refine goes_ Try.func29 (by kernel_rfl) rfl #[.agg #[.slice A0_0 l0_0.length c0_0], .string a1] (by rfl) rfl rfl (by (try simp only [List.map_toArray, List.map_cons, List.map_nil]); first | done | rfl | (simp only [List.length_drop, List.length_take]; rfl)) ?_
          with_reducible refine (ancepsref54_Has.calls kj2 _ _ l0_0 a1 t524 _ ?side1 ?side2 A62.out).mono ?_
          (case side1 => repeat (first | exact (Kd.C_below HR0_0.out HB.out) | (with_reducible refine Kd.C_alloc ?_ _) | (with_reducible refine Kd.C_drewN ?_ _) | (with_reducible refine Kd.C_drew ?_)))
          (case side2 => exact HC0_0.out)
          rintro e w88 ⟨rfl, hb⟩
          refine ⟨_, rfl, ?_⟩
          have n0_ := Aside0.mk (Kd.R_below (by (with_reducible repeat (first | apply Kd.R_alloc | apply Kd.R_drewN | apply Kd.R_drew)); exact HO491.out) hb)
          have n1_ := Aside0.mk (Kd.R_below (by (with_reducible repeat (first | apply Kd.R_alloc | apply Kd.R_drewN | apply Kd.R_drew)); exact HO494.out) hb)
          have n2_ := Aside0.mk (Kd.R_below (by (with_reducible repeat (first | apply Kd.R_alloc | apply Kd.R_drewN | apply Kd.R_drew)); exact HO499.out) hb)
          have n3_ := Aside0.mk (Kd.R_below (by (with_reducible repeat (first | apply Kd.R_alloc | apply Kd.R_drewN | apply Kd.R_drew)); exact HO504.out) hb)
          have n4_ := Aside0.mk (Kd.R_below (by (with_reducible repeat (first | apply Kd.R_alloc | apply Kd.R_drewN | apply Kd.R_drew)); exact HO507.out) hb)
          have n5_ := Aside0.mk (Kd.R_below (by (with_reducible repeat (first | apply Kd.R_alloc | apply Kd.R_drewN | apply Kd.R_drew)); exact HO512.out) hb)
          have n6_ := Aside0.mk (Kd.R_below (by (with_reducible repeat (first | apply Kd.R_alloc | apply Kd.R_drewN | apply Kd.R_drew)); exact HO517.out) hb)
          have n7_ := Aside0.mk (Kd.R_below (by (with_reducible repeat (first | apply Kd.R_alloc | apply Kd.R_drewN | apply Kd.R_drew)); exact HO522.out) hb)
          have n8_ := Aside0.mk (blk_below (g := gb485) (o := .cells #[.slice A0_0 l0_0.length c0_0] 26 (0, 0)) (by (with_reducible repeat (first | apply blk_drewN | apply blk_drew | apply blk_alloc)); exact BK485.out) hb)
          have n9_ := Aside0.mk (blk_below (g := gb496) (o := .cells #[.slice Ao27 t492.length co27] 26 (0, 0)) (by (with_reducible repeat (first | apply blk_drewN | apply blk_drew | apply blk_alloc)); exact BK496.out) hb)
          have n10_ := Aside0.mk (blk_below (g := gb501) (o := .cells #[.slice Ao33 t497.length co33] 26 (0, 0)) (by (with_reducible repeat (first | apply blk_drewN | apply blk_drew | apply blk_alloc)); exact BK501.out) hb)
          have n11_ := Aside0.mk (blk_below (g := gb509) (o := .cells #[.slice Ao42 t505.length co42] 26 (0, 0)) (by (with_reducible repeat (first | apply blk_drewN | apply blk_drew | apply blk_alloc)); exact BK509.out) hb)
          have n12_ := Aside0.mk (blk_below (g := gb514) (o := .cells #[.slice Ao50 t510.length co50] 26 (0, 0)) (by (with_reducible repeat (first | apply blk_drewN | apply blk_drew | apply blk_alloc)); exact BK514.out) hb)
          have n13_ := Aside0.mk (below_step (by repeat (first | (with_reducible first | exact HB.out | apply below_alloc | apply pw_below_drewN | apply below_drew1 | refine below_set ?_ GE485.out | refine below_set ?_ GE496.out | refine below_set ?_ GE501.out | refine below_set ?_ GE509.out | refine below_set ?_ GE514.out) | exact HB.out)) hb)
          clear HO491
          clear HO494
          clear HO499
          clear HO504
          clear HO507
          clear HO512
          clear HO517
          clear HO522
          clear BK485
          clear BK496
          clear BK501
          clear BK509
          clear BK514
          clear HB
          have HO491 := n0_
          have HO494 := n1_
          have HO499 := n2_
          have HO504 := n3_
          have HO507 := n4_
          have HO512 := n5_
          have HO517 := n6_
          have HO522 := n7_
          have BK485 := n8_
          have BK496 := n9_
          have BK501 := n10_
          have BK509 := n11_
          have BK514 := n12_
          have HB := n13_
          clear n0_ n1_ n2_ n3_ n4_ n5_ n6_ n7_ n8_ n9_ n10_ n11_ n12_ n13_
          (try clear hb)
          (try clear hb2)
          (try clear hk)
          (try clear hi)
          refine hK.out _ _ ⟨(blk_cell BK485.out 0).trans rfl, (blk_cell BK496.out 0).trans rfl, (blk_cell BK501.out 0).trans rfl, (blk_cell BK509.out 0).trans rfl, (blk_cell BK514.out 0).trans rfl⟩ (fun hHeld => ?_)
          clear hK K
          refine norm_ (a' := ?_) ?_ ?_
          rotate_left
          ·show Act.put _ (some 63) _ = _
           simp only [Act.put, List.setIfInBounds_toArray, List.set_cons_zero, List.set_cons_succ, i64_w, i32_w]
           rfl
          refine pure_ (i := 14) (N := some 64) (v := ?_) (a' := ?_) #[true, true, true, true, true, true, true, true, true, true, true, true, true, true, true, false, false, false, false, false, false, false, false, false, false, false, false, false, false, false, false, false, false, false, false, false, false, false, false, false, false, false] rfl rfl (any_of HT_.out (by kernel_rfl)) (fun _ _ _ h => h) (Or.inl ⟨by rfl, ?_⟩) ?_ ?_
          rotate_left
          ·intro w'
           go_simp
           with_reducible rfl
          rotate_left
          ·simp only [Act.put, List.setIfInBounds_toArray, List.set_cons_zero, List.set_cons_succ, i64_w, i32_w]
           rfl
          refine pure_ (i := 15) (N := some 65) (v := ?_) (a' := ?_) #[true, true, true, true, true, true, true, true, true, true, true, true, true, true, true, true, false, false, false, false, false, false, false, false, false, false, false, false, false, false, false, false, false, false, false, false, false, false, false, false, false, false] rfl rfl (any_of HT_.out (by kernel_rfl)) (fun _ _ _ h => h) (Or.inl ⟨by rfl, ?_⟩) ?_ ?_
          rotate_left
          ·intro w'
           go_simp
           with_reducible rfl
          rotate_left
          ·simp only [Act.put, List.setIfInBounds_toArray, List.set_cons_zero, List.set_cons_succ, i64_w, i32_w]
           rfl
          refine pure_ (i := 16) (N := some 66) (v := ?_) (a' := ?_) #[true, true, true, true, true, true, true, true, true, true, true, true, true, true, true, true, true, false, false, false, false, false, false, false, false, false, false, false, false, false, false, false, false, false, false, false, false, false, false, false, false, false] rfl rfl (any_of HT_.out (by kernel_rfl)) (fun _ _ _ h => h) (Or.inl ⟨by rfl, ?_⟩) ?_ ?_
          rotate_left
          ·intro w'
           go_simp
           with_reducible rfl
          rotate_left
          ·simp only [Act.put, List.setIfInBounds_toArray, List.set_cons_zero, List.set_cons_succ, i64_w, i32_w]
           rfl
          refine pure_ (i := 17) (N := some 67) (v := ?_) (a' := ?_) #[true, true, true, true, true, true, true, true, true, true, true, true, true, true, true, true, true, true, false, false, false, false, false, false, false, false, false, false, false, false, false, false, false, false, false, false, false, false, false, false, false, false] rfl rfl (any_of HT_.out (by kernel_rfl)) (fun _ _ _ h => h) (Or.inl ⟨by rfl, ?_⟩) ?_ ?_
          rotate_left
          ·intro w'
           go_simp
           with_reducible rfl
          rotate_left
          ·simp only [Act.put, List.setIfInBounds_toArray, List.set_cons_zero, List.set_cons_succ, i64_w, i32_w]
           rfl
          refine pure_ (i := 18) (N := some 68) (v := ?_) (a' := ?_) #[true, true, true, true, true, true, true, true, true, true, true, true, true, true, true, true, true, true, true, false, false, false, false, false, false, false, false, false, false, false, false, false, false, false, false, false, false, false, false, false, false, false] rfl rfl (any_of HT_.out (by kernel_rfl)) (fun _ _ _ h => h) (Or.inl ⟨by rfl, ?_⟩) ?_ ?_
          rotate_left
          ·intro w'
           go_simp
           with_reducible rfl
          rotate_left
          ·simp only [Act.put, List.setIfInBounds_toArray, List.set_cons_zero, List.set_cons_succ, i64_w, i32_w]
           rfl
          refine pure_ (i := 19) (N := some 69) (v := ?_) (a' := ?_) #[true, true, true, true, true, true, true, true, true, true, true, true, true, true, true, true, true, true, true, true, false, false, false, false, false, false, false, false, false, false, false, false, false, false, false, false, false, false, false, false, false, false] rfl rfl (any_of HT_.out (by kernel_rfl)) (fun _ _ _ h => h) (Or.inl ⟨by rfl, ?_⟩) ?_ ?_
          rotate_left
          ·intro w'
           go_simp
           with_reducible rfl
          rotate_left
          ·simp only [Act.put, List.setIfInBounds_toArray, List.set_cons_zero, List.set_cons_succ, i64_w, i32_w]
           rfl
          refine pure_ (i := 20) (N := some 70) (v := ?_) (a' := ?_) #[true, true, true, true, true, true, true, true, true, true, true, true, true, true, true, true, true, true, true, true, true, false, false, false, false, false, false, false, false, false, false, false, false, false, false, false, false, false, false, false, false, false] rfl rfl (any_of HT_.out (by kernel_rfl)) (fun _ _ _ h => h) (Or.inl ⟨by rfl, ?_⟩) ?_ ?_
          rotate_left
          ·intro w'
           go_simp
           with_reducible rfl
          rotate_left
          ·simp only [Act.put, List.setIfInBounds_toArray, List.set_cons_zero, List.set_cons_succ, i64_w, i32_w]
           rfl
          refine pure_ (i := 21) (N := some 71) (v := ?_) (a' := ?_) #[true, true, true, true, true, true, true, true, true, true, true, true, true, true, true, true, true, true, true, true, true, true, false, false, false, false, false, false, false, false, false, false, false, false, false, false, false, false, false, false, false, false] rfl rfl (any_of HT_.out (by kernel_rfl)) (fun _ _ _ h => h) (Or.inl ⟨by rfl, ?_⟩) ?_ ?_
          rotate_left
          ·intro w'
           go_simp
           with_reducible rfl
          rotate_left
          ·simp only [Act.put, List.setIfInBounds_toArray, List.set_cons_zero, List.set_cons_succ, i64_w, i32_w]
           rfl
          refine pure_ (i := 22) (N := some 72) (v := ?_) (a' := ?_) #[true, true, true, true, true, true, true, true, true, true, true, true, true, true, true, true, true, true, true, true, true, true, true, false, false, false, false, false, false, false, false, false, false, false, false, false, false, false, false, false, false, false] rfl rfl (any_of HT_.out (by kernel_rfl)) (fun _ _ _ h => h) (Or.inl ⟨by rfl, ?_⟩) ?_ ?_
          rotate_left
          ·intro w'
           go_simp
           with_reducible rfl
          rotate_left
          ·simp only [Act.put, List.setIfInBounds_toArray, List.set_cons_zero, List.set_cons_succ, i64_w, i32_w]
           rfl
          refine pure_ (i := 24) (N := some 74) (v := ?_) (a' := ?_) #[true, true, true, true, true, true, true, true, true, true, true, true, true, true, true, true, true, true, true, true, true, true, true, false, true, false, false, false, false, false, false, false, false, false, false, false, false, false, false, false, false, false] rfl rfl (any_of HT_.out (by kernel_rfl)) (fun _ _ _ h => h) (Or.inl ⟨by rfl, ?_⟩) ?_ ?_
          rotate_left
          ·intro w'
           go_simp
           with_reducible rfl
          rotate_left
          ·simp only [Act.put, List.setIfInBounds_toArray, List.set_cons_zero, List.set_cons_succ, i64_w, i32_w]
           rfl
          refine take_ (i := 23) (N := some 73) (v := ?_) (a' := ?_) #[true, true, true, true, true, true, true, true, true, true, true, true, true, true, true, true, true, true, true, true, true, true, true, true, true, false, false, false, false, false, false, false, false, false, false, false, false, false, false, false, false, false] rfl rfl (take_ofW HT_.out HW_.out (by kernel_rfl)) (fun _ _ _ h => h) (Or.inl ⟨by rfl, ?_⟩) hHeld ?_ ?_
          rotate_left
          ·rintro w' ⟨s0, s1, s2, s3, s4⟩
           go_simp
           with_reducible rfl
          rotate_left
          ·simp only [Act.put, List.setIfInBounds_toArray, List.set_cons_zero, List.set_cons_succ, i64_w, i32_w]
           rfl
          refine take_ (i := 25) (N := some 75) (v := ?_) (a' := ?_) #[true, true, true, true, true, true, true, true, true, true, true, true, true, true, true, true, true, true, true, true, true, true, true, true, true, true, false, false, false, false, false, false, false, false, false, false, false, false, false, false, false, false] rfl rfl (take_ofW HT_.out HW_.out (by kernel_rfl)) (fun _ _ _ h => h) (Or.inl ⟨by rfl, ?_⟩) hHeld ?_ ?_
          rotate_left
          ·rintro w' ⟨s0, s1, s2, s3, s4⟩
           go_simp
           with_reducible rfl
          rotate_left
          ·simp only [Act.put, List.setIfInBounds_toArray, List.set_cons_zero, List.set_cons_succ, i64_w, i32_w]
           rfl
          refine one_ (i := 26) (N := some 76) #[true, true, true, true, true, true, true, true, true, true, true, true, true, true, true, true, true, true, true, true, true, true, true, true, true, true, true, false, false, false, false, false, false, false, false, false, false, false, false, false, false, false] rfl rfl (one_of HT_.out (by kernel_rfl)) (by decide) (fun K hK => ?_)
          refine goes_ Try.func30 (by kernel_rfl) rfl #[.slice Ao27 t492.length co27, .slice Ao33 t497.length co33] (by rfl) rfl rfl (by (try simp only [List.map_toArray, List.map_cons, List.map_nil]); first | done | rfl | (simp only [List.length_drop, List.length_take]; rfl)) ?_
          with_reducible refine (slices_Equal_string_string.calls kj2 _ _ t492 _ _ t497 true _ ?side1 ?side2 ?side3 ?side4 A75.out).mono ?_
          (case side1 => repeat (first | exact (Kd.R_reads' HO494.out).2.2 | (with_reducible refine Kd.C_alloc ?_ _) | (with_reducible refine Kd.C_drewN ?_ _) | (with_reducible refine Kd.C_drew ?_)))
          (case side2 => exact (Kd.R_reads' HO494.out).2.1)
          (case side3 => repeat (first | exact (Kd.R_reads' HO499.out).2.2 | (with_reducible refine Kd.C_alloc ?_ _) | (with_reducible refine Kd.C_drewN ?_ _) | (with_reducible refine Kd.C_drew ?_)))
          (case side4 => exact (Kd.R_reads' HO499.out).2.1)
          rintro e w' ⟨rfl, ⟨nd, rfl⟩⟩
          refine ⟨_, rfl, ?_⟩
          refine hK.out _ _ ⟨(blk_cell BK485.out 0).trans rfl, (blk_cell BK496.out 0).trans rfl, (blk_cell BK501.out 0).trans rfl, (blk_cell BK509.out 0).trans rfl, (blk_cell BK514.out 0).trans rfl⟩ (fun hHeld => ?_)
          clear hK K
          refine norm_ (a' := ?_) ?_ ?_
          rotate_left
          ·show Act.put _ (some 76) _ = _
           simp only [Act.put, List.setIfInBounds_toArray, List.set_cons_zero, List.set_cons_succ, i64_w, i32_w]
           rfl
          refine pure_ (i := 27) (N := some 77) (v := ?_) (a' := ?_) #[true, true, true, true, true, true, true, true, true, true, true, true, true, true, true, true, true, true, true, true, true, true, true, true, true, true, true, true, false, false, false, false, false, false, false, false, false, false, false, false, false, false] rfl rfl (any_of HT_.out (by kernel_rfl)) (fun _ _ _ h => h) (Or.inl ⟨by rfl, ?_⟩) ?_ ?_
          rotate_left
          ·intro w'
           go_simp
           with_reducible rfl
          rotate_left
          ·simp only [Act.put, List.setIfInBounds_toArray, List.set_cons_zero, List.set_cons_succ, i64_w, i32_w]
           rfl
          refine pure_ (i := 28) (N := some 78) (v := ?_) (a' := ?_) #[true, true, true, true, true, true, true, true, true, true, true, true, true, true, true, true, true, true, true, true, true, true, true, true, true, true, true, true, true, false, false, false, false, false, false, false, false, false, false, false, false, false] rfl rfl (any_of HT_.out (by kernel_rfl)) (fun _ _ _ h => h) (Or.inl ⟨by rfl, ?_⟩) ?_ ?_
          rotate_left
          ·intro w'
           go_simp
           with_reducible rfl
          rotate_left
          ·simp only [Act.put, List.setIfInBounds_toArray, List.set_cons_zero, List.set_cons_succ, i64_w, i32_w]
           rfl
          refine pure_ (i := 29) (N := some 79) (v := ?_) (a' := ?_) #[true, true, true, true, true, true, true, true, true, true, true, true, true, true, true, true, true, true, true, true, true, true, true, true, true, true, true, true, true, true, false, false, false, false, false, false, false, false, false, false, false, false] rfl rfl (any_of HT_.out (by kernel_rfl)) (fun _ _ _ h => h) (Or.inl ⟨by rfl, ?_⟩) ?_ ?_
          rotate_left
          ·intro w'
           go_simp
           with_reducible rfl
          rotate_left
          ·simp only [Act.put, List.setIfInBounds_toArray, List.set_cons_zero, List.set_cons_succ, i64_w, i32_w]
           rfl
          refine pure_ (i := 30) (N := some 80) (v := ?_) (a' := ?_) #[true, true, true, true, true, true, true, true, true, true, true, true, true, true, true, true, true, true, true, true, true, true, true, true, true, true, true, true, true, true, true, false, false, false, false, false, false, false, false, false, false, false] rfl rfl (any_of HT_.out (by kernel_rfl)) (fun _ _ _ h => h) (Or.inl ⟨by rfl, ?_⟩) ?_ ?_
          rotate_left
          ·intro w'
           go_simp
           with_reducible rfl
          rotate_left
          ·simp only [Act.put, List.setIfInBounds_toArray, List.set_cons_zero, List.set_cons_succ, i64_w, i32_w]
           rfl
          refine pure_ (i := 31) (N := some 81) (v := ?_) (a' := ?_) #[true, true, true, true, true, true, true, true, true, true, true, true, true, true, true, true, true, true, true, true, true, true, true, true, true, true, true, true, true, true, true, true, false, false, false, false, false, false, false, false, false, false] rfl rfl (any_of HT_.out (by kernel_rfl)) (fun _ _ _ h => h) (Or.inl ⟨by rfl, ?_⟩) ?_ ?_
          rotate_left
          ·intro w'
           go_simp
           with_reducible rfl
          rotate_left
          ·simp only [Act.put, List.setIfInBounds_toArray, List.set_cons_zero, List.set_cons_succ, i64_w, i32_w]
           rfl
          refine pure_ (i := 32) (N := some 82) (v := ?_) (a' := ?_) #[true, true, true, true, true, true, true, true, true, true, true, true, true, true, true, true, true, true, true, true, true, true, true, true, true, true, true, true, true, true, true, true, true, false, false, false, false, false, false, false, false, false] rfl rfl (any_of HT_.out (by kernel_rfl)) (fun _ _ _ h => h) (Or.inl ⟨by rfl, ?_⟩) ?_ ?_
          rotate_left
          ·intro w'
           go_simp
           with_reducible rfl
          rotate_left
          ·simp only [Act.put, List.setIfInBounds_toArray, List.set_cons_zero, List.set_cons_succ, i64_w, i32_w]
           rfl
          refine pure_ (i := 33) (N := some 83) (v := ?_) (a' := ?_) #[true, true, true, true, true, true, true, true, true, true, true, true, true, true, true, true, true, true, true, true, true, true, true, true, true, true, true, true, true, true, true, true, true, true, false, false, false, false, false, false, false, false] rfl rfl (any_of HT_.out (by kernel_rfl)) (fun _ _ _ h => h) (Or.inl ⟨by rfl, ?_⟩) ?_ ?_
          rotate_left
          ·intro w'
           go_simp
           with_reducible rfl
          rotate_left
          ·simp only [Act.put, List.setIfInBounds_toArray, List.set_cons_zero, List.set_cons_succ, i64_w, i32_w]
           rfl
          refine pure_ (i := 34) (N := some 84) (v := ?_) (a' := ?_) #[true, true, true, true, true, true, true, true, true, true, true, true, true, true, true, true, true, true, true, true, true, true, true, true, true, true, true, true, true, true, true, true, true, true, true, false, false, false, false, false, false, false] rfl rfl (any_of HT_.out (by kernel_rfl)) (fun _ _ _ h => h) (Or.inl ⟨by rfl, ?_⟩) ?_ ?_
          rotate_left
          ·intro w'
           go_simp
           with_reducible rfl
          rotate_left
          ·simp only [Act.put, List.setIfInBounds_toArray, List.set_cons_zero, List.set_cons_succ, i64_w, i32_w]
           rfl
          refine pure_ (i := 35) (N := some 85) (v := ?_) (a' := ?_) #[true, true, true, true, true, true, true, true, true, true, true, true, true, true, true, true, true, true, true, true, true, true, true, true, true, true, true, true, true, true, true, true, true, true, true, true, false, false, false, false, false, false] rfl rfl (any_of HT_.out (by kernel_rfl)) (fun _ _ _ h => h) (Or.inl ⟨by rfl, ?_⟩) ?_ ?_
          rotate_left
          ·intro w'
           go_simp
           with_reducible rfl
          rotate_left
          ·simp only [Act.put, List.setIfInBounds_toArray, List.set_cons_zero, List.set_cons_succ, i64_w, i32_w]
           rfl
          refine pure_ (i := 37) (N := some 87) (v := ?_) (a' := ?_) #[true, true, true, true, true, true, true, true, true, true, true, true, true, true, true, true, true, true, true, true, true, true, true, true, true, true, true, true, true, true, true, true, true, true, true, true, false, true, false, false, false, false] rfl rfl (any_of HT_.out (by kernel_rfl)) (fun _ _ _ h => h) (Or.inl ⟨by rfl, ?_⟩) ?_ ?_
          rotate_left
          ·intro w'
           go_simp
           with_reducible rfl
          rotate_left
          ·simp only [Act.put, List.setIfInBounds_toArray, List.set_cons_zero, List.set_cons_succ, i64_w, i32_w]
           rfl
          refine take_ (i := 36) (N := some 86) (v := ?_) (a' := ?_) #[true, true, true, true, true, true, true, true, true, true, true, true, true, true, true, true, true, true, true, true, true, true, true, true, true, true, true, true, true, true, true, true, true, true, true, true, true, true, false, false, false, false] rfl rfl (take_ofW HT_.out HW_.out (by kernel_rfl)) (fun _ _ _ h => h) (Or.inl ⟨by rfl, ?_⟩) hHeld ?_ ?_
          rotate_left
          ·rintro w' ⟨s0, s1, s2, s3, s4⟩
           go_simp
           with_reducible rfl
          rotate_left
          ·simp only [Act.put, List.setIfInBounds_toArray, List.set_cons_zero, List.set_cons_succ, i64_w, i32_w]
           rfl
          refine take_ (i := 38) (N := some 88) (v := ?_) (a' := ?_) #[true, true, true, true, true, true, true, true, true, true, true, true, true, true, true, true, true, true, true, true, true, true, true, true, true, true, true, true, true, true, true, true, true, true, true, true, true, true, true, false, false, false] rfl rfl (take_ofW HT_.out HW_.out (by kernel_rfl)) (fun _ _ _ h => h) (Or.inl ⟨by rfl, ?_⟩) hHeld ?_ ?_
          rotate_left
          ·rintro w' ⟨s0, s1, s2, s3, s4⟩
           go_simp
           with_reducible rfl
          rotate_left
          ·simp only [Act.put, List.setIfInBounds_toArray, List.set_cons_zero, List.set_cons_succ, i64_w, i32_w]
           rfl
          refine one_ (i := 39) (N := some 89) #[true, true, true, true, true, true, true, true, true, true, true, true, true, true, true, true, true, true, true, true, true, true, true, true, true, true, true, true, true, true, true, true, true, true, true, true, true, true, true, true, false, false] rfl rfl (one_of HT_.out (by kernel_rfl)) (by decide) (fun K hK => ?_)
          refine goes_ Try.func30 (by kernel_rfl) rfl #[.slice Ao42 t505.length co42, .slice Ao50 t510.length co50] (by rfl) rfl rfl (by (try simp only [List.map_toArray, List.map_cons, List.map_nil]); first | done | rfl | (simp only [List.length_drop, List.length_take]; rfl)) ?_
          with_reducible refine (slices_Equal_string_string.calls kj2 _ _ t505 _ _ t510 t526 _ ?side1 ?side2 ?side3 ?side4 A78.out).mono ?_
          (case side1 => repeat (first | exact (Kd.R_reads' HO507.out).2.2 | (with_reducible refine Kd.C_alloc ?_ _) | (with_reducible refine Kd.C_drewN ?_ _) | (with_reducible refine Kd.C_drew ?_)))
          (case side2 => exact (Kd.R_reads' HO507.out).2.1)
          (case side3 => repeat (first | exact (Kd.R_reads' HO512.out).2.2 | (with_reducible refine Kd.C_alloc ?_ _) | (with_reducible refine Kd.C_drewN ?_ _) | (with_reducible refine Kd.C_drew ?_)))
          (case side4 => exact (Kd.R_reads' HO512.out).2.1)
          rintro e w' ⟨rfl, ⟨nd, rfl⟩⟩
          refine ⟨_, rfl, ?_⟩
          refine hK.out _ _ ⟨(blk_cell BK485.out 0).trans rfl, (blk_cell BK496.out 0).trans rfl, (blk_cell BK501.out 0).trans rfl, (blk_cell BK509.out 0).trans rfl, (blk_cell BK514.out 0).trans rfl⟩ (fun hHeld => ?_)
          clear hK K
          refine norm_ (a' := ?_) ?_ ?_
          rotate_left
          ·show Act.put _ (some 89) _ = _
           simp only [Act.put, List.setIfInBounds_toArray, List.set_cons_zero, List.set_cons_succ, i64_w, i32_w]
           rfl
          refine pure_ (i := 40) (N := some 90) (v := ?_) (a' := ?_) #[true, true, true, true, true, true, true, true, true, true, true, true, true, true, true, true, true, true, true, true, true, true, true, true, true, true, true, true, true, true, true, true, true, true, true, true, true, true, true, true, true, false] rfl rfl (any_of HT_.out (by kernel_rfl)) (fun _ _ _ h => h) (Or.inl ⟨by rfl, ?_⟩) ?_ ?_
          rotate_left
          ·intro w'
           go_simp
           with_reducible rfl
          rotate_left
          ·simp only [Act.put, List.setIfInBounds_toArray, List.set_cons_zero, List.set_cons_succ, i64_w, i32_w]
           rfl
          refine pure_ (i := 41) (N := some 91) (v := ?_) (a' := ?_) #[true, true, true, true, true, true, true, true, true, true, true, true, true, true, true, true, true, true, true, true, true, true, true, true, true, true, true, true, true, true, true, true, true, true, true, true, true, true, true, true, true, true] rfl rfl (any_of HT_.out (by kernel_rfl)) (fun _ _ _ h => h) (Or.inl ⟨by rfl, ?_⟩) ?_ ?_
          rotate_left
          ·intro w'
           go_simp
           with_reducible rfl
          rotate_left
          ·simp only [Act.put, List.setIfInBounds_toArray, List.set_cons_zero, List.set_cons_succ, i64_w, i32_w]
           rfl
          refine done_ (done_of HT_.out (by kernel_rfl)) ?_
          try go_wp2
          go_meet
          case rel => exact ⟨_, (!t526), (by first | rfl | (simp; done) | (simp [*]; done)), H', ⟨by have := HJ2.out; first | omega | exact Nat.le_refl _⟩, ⟨by (with_reducible repeat (first | apply Kd.R_alloc | apply Kd.R_drewN | apply Kd.R_drew)); exact Kd.R_mono HO494.out (fun _ hk => ⟨hk.1.1.2.1, ⟨hk.1.1.2.2.2.1, hk.1.1.2.2.2.2⟩⟩)⟩, ⟨by (with_reducible repeat (first | apply Kd.R_alloc | apply Kd.R_drewN | apply Kd.R_drew)); exact Kd.R_mono HO499.out (fun _ hk => ⟨hk.1.1.2.1, ⟨hk.1.1.2.2.2.1, hk.1.1.2.2.2.2⟩⟩)⟩, ⟨by (with_reducible repeat (first | apply Kd.R_alloc | apply Kd.R_drewN | apply Kd.R_drew)); exact Kd.R_mono HO507.out (fun _ hk => ⟨hk.1.1.2.1, ⟨hk.1.1.2.2.1, hk.1.1.2.2.2.2⟩⟩)⟩, ⟨by (with_reducible repeat (first | apply Kd.R_alloc | apply Kd.R_drewN | apply Kd.R_drew)); exact Kd.R_mono HO512.out (fun _ hk => ⟨hk.1.1.2.1, ⟨hk.1.1.2.2.1, hk.1.1.2.2.2.2⟩⟩)⟩, ⟨by (with_reducible repeat (first | apply blk_drewN | apply blk_drew | apply blk_alloc)); exact BK485.out⟩, ⟨by (with_reducible repeat (first | apply blk_drewN | apply blk_drew | apply blk_alloc)); exact BK496.out⟩, ⟨by (with_reducible repeat (first | apply blk_drewN | apply blk_drew | apply blk_alloc)); exact BK501.out⟩, ⟨by (with_reducible repeat (first | apply blk_drewN | apply blk_drew | apply blk_alloc)); exact BK509.out⟩, ⟨by (with_reducible repeat (first | apply blk_drewN | apply blk_drew | apply blk_alloc)); exact BK514.out⟩, ⟨by repeat (first | (with_reducible first | exact HB.out | apply below_alloc | apply pw_below_drewN | apply below_drew1 | refine below_set ?_ GE485.out | refine below_set ?_ GE496.out | refine below_set ?_ GE501.out | refine below_set ?_ GE509.out | refine below_set ?_ GE514.out) | exact HB.out)⟩⟩
         ·rw [if_neg c77] at H; cases H
        ·rw [if_neg (show ¬ _ from c76)] at H; cases H
       ·rw [if_neg c74] at H; cases H
     ·rw [if_neg c59] at H; cases H
    case rest =>
     clear HC21
     try clear c1
     try clear c2
     try clear p2
     try clear c5
     try clear c13
     try clear c26
     try clear c27
     try clear c59
     try clear c59b0
     try clear c59b1
     obtain ⟨kq, x91_20, rfl, HA, HJ20, HO_497000, HO_502000, HO_510000, HO_515000, BK485, BK496, BK501, BK509, BK514, HB⟩ := hcut
     cases kq with
     | zero => exact absurd HA.out (by simp [ancepslaw54_WordlistChanges.j1])
     | succ kj20 =>
      have H := HA.out
      clear HA
      simp only [ancepslaw54_WordlistChanges.j1] at H
      by_cases c125 : x91_20 = true
      ·subst c125
       have H1 : (none) = some r := by rw [if_pos rfl] at H; exact H
       cases H1
      ·replace c125 := Bool.eq_false_iff.mpr c125
       subst c125
       have H1 : (if t495 = 0 then ((wordlist_Remove.f kj20 t492 a1).bind fun bt527 => (if bt527.2 = 0 then ((slices_Equal_string_string.f kj20 bt527.1 l0_0).bind fun t532 => (if t532 = true then ((wordlist_Has.f kj20 t492 a1).bind fun t533 => (if t533 = true then ((wordlist_Has.f kj20 bt527.1 a1).bind fun t534 => (some (!t534))) else (none))) else (none))) else (none))) else (some true)) = some r := by rw [if_neg (show ¬ (false = true) by decide)] at H; exact H
       clear H
       have H := H1
       clear H1
       by_cases c126 : t495 = 0
       ·rw [if_pos c126] at H
        have c126b0 : (t495 == 0) = true := beq_iff_eq.mpr c126
        have c126b1 : (t495 != 0) = false := bne_eq_false_iff_eq.mpr c126
        clear c126
        replace H := Option.bind_eq_some_iff.mp H
        obtain ⟨⟨t527, t530⟩, A1270, H⟩ := H
        try dsimp only at H
        have A127 := Aside0.mk A1270
        clear A1270
        by_cases c128 : t530 = 0
        ·rw [if_pos c128] at H
         have c128b0 : (t530 == 0) = true := beq_iff_eq.mpr c128
         have c128b1 : (t530 != 0) = false := bne_eq_false_iff_eq.mpr c128
         clear c128
         replace H := Option.bind_eq_some_iff.mp H
         obtain ⟨t532, A1290, H⟩ := H
         try dsimp only at H
         have A129 := Aside0.mk A1290
         clear A1290
         by_cases c130 : t532 = true
         ·subst c130
          have H1 : ((wordlist_Has.f kj20 t492 a1).bind fun t533 => (if t533 = true then ((wordlist_Has.f kj20 t527 a1).bind fun t534 => (some (!t534))) else (none))) = some r := by rw [if_pos rfl] at H; exact H
          clear H
          have H := H1
          clear H1
          replace H := Option.bind_eq_some_iff.mp H
          obtain ⟨t533, A1310, H⟩ := H
          try dsimp only at H
          have A131 := Aside0.mk A1310
          clear A1310
          by_cases c132 : t533 = true
          ·subst c132
           have H1 : ((wordlist_Has.f kj20 t527 a1).bind fun t534 => (some (!t534))) = some r := by rw [if_pos rfl] at H; exact H
           clear H
           have H := H1
           clear H1
           replace H := Option.bind_eq_some_iff.mp H
           obtain ⟨t534, A1330, H⟩ := H
           replace H : (some (!t534)) = some r := H
           have A133 := Aside0.mk A1330
           clear A1330
           obtain rfl := Option.some.inj H
           have hnb134 := NB496_485.out
           have hnc134 := NB485_496.out
           have hnb135 := NB496_501.out
           have hnc135 := NB501_496.out
           have hnb136 := NB496_509.out
           have hnc136 := NB509_496.out
           have hnb137 := NB496_514.out
           have hnc137 := NB514_496.out
           have hcz138_0 : wc.cell? ⟨gb496, 0, none⟩ = some (.slice Ao27 t492.length co27) := (blk_cell BK496.out 0).trans rfl
           have hfz138_0 := blk_frozen BK496.out 0
           go_wp2_with (first | ((with_reducible refine gate_callee (f := 24) rfl ?_); refine goesL_ (some 97) rfl rfl Try.func24 (by kernel_rfl) rfl #[.agg #[.slice Ao27 t492.length co27], .string a1] rfl (by (try simp only [List.map_toArray, List.map_cons, List.map_nil]); first | done | rfl | (simp only [List.length_drop, List.length_take]; rfl)) ?_; (with_reducible refine (wordlist_Remove.calls kj20 _ _ t492 a1 t527 t530 _ ?side1 ?side2 A127.out).mono ?_); (case side1 => repeat (first | exact (Kd.R_reads' HO_497000.out).2.2 | (with_reducible refine Kd.C_alloc ?_ _) | (with_reducible refine Kd.C_drewN ?_ _) | (with_reducible refine Kd.C_drew ?_))); (case side2 => exact (Kd.R_reads' HO_497000.out).2.1); rintro e w139 ⟨v528, rfl, ho0, hb⟩; refine ⟨_, rfl, ?_⟩; have n0_ := Aside0.mk (Kd.R_elder' (by (with_reducible repeat (first | apply Kd.R_alloc | apply Kd.R_drewN | apply Kd.R_drew)); exact HO_497000.out) (Kd.R_base ho0) hb); have n1_ := Aside0.mk (Kd.R_elder' (by (with_reducible repeat (first | apply Kd.R_alloc | apply Kd.R_drewN | apply Kd.R_drew)); exact HO_502000.out) (Kd.R_base ho0) hb); have n2_ := Aside0.mk (Kd.R_elder' (by (with_reducible repeat (first | apply Kd.R_alloc | apply Kd.R_drewN | apply Kd.R_drew)); exact HO_510000.out) (Kd.R_base ho0) hb); have n3_ := Aside0.mk (Kd.R_elder' (by (with_reducible repeat (first | apply Kd.R_alloc | apply Kd.R_drewN | apply Kd.R_drew)); exact HO_515000.out) (Kd.R_base ho0) hb); have n4_ := Aside0.mk (Kd.R_lower (Kd.R_new' (Kd.R_new' (Kd.R_new' (Kd.R_new' ho0 (Kd.R_lt (by (with_reducible repeat (first | apply Kd.R_alloc | apply Kd.R_drewN | apply Kd.R_drew)); exact HO_497000.out))) (Kd.R_lt (by (with_reducible repeat (first | apply Kd.R_alloc | apply Kd.R_drewN | apply Kd.R_drew)); exact HO_502000.out))) (Kd.R_lt (by (with_reducible repeat (first | apply Kd.R_alloc | apply Kd.R_drewN | apply Kd.R_drew)); exact HO_510000.out))) (Kd.R_lt (by (with_reducible repeat (first | apply Kd.R_alloc | apply Kd.R_drewN | apply Kd.R_drew)); exact HO_515000.out))) (below_size (by repeat (first | (with_reducible first | exact HB.out | apply below_alloc | apply pw_below_drewN | apply below_drew1 | refine below_set ?_ GE485.out | refine below_set ?_ GE496.out | refine below_set ?_ GE501.out | refine below_set ?_ GE509.out | refine below_set ?_ GE514.out) | exact HB.out)))); have n5_ := Aside0.mk (blk_below (g := gb485) (o := .cells #[.slice A0_0 l0_0.length c0_0] 26 (0, 0)) (by (with_reducible repeat (first | apply blk_drewN | apply blk_drew | apply blk_alloc)); exact BK485.out) hb); have n6_ := Aside0.mk (blk_below (g := gb496) (o := .cells #[.slice Ao27 t492.length co27] 26 (0, 0)) (by (with_reducible repeat (first | apply blk_drewN | apply blk_drew | apply blk_alloc)); exact BK496.out) hb); have n7_ := Aside0.mk (blk_below (g := gb501) (o := .cells #[.slice Ao33 t497.length co33] 26 (0, 0)) (by (with_reducible repeat (first | apply blk_drewN | apply blk_drew | apply blk_alloc)); exact BK501.out) hb); have n8_ := Aside0.mk (blk_below (g := gb509) (o := .cells #[.slice Ao42 t505.length co42] 26 (0, 0)) (by (with_reducible repeat (first | apply blk_drewN | apply blk_drew | apply blk_alloc)); exact BK509.out) hb); have n9_ := Aside0.mk (blk_below (g := gb514) (o := .cells #[.slice Ao50 t510.length co50] 26 (0, 0)) (by (with_reducible repeat (first | apply blk_drewN | apply blk_drew | apply blk_alloc)); exact BK514.out) hb); have n10_ := Aside0.mk (below_step (by repeat (first | (with_reducible first | exact HB.out | apply below_alloc | apply pw_below_drewN | apply below_drew1 | refine below_set ?_ GE485.out | refine below_set ?_ GE496.out | refine below_set ?_ GE501.out | refine below_set ?_ GE509.out | refine below_set ?_ GE514.out) | exact HB.out)) hb); clear HO_497000; clear HO_502000; clear HO_510000; clear HO_515000; clear BK485; clear BK496; clear BK501; clear BK509; clear BK514; clear HB; have HO_497000 := n0_; have HO_502000 := n1_; have HO_510000 := n2_; have HO_515000 := n3_; have HO529 := n4_; have BK485 := n5_; have BK496 := n6_; have BK501 := n7_; have BK509 := n8_; have BK514 := n9_; have HB := n10_; clear n0_ n1_ n2_ n3_ n4_ n5_ n6_ n7_ n8_ n9_ n10_; (try clear hb); (try clear hb2); (try clear hk); (try clear hi); (try clear ho0)) | ((with_reducible refine gate_dst (N := 13) rfl ?_); refine box_event ?hg (N := 13) ?hd (cs := #[.slice none 0 0]) (t := 26) ?hr ?_; (case hd | hg => rfl); (case hr => first | (go_simp; done) | (go_simp; rfl)); intro gb531 hg w140 hbox hb; have n0_ := Aside0.mk (Kd.R_below (by (with_reducible repeat (first | apply Kd.R_alloc | apply Kd.R_drewN | apply Kd.R_drew)); exact HO_497000.out) hb); have n1_ := Aside0.mk (Kd.R_below (by (with_reducible repeat (first | apply Kd.R_alloc | apply Kd.R_drewN | apply Kd.R_drew)); exact HO_502000.out) hb); have n2_ := Aside0.mk (Kd.R_below (by (with_reducible repeat (first | apply Kd.R_alloc | apply Kd.R_drewN | apply Kd.R_drew)); exact HO_510000.out) hb); have n3_ := Aside0.mk (Kd.R_below (by (with_reducible repeat (first | apply Kd.R_alloc | apply Kd.R_drewN | apply Kd.R_drew)); exact HO_515000.out) hb); have n4_ := Aside0.mk (Kd.R_below (by (with_reducible repeat (first | apply Kd.R_alloc | apply Kd.R_drewN | apply Kd.R_drew)); exact HO529.out) hb); have n5_ := Aside0.mk (blk_below (g := gb485) (o := .cells #[.slice A0_0 l0_0.length c0_0] 26 (0, 0)) (by (with_reducible repeat (first | apply blk_drewN | apply blk_drew | apply blk_alloc)); exact BK485.out) hb); have n6_ := Aside0.mk (blk_below (g := gb496) (o := .cells #[.slice Ao27 t492.length co27] 26 (0, 0)) (by (with_reducible repeat (first | apply blk_drewN | apply blk_drew | apply blk_alloc)); exact BK496.out) hb); have n7_ := Aside0.mk (blk_below (g := gb501) (o := .cells #[.slice Ao33 t497.length co33] 26 (0, 0)) (by (with_reducible repeat (first | apply blk_drewN | apply blk_drew | apply blk_alloc)); exact BK501.out) hb); have n8_ := Aside0.mk (blk_below (g := gb509) (o := .cells #[.slice Ao42 t505.length co42] 26 (0, 0)) (by (with_reducible repeat (first | apply blk_drewN | apply blk_drew | apply blk_alloc)); exact BK509.out) hb); have n9_ := Aside0.mk (blk_below (g := gb514) (o := .cells #[.slice Ao50 t510.length co50] 26 (0, 0)) (by (with_reducible repeat (first | apply blk_drewN | apply blk_drew | apply blk_alloc)); exact BK514.out) hb); have n10_ := Aside0.mk (below_step (by repeat (first | (with_reducible first | exact HB.out | apply below_alloc | apply pw_below_drewN | apply below_drew1 | refine below_set ?_ GE485.out | refine below_set ?_ GE496.out | refine below_set ?_ GE501.out | refine below_set ?_ GE509.out | refine below_set ?_ GE514.out) | exact HB.out)) hb); have n11_ := Aside0.mk (hbox); have n12_ := Aside0.mk ((by rw [hg]; exact (below_size (by repeat (first | (with_reducible first | exact HB.out | apply below_alloc | apply pw_below_drewN | apply below_drew1 | refine below_set ?_ GE485.out | refine below_set ?_ GE496.out | refine below_set ?_ GE501.out | refine below_set ?_ GE509.out | refine below_set ?_ GE514.out) | exact HB.out))) : w.heap.size ≤ gb531)); have n13_ := Aside0.mk ((by rw [hg]; exact (below_size (by repeat (first | (with_reducible first | exact HB.out | apply below_alloc | apply pw_below_drewN | apply below_drew1 | refine below_set ?_ GE485.out | refine below_set ?_ GE496.out | refine below_set ?_ GE501.out | refine below_set ?_ GE509.out | refine below_set ?_ GE514.out) | exact HB.out))) : w.heap.size ≤ gb531)); have n14_ := Aside0.mk ((by rw [hg]; exact Nat.ne_of_lt (blk_lt (g := gb485) (o := .cells #[.slice A0_0 l0_0.length c0_0] 26 (0, 0)) (by (with_reducible repeat (first | apply blk_drewN | apply blk_drew | apply blk_alloc)); exact BK485.out)) : gb485 ≠ gb531)); have n15_ := Aside0.mk ((by rw [hg]; exact Nat.ne_of_gt (blk_lt (g := gb485) (o := .cells #[.slice A0_0 l0_0.length c0_0] 26 (0, 0)) (by (with_reducible repeat (first | apply blk_drewN | apply blk_drew | apply blk_alloc)); exact BK485.out)) : gb531 ≠ gb485)); have n16_ := Aside0.mk ((by rw [hg]; exact Nat.ne_of_lt (blk_lt (g := gb496) (o := .cells #[.slice Ao27 t492.length co27] 26 (0, 0)) (by (with_reducible repeat (first | apply blk_drewN | apply blk_drew | apply blk_alloc)); exact BK496.out)) : gb496 ≠ gb531)); have n17_ := Aside0.mk ((by rw [hg]; exact Nat.ne_of_gt (blk_lt (g := gb496) (o := .cells #[.slice Ao27 t492.length co27] 26 (0, 0)) (by (with_reducible repeat (first | apply blk_drewN | apply blk_drew | apply blk_alloc)); exact BK496.out)) : gb531 ≠ gb496)); have n18_ := Aside0.mk ((by rw [hg]; exact Nat.ne_of_lt (blk_lt (g := gb501) (o := .cells #[.slice Ao33 t497.length co33] 26 (0, 0)) (by (with_reducible repeat (first | apply blk_drewN | apply blk_drew | apply blk_alloc)); exact BK501.out)) : gb501 ≠ gb531)); have n19_ := Aside0.mk ((by rw [hg]; exact Nat.ne_of_gt (blk_lt (g := gb501) (o := .cells #[.slice Ao33 t497.length co33] 26 (0, 0)) (by (with_reducible repeat (first | apply blk_drewN | apply blk_drew | apply blk_alloc)); exact BK501.out)) : gb531 ≠ gb501)); have n20_ := Aside0.mk ((by rw [hg]; exact Nat.ne_of_lt (blk_lt (g := gb509) (o := .cells #[.slice Ao42 t505.length co42] 26 (0, 0)) (by (with_reducible repeat (first | apply blk_drewN | apply blk_drew | apply blk_alloc)); exact BK509.out)) : gb509 ≠ gb531)); have n21_ := Aside0.mk ((by rw [hg]; exact Nat.ne_of_gt (blk_lt (g := gb509) (o := .cells #[.slice Ao42 t505.length co42] 26 (0, 0)) (by (with_reducible repeat (first | apply blk_drewN | apply blk_drew | apply blk_alloc)); exact BK509.out)) : gb531 ≠ gb509)); have n22_ := Aside0.mk ((by rw [hg]; exact Nat.ne_of_lt (blk_lt (g := gb514) (o := .cells #[.slice Ao50 t510.length co50] 26 (0, 0)) (by (with_reducible repeat (first | apply blk_drewN | apply blk_drew | apply blk_alloc)); exact BK514.out)) : gb514 ≠ gb531)); have n23_ := Aside0.mk ((by rw [hg]; exact Nat.ne_of_gt (blk_lt (g := gb514) (o := .cells #[.slice Ao50 t510.length co50] 26 (0, 0)) (by (with_reducible repeat (first | apply blk_drewN | apply blk_drew | apply blk_alloc)); exact BK514.out)) : gb531 ≠ gb514)); clear HO_497000; clear HO_502000; clear HO_510000; clear HO_515000; clear HO529; clear BK485; clear BK496; clear BK501; clear BK509; clear BK514; clear HB; have HO_497000 := n0_; have HO_502000 := n1_; have HO_510000 := n2_; have HO_515000 := n3_; have HO529 := n4_; have BK485 := n5_; have BK496 := n6_; have BK501 := n7_; have BK509 := n8_; have BK514 := n9_; have HB := n10_; have BK531 := n11_; have GW531 := n12_; have GE531 := n13_; have NB485_531 := n14_; have NB531_485 := n15_; have NB496_531 := n16_; have NB531_496 := n17_; have NB501_531 := n18_; have NB531_501 := n19_; have NB509_531 := n20_; have NB531_509 := n21_; have NB514_531 := n22_; have NB531_514 := n23_; clear n0_ n1_ n2_ n3_ n4_ n5_ n6_ n7_ n8_ n9_ n10_ n11_ n12_ n13_ n14_ n15_ n16_ n17_ n18_ n19_ n20_ n21_ n22_ n23_; clear hb hbox hg; obtain ⟨Ao141, co141, eo141⟩ := Kd.R_slice HO529.out; subst eo141; have hnb142 := NB531_485.out; have hnc142 := NB485_531.out; have hnb143 := NB531_496.out; have hnc143 := NB496_531.out; have hnb144 := NB531_501.out; have hnc144 := NB501_531.out; have hnb145 := NB531_509.out; have hnc145 := NB509_531.out; have hnb146 := NB531_514.out; have hnc146 := NB514_531.out; have hcz147_0 : w140.cell? ⟨gb531, 0, none⟩ = some (.slice none 0 0) := (blk_cell BK531.out 0).trans rfl; have hfz147_0 := blk_frozen BK531.out 0; have hnb148 := NB485_501.out; have hnc148 := NB501_485.out; have hnb149 := NB485_509.out; have hnc149 := NB509_485.out; have hnb150 := NB485_514.out; have hnc150 := NB514_485.out; have hcz151_0 : w140.cell? ⟨gb485, 0, none⟩ = some (.slice A0_0 l0_0.length c0_0) := (blk_cell BK485.out 0).trans rfl; have hfz151_0 := blk_frozen BK485.out 0) | (go_at_call 30; (with_reducible refine (slices_Equal_string_string.calls kj20 _ _ t527 _ _ l0_0 true _ ?side1 ?side2 ?side3 ?side4 A129.out).mono ?_); (case side1 => refine (Kd.R_reads' (e := 9) (base := w.heap.size) (ok := fun k_ => ((((True ∧ some k_ ≠ (.slice Ao27 t492.length co27 : Value).ownBlock) ∧ some k_ ≠ (.slice Ao33 t497.length co33 : Value).ownBlock) ∧ some k_ ≠ (.slice Ao42 t505.length co42 : Value).ownBlock) ∧ some k_ ≠ (.slice Ao50 t510.length co50 : Value).ownBlock)) (n := t527.length) (c := co141) ?_).2.2; exact (by (with_reducible repeat (first | apply Kd.R_alloc | apply Kd.R_drewN | apply Kd.R_drew)); exact (Kd.R_mono (Kd.R_far (p := ⟨gb531, 0, none⟩) (Kd.R_types HO529.out BK531.out (by decide)) (fun _ hk => hk.2) (.slice Ao141 t527.length co141)) (fun _ h_ => h_.1)))); (case side2 => exact (Kd.R_reads' HO529.out).2.1); (case side3 => exact Kd.C_below HR0_0.out (by repeat (first | (with_reducible first | exact HB.out | apply below_alloc | apply pw_below_drewN | apply below_drew1 | refine below_set ?_ GE485.out | refine below_set ?_ GE496.out | refine below_set ?_ GE501.out | refine below_set ?_ GE509.out | refine below_set ?_ GE514.out | refine below_set ?_ GE531.out) | exact HB.out))); (case side4 => exact HC0_0.out); rintro e w' ⟨rfl, ⟨nd, rfl⟩⟩; have hcz152_0 : w140.cell? ⟨gb496, 0, none⟩ = some (.slice Ao27 t492.length co27) := (blk_cell BK496.out 0).trans rfl; have hfz152_0 := blk_frozen BK496.out 0) | (go_at_call 28; (with_reducible refine (wordlist_Has.calls kj20 _ _ t492 a1 true _ ?side1 ?side2 A131.out).mono ?_); (case side1 => refine (Kd.R_reads' (e := 9) (base := w.heap.size) (ok := fun k_ => ((some k_ ≠ (.slice Ao33 t497.length co33 : Value).ownBlock ∧ (some k_ ≠ (.slice Ao42 t505.length co42 : Value).ownBlock ∧ some k_ ≠ (.slice Ao50 t510.length co50 : Value).ownBlock)) ∧ some k_ ≠ (.slice Ao141 t527.length co141 : Value).ownBlock)) (n := t492.length) (c := co27) ?_).2.2; exact (by (with_reducible repeat (first | apply Kd.R_alloc | apply Kd.R_drewN | apply Kd.R_drew)); exact (Kd.R_mono (Kd.R_far (p := ⟨gb531, 0, none⟩) (Kd.R_types HO_497000.out BK531.out (by decide)) (fun _ hk => hk.2) (.slice Ao141 t527.length co141)) (fun _ h_ => h_.1)))); (case side2 => exact (Kd.R_reads' HO_497000.out).2.1); (try clear A131); rintro e w153 ⟨rfl, hb⟩; have n0_ := Aside0.mk (Kd.R_below (by (with_reducible repeat (first | apply Kd.R_alloc | apply Kd.R_drewN | apply Kd.R_drew)); exact (Kd.R_mono (Kd.R_far (p := ⟨gb531, 0, none⟩) (Kd.R_types HO_497000.out BK531.out (by decide)) (fun _ hk => hk.2) (.slice Ao141 t527.length co141)) (fun _ h_ => h_.1))) hb); have n1_ := Aside0.mk (Kd.R_below (by (with_reducible repeat (first | apply Kd.R_alloc | apply Kd.R_drewN | apply Kd.R_drew)); exact (Kd.R_mono (Kd.R_far (p := ⟨gb531, 0, none⟩) (Kd.R_types HO_502000.out BK531.out (by decide)) (fun _ hk => hk.2) (.slice Ao141 t527.length co141)) (fun _ h_ => h_.1))) hb); have n2_ := Aside0.mk (Kd.R_below (by (with_reducible repeat (first | apply Kd.R_alloc | apply Kd.R_drewN | apply Kd.R_drew)); exact (Kd.R_mono (Kd.R_far (p := ⟨gb531, 0, none⟩) (Kd.R_types HO_510000.out BK531.out (by decide)) (fun _ hk => hk.2) (.slice Ao141 t527.length co141)) (fun _ h_ => h_.1))) hb); have n3_ := Aside0.mk (Kd.R_below (by (with_reducible repeat (first | apply Kd.R_alloc | apply Kd.R_drewN | apply Kd.R_drew)); exact (Kd.R_mono (Kd.R_far (p := ⟨gb531, 0, none⟩) (Kd.R_types HO_515000.out BK531.out (by decide)) (fun _ hk => hk.2) (.slice Ao141 t527.length co141)) (fun _ h_ => h_.1))) hb); have n4_ := Aside0.mk (Kd.R_below (by (with_reducible repeat (first | apply Kd.R_alloc | apply Kd.R_drewN | apply Kd.R_drew)); exact (Kd.R_mono (Kd.R_far (p := ⟨gb531, 0, none⟩) (Kd.R_types HO529.out BK531.out (by decide)) (fun _ hk => hk.2) (.slice Ao141 t527.length co141)) (fun _ h_ => h_.1))) hb); have n5_ := Aside0.mk (blk_below (g := gb485) (o := .cells #[.slice A0_0 l0_0.length c0_0] 26 (0, 0)) (by (with_reducible repeat (first | apply blk_drewN | apply blk_drew | apply blk_alloc)); refine blk_far ?_ NB485_531.out _; (with_reducible repeat (first | apply blk_drewN | apply blk_drew | apply blk_alloc)); exact BK485.out) hb); have n6_ := Aside0.mk (blk_below (g := gb496) (o := .cells #[.slice Ao27 t492.length co27] 26 (0, 0)) (by (with_reducible repeat (first | apply blk_drewN | apply blk_drew | apply blk_alloc)); refine blk_far ?_ NB496_531.out _; (with_reducible repeat (first | apply blk_drewN | apply blk_drew | apply blk_alloc)); exact BK496.out) hb); have n7_ := Aside0.mk (blk_below (g := gb501) (o := .cells #[.slice Ao33 t497.length co33] 26 (0, 0)) (by (with_reducible repeat (first | apply blk_drewN | apply blk_drew | apply blk_alloc)); refine blk_far ?_ NB501_531.out _; (with_reducible repeat (first | apply blk_drewN | apply blk_drew | apply blk_alloc)); exact BK501.out) hb); have n8_ := Aside0.mk (blk_below (g := gb509) (o := .cells #[.slice Ao42 t505.length co42] 26 (0, 0)) (by (with_reducible repeat (first | apply blk_drewN | apply blk_drew | apply blk_alloc)); refine blk_far ?_ NB509_531.out _; (with_reducible repeat (first | apply blk_drewN | apply blk_drew | apply blk_alloc)); exact BK509.out) hb); have n9_ := Aside0.mk (blk_below (g := gb514) (o := .cells #[.slice Ao50 t510.length co50] 26 (0, 0)) (by (with_reducible repeat (first | apply blk_drewN | apply blk_drew | apply blk_alloc)); refine blk_far ?_ NB514_531.out _; (with_reducible repeat (first | apply blk_drewN | apply blk_drew | apply blk_alloc)); exact BK514.out) hb); have n10_ := Aside0.mk (blk_below (g := gb531) (o := .cells #[.slice Ao141 t527.length co141] 26 (0, 0)) (by (with_reducible repeat (first | apply blk_drewN | apply blk_drew | apply blk_alloc)); refine blk_put (cs := #[.slice none 0 0]) ?_ 0 _ rfl; (with_reducible repeat (first | apply blk_drewN | apply blk_drew | apply blk_alloc)); exact BK531.out) hb); have n11_ := Aside0.mk (below_step (by repeat (first | (with_reducible first | exact HB.out | apply below_alloc | apply pw_below_drewN | apply below_drew1 | refine below_set ?_ GE485.out | refine below_set ?_ GE496.out | refine below_set ?_ GE501.out | refine below_set ?_ GE509.out | refine below_set ?_ GE514.out | refine below_set ?_ GE531.out) | exact HB.out)) hb); clear HO_497000; clear HO_502000; clear HO_510000; clear HO_515000; clear HO529; clear BK485; clear BK496; clear BK501; clear BK509; clear BK514; clear BK531; clear HB; have HO_497000 := n0_; have HO_502000 := n1_; have HO_510000 := n2_; have HO_515000 := n3_; have HO529 := n4_; have BK485 := n5_; have BK496 := n6_; have BK501 := n7_; have BK509 := n8_; have BK514 := n9_; have BK531 := n10_; have HB := n11_; clear n0_ n1_ n2_ n3_ n4_ n5_ n6_ n7_ n8_ n9_ n10_ n11_; (try clear hb); (try clear hb2); (try clear hk); (try clear hi); have hcz154_0 : w153.cell? ⟨gb531, 0, none⟩ = some (.slice Ao141 t527.length co141) := (blk_cell BK531.out 0).trans rfl; have hfz154_0 := blk_frozen BK531.out 0) | (go_at_call 28; (with_reducible refine (wordlist_Has.calls kj20 _ _ t527 a1 t534 _ ?side1 ?side2 A133.out).mono ?_); (case side1 => repeat (first | exact (Kd.R_reads' HO529.out).2.2 | (with_reducible refine Kd.C_alloc ?_ _) | (with_reducible refine Kd.C_drewN ?_ _) | (with_reducible refine Kd.C_drew ?_))); (case side2 => exact (Kd.R_reads' HO529.out).2.1); (try clear A133); rintro e w155 ⟨rfl, hb⟩; have n0_ := Aside0.mk (Kd.R_below (by (with_reducible repeat (first | apply Kd.R_alloc | apply Kd.R_drewN | apply Kd.R_drew)); exact HO_497000.out) hb); have n1_ := Aside0.mk (Kd.R_below (by (with_reducible repeat (first | apply Kd.R_alloc | apply Kd.R_drewN | apply Kd.R_drew)); exact HO_502000.out) hb); have n2_ := Aside0.mk (Kd.R_below (by (with_reducible repeat (first | apply Kd.R_alloc | apply Kd.R_drewN | apply Kd.R_drew)); exact HO_510000.out) hb); have n3_ := Aside0.mk (Kd.R_below (by (with_reducible repeat (first | apply Kd.R_alloc | apply Kd.R_drewN | apply Kd.R_drew)); exact HO_515000.out) hb); have n4_ := Aside0.mk (Kd.R_below (by (with_reducible repeat (first | apply Kd.R_alloc | apply Kd.R_drewN | apply Kd.R_drew)); exact HO529.out) hb); have n5_ := Aside0.mk (blk_below (g := gb485) (o := .cells #[.slice A0_0 l0_0.length c0_0] 26 (0, 0)) (by (with_reducible repeat (first | apply blk_drewN | apply blk_drew | apply blk_alloc)); exact BK485.out) hb); have n6_ := Aside0.mk (blk_below (g := gb496) (o := .cells #[.slice Ao27 t492.length co27] 26 (0, 0)) (by (with_reducible repeat (first | apply blk_drewN | apply blk_drew | apply blk_alloc)); exact BK496.out) hb); have n7_ := Aside0.mk (blk_below (g := gb501) (o := .cells #[.slice Ao33 t497.length co33] 26 (0, 0)) (by (with_reducible repeat (first | apply blk_drewN | apply blk_drew | apply blk_alloc)); exact BK501.out) hb); have n8_ := Aside0.mk (blk_below (g := gb509) (o := .cells #[.slice Ao42 t505.length co42] 26 (0, 0)) (by (with_reducible repeat (first | apply blk_drewN | apply blk_drew | apply blk_alloc)); exact BK509.out) hb); have n9_ := Aside0.mk (blk_below (g := gb514) (o := .cells #[.slice Ao50 t510.length co50] 26 (0, 0)) (by (with_reducible repeat (first | apply blk_drewN | apply blk_drew | apply blk_alloc)); exact BK514.out) hb); have n10_ := Aside0.mk (blk_below (g := gb531) (o := .cells #[.slice Ao141 t527.length co141] 26 (0, 0)) (by (with_reducible repeat (first | apply blk_drewN | apply blk_drew | apply blk_alloc)); exact BK531.out) hb); have n11_ := Aside0.mk (below_step (by repeat (first | (with_reducible first | exact HB.out | apply below_alloc | apply pw_below_drewN | apply below_drew1 | refine below_set ?_ GE485.out | refine below_set ?_ GE496.out | refine below_set ?_ GE501.out | refine below_set ?_ GE509.out | refine below_set ?_ GE514.out | refine below_set ?_ GE531.out) | exact HB.out)) hb); clear HO_497000; clear HO_502000; clear HO_510000; clear HO_515000; clear HO529; clear BK485; clear BK496; clear BK501; clear BK509; clear BK514; clear BK531; clear HB; have HO_497000 := n0_; have HO_502000 := n1_; have HO_510000 := n2_; have HO_515000 := n3_; have HO529 := n4_; have BK485 := n5_; have BK496 := n6_; have BK501 := n7_; have BK509 := n8_; have BK514 := n9_; have BK531 := n10_; have HB := n11_; clear n0_ n1_ n2_ n3_ n4_ n5_ n6_ n7_ n8_ n9_ n10_ n11_; (try clear hb); (try clear hb2); (try clear hk); (try clear hi)))
           go_ret
           exact ⟨by first | rfl | (simp [errW_none, errW_some] <;> rfl) | (simp [*, errW_none, errW_some] <;> rfl), by repeat (first | (with_reducible first | exact HB.out | apply below_alloc | apply pw_below_drewN | apply below_drew1 | refine below_set ?_ GE485.out | refine below_set ?_ GE496.out | refine below_set ?_ GE501.out | refine below_set ?_ GE509.out | refine below_set ?_ GE514.out | refine below_set ?_ GE531.out) | exact HB.out)⟩
          ·rw [if_neg (show ¬ _ from c132)] at H; cases H
         ·rw [if_neg (show ¬ _ from c130)] at H; cases H
        ·rw [if_neg c128] at H; cases H
       ·rw [if_neg c126] at H
        have c126b0 : (t495 == 0) = false := beq_eq_false_iff_ne.mpr c126
        have c126b1 : (t495 != 0) = true := bne_iff_ne.mpr c126
        obtain rfl := Option.some.inj H
        go_wp2
        go_ret
        exact ⟨by first | rfl | (simp [errW_none, errW_some] <;> rfl) | (simp [*, errW_none, errW_some] <;> rfl), by repeat (first | (with_reducible first | exact HB.out | apply below_alloc | apply pw_below_drewN | apply below_drew1 | refine below_set ?_ GE485.out | refine below_set ?_ GE496.out | refine below_set ?_ GE501.out | refine below_set ?_ GE509.out | refine below_set ?_ GE514.out) | exact HB.out)⟩

/-- THE ONE PURE STATEMENT of ancepslaw54_WordlistChanges: yours. -/
def ancepslaw54_WordlistChanges.Pure : Prop := ∀ (l0_0 : List ByteArray) (a1 : ByteArray), l0_0.length ≤ maxLen → l0_0.length * 16 ≤ 140737488351232 → (∀ x ∈ l0_0, x.size ≤ 140737488351232) → a1.size ≤ 140737488351232 → ∃ k, ancepslaw54_WordlistChanges.f k l0_0 a1 = some true
theorem ancepslaw54_WordlistChanges.walk (P : ancepslaw54_WordlistChanges.Pure) (A0_0 : Option Addr) (c0_0 : Nat) (l0_0 : List ByteArray) (a1 : ByteArray) (w : World) (hr0_0 : Kd.C Kd.string w A0_0 l0_0.length l0_0) (hc0_0 : l0_0.length ≤ c0_0) (hm0_0 : l0_0.length ≤ maxLen) (y0_0 : l0_0.length * 16 ≤ 140737488351232) (hw0_0 : ∀ x ∈ l0_0, x.size ≤ 140737488351232) (w1 : a1.size ≤ 140737488351232) :
  Calls Try.prog 7 #[.agg #[.slice A0_0 l0_0.length c0_0], .string a1] w fun e w' => e = .returned (.bool true) ∧ Below w.heap.size w w' := by
 obtain ⟨k, h⟩ := P l0_0 a1 hm0_0 y0_0 hw0_0 w1
 refine (ancepslaw54_WordlistChanges.calls k _ _ l0_0 a1 true w hr0_0 hc0_0 h).mono ?_
 rintro e w' ⟨rfl, hd⟩
 exact ⟨rfl, hd⟩

end Go.Proofs.Ytdaooagikacboaa.X
