/- The same pattern in front of both does not make the distance greater, nor does an x in the place of a sign: for any three strings (longer ones and those that are no patterns are left out by the law's own guard). -/
import Derived.Test.YtnnonjjmlbemfaaA3
import Derived.Test.YtnnonjjmlbemfaaR1
import Derived.Test.YtnnonjjmlbemfaaX11
set_option linter.unusedVariables false
namespace Go.Proofs.Ytnnonjjmlbemfaa.Pure
open Go.RowKit Go.Proofs.Ytnnonjjmlbemfaa.X Go.Proofs.Ytnnonjjmlbemfaa.Lem Go.Proofs.Ytnnonjjmlbemfaa.Al Go.Proofs.YtnnonjjmlbemfaaW.PrintWords Go.Proofs.YtnnonjjmlbemfaaW.PrintLast
theorem x_bytes (p : ByteArray) (i : Nat) (h : i < p.size) : bytesOf ((p.extract 0 i ++ (⟨#[120]⟩ : ByteArray)) ++ p.extract (i + 1) p.size) = (bytesOf p).set i 120 := by
  rw [bytesOf_app, bytesOf_app, bytesOf_extract, bytesOf_tail, List.drop_zero]
  rw [show bytesOf (⟨#[120]⟩ : ByteArray) = [120] from rfl]
  rw [List.set_eq_take_append_cons_drop, if_pos (by rw [bl]; exact h), List.append_assoc]; rfl
theorem Gv_x {p q : ByteArray} (G : Gv p q) (i : Nat) (h : i < p.size) : Gv ((p.extract 0 i ++ (⟨#[120]⟩ : ByteArray)) ++ p.extract (i + 1) p.size) q := by
  have hb := x_bytes p i h
  have hs : ((p.extract 0 i ++ (⟨#[120]⟩ : ByteArray)) ++ p.extract (i + 1) p.size).size = p.size := by rw [← bl, hb, List.length_set, bl]
  refine ⟨by rw [hs]; exact G.hp, G.hq, ?_, G.sq⟩
  rw [hb, List.all_eq_true]
  intro c hc
  rcases List.mem_or_eq_of_mem_set hc with h1 | h1
  · exact List.all_eq_true.1 G.sp c h1
  · rw [h1]; decide
theorem front_loop {p q : ByteArray} (G : Gv p q) (d : Nat) : ∀ i : Nat, i + d = p.size → Ev (fun k => ancepslaw45_AlignFront.l0 k p q (D (bytesOf p) (bytesOf q)) i) true := by
  induction d with
  | zero =>
    intro i hi
    exact Ev.step (fun k => ancepslaw45_AlignFront.l0.eq_2 _ _ _ _ _) (Ev.neg (by omega) (Ev.now _))
  | succ d ih =>
    intro i hi
    have hlt : i < p.size := by omega
    refine Ev.step (fun k => ancepslaw45_AlignFront.l0.eq_2 _ _ _ _ _) (Ev.pos hlt (Ev.bind (dist_ok (Gv_x G i hlt)) (Ev.pos rfl (Ev.neg ?_ (ih (i + 1) (by omega))))))
    show ¬ D _ _ > D _ _
    rw [x_bytes p i hlt]
    have := D_x (bytesOf p) (bytesOf q) i (by rw [bl]; exact hlt)
    omega
theorem AlignFront : ancepslaw45_AlignFront.Pure := by
  intro f p q _ _ _
  refine Ev.rounds ?_
  unfold ancepslaw45_AlignFront.f
  obtain ⟨b, hb⟩ := short_f p q
  refine Ev.bind awake_ev (Ev.pos rfl ?_)
  rw [hb]
  refine Ev.just (Ev.cond (fun _ => Ev.cond (fun _ => Ev.bind (rgiven_ev _ _) (Ev.cond (fun hg1 => Ev.bind (rgiven_ev p q) (Ev.cond (fun hg => ?_) (fun _ => Ev.now _))) (fun _ => Ev.now _))) (fun _ => Ev.now _)) (fun _ => Ev.now _))
  have G := giv_ok hg
  have G1 := giv_ok hg1
  unfold ancepslaw45_AlignFront.m
  have hasc : p.data.toList.all (fun c => decide (c.toNat < 128)) = true := by
    rw [List.all_eq_true]
    intro c hc
    have h1 : ((c.toNat : Int)) ∈ bytesOf p := by unfold bytesOf; exact List.mem_map.2 ⟨c, hc, rfl⟩
    have h2 := List.all_eq_true.1 G.sp _ h1
    unfold isS at h2
    simp only [Bool.or_eq_true, decide_eq_true_eq] at h2
    rw [decide_eq_true_eq]
    omega
  refine Ev.bind (dist_ok G) (Ev.bind (dist_ok G1) (Ev.pos rfl (Ev.pos rfl (Ev.neg ?_ (Ev.pos hasc (front_loop G p.size 0 (by omega)))))))
  show ¬ D _ _ > D _ _
  rw [bytesOf_app, bytesOf_app]
  have := D_front (bytesOf f) (bytesOf p) (bytesOf q)
  omega
end Go.Proofs.Ytnnonjjmlbemfaa.Pure
