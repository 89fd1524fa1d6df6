/- Tokens of package token gives what the reference's Tokens gives also of long texts, of a string repeated (up to 25000 bytes, by the law's own guard). -/
import Derived.Test.YtkkgacoecimlpaaLem4
import Derived.Test.YtkkgacoecimlpaaX24
namespace Go.Proofs.Ytkkgacoecimlpaa.Pure
open Go.RowKit Go.Proofs.Ytkkgacoecimlpaa.X Go.Proofs.Ytkkgacoecimlpaa.Lem Go.Proofs.YtkkgacoecimlpaaW.PrintWords Go.Proofs.YtkkgacoecimlpaaW.PrintLast
theorem long_j0 (s : ByteArray) (n : Int) (h0 : 0 ≤ n) (h1 : n ≤ 25000) (b : Bool) (hb : b = false → s.size * n.toNat ≤ 140737488355328) : Ev (fun k => ancepslaw05_TokenLong.j0 k s n b) true := by
  refine Ev.step (fun k => rfl) (Ev.cond (fun h => Ev.bind awake_ev (Ev.val rfl)) (fun h => ?_))
  have hb := hb (by simpa using h)
  refine Ev.bind (a := ⟨(Lib.repeatL s.data.toList n.toNat).toArray⟩) (Ev.now' (by unfold strings_Repeat.f; exact if_pos ⟨h0, by omega, hb⟩)) ?_
  exact Ev.bind (tokens_ev _) (Ev.bind (rtokens_ev _) (Ev.pos rfl (Ev.pos rfl (Ev.bind (tokEq_ev _ (by have := tokensS_len ⟨(Lib.repeatL s.data.toList n.toNat).toArray⟩; omega)) (Ev.val rfl)))))
theorem TokenLong : ancepslaw05_TokenLong.Pure := by
  intro s n hs hn
  refine Ev.rounds ?_
  have hr : 0 ≤ n ∧ n ≤ 65535 := by
    unfold Lit.wf at hn
    rw [Bool.and_eq_true, decide_eq_true_iff, decide_eq_true_iff] at hn
    exact hn
  have hm : wrap64 n = n := w64 (by omega) (by omega)
  have ht : Int.tmod (wrap64 n) 25001 = n % 25001 := by rw [hm]; exact Int.tmod_eq_emod_of_nonneg hr.1
  unfold ancepslaw05_TokenLong.f
  rw [ht]
  refine Ev.bind awake_ev (Ev.pos rfl (Ev.cond (fun h => long_j0 s _ (by omega) (by omega) true (by simp)) (fun h1 => Ev.cond (fun h => long_j0 s _ (by omega) (by omega) true (by simp)) (fun h2 => long_j0 s _ (by omega) (by omega) _ (fun h3 => ?_)))))
  have h4 : s.size ≤ 40 := by omega
  have h5 : (n % 25001).toNat ≤ 25000 := by omega
  have := Nat.mul_le_mul h4 h5
  omega
end Go.Proofs.Ytkkgacoecimlpaa.Pure
