/- The plain part of the law SparseReads: its program's text as a function (printed) answers true, for all runs that can come in. -/
import Derived.Test.YtdobcojmfhdinaaSpBase
import Derived.Test.YtdobcojmfhdinaaPr27
namespace Go.Proofs.Ytdobcojmfhdinaa.SpPure
open Go.RowKit Go.Proofs.YtdobcojmfhdinaaW.PrintWords Go.Proofs.YtdobcojmfhdinaaW.PrintMore Go.Proofs.Ytdobcojmfhdinaa.Pr
set_option linter.unusedVariables false
set_option linter.unusedSimpArgs false
theorem SparseReads (l : List S33) (a n : Int) (hf : Fits l) (hl : l.length < 5864062014805) (ha : a ≤ 9223372036854775807) (hn : n ≤ 9223372036854775807) : ∃ k, undercroftlaw15_SparseReads.f k l a n = some true := by
  refine Ev.rounds ?_
  unfold undercroftlaw15_SparseReads.f
  refine Ev.bind alive_ev ?_
  simp only [if_true, copied_some hf hl, Option.bind_some]
  refine Ev.bind (bytes_ev hf a n) ?_
  refine Ev.bind (rbytes_ev hf a n ha hn) ?_
  refine Ev.bind (zero_ev hf a n) ?_
  refine Ev.bind (rzero_ev hf a n ha hn) ?_
  simp only [if_true]
  have hpl : (zeroR l a n).1.length ≤ 4611686018427387904 := by
    by_cases h : (zeroR l a n).2 = 0
    · obtain ⟨hv, h0, h1⟩ := zero_iff h
      obtain ⟨P, e, hP, _⟩ := zero_ok hv h0 h1
      rw [e]
      have := Valid_length hP
      have := lastEnd_ge P hP
      show P.length ≤ _
      omega
    · rw [zero_err h]; simp
  refine Ev.bind (same_true hpl rfl) ?_
  simp only [if_true, beq_self_eq_true]
  refine Ev.succ ?_
  simp only [undercroftlaw15_SparseReads.j0]
  have key : ∀ (n i : Nat) (ys : List S33), i + n = ys.length → ys.length ≤ 4611686018427387904 → Ev (fun k => undercroftlaw15_SparseReads.l0 k l l ys true (i : Int)) true := by
    intro n
    induction n with
    | zero =>
      intro i ys hi hy
      refine Ev.succ ?_
      simp only [undercroftlaw15_SparseReads.l0]
      simp only [if_neg (show ¬ ((i : Int) < (ys.length : Int)) by omega), if_true]
      exact Ev.bind (same_true (by omega) rfl) (Ev.now _)
    | succ n ih =>
      intro i ys hi hy
      refine Ev.succ ?_
      simp only [undercroftlaw15_SparseReads.l0]
      simp only [if_pos (show ((i : Int) < (ys.length : Int)) by omega), if_pos (show (0 : Int) ≤ (i : Int) by omega)]
      rw [w64 (by omega) (by omega), show (i : Int) + 1 = ((i + 1 : Nat) : Int) by omega]
      exact ih (i + 1) _ (by rw [List.length_set]; omega) (by rw [List.length_set]; exact hy)
  exact key _ 0 _ (Nat.zero_add _) hpl
end Go.Proofs.Ytdobcojmfhdinaa.SpPure
