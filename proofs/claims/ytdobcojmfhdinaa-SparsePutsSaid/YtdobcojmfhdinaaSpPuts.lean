/- The plain part of the law SparsePuts: its program's text as a function (printed) answers true, for all runs that can come in. -/
import Derived.Test.YtdobcojmfhdinaaSpBase
import Derived.Test.YtdobcojmfhdinaaPr22
namespace Go.Proofs.Ytdobcojmfhdinaa.SpPure
open Go.RowKit Go.Proofs.YtdobcojmfhdinaaW.PrintWords Go.Proofs.YtdobcojmfhdinaaW.PrintMore Go.Proofs.Ytdobcojmfhdinaa.Pr
set_option linter.unusedVariables false
set_option linter.unusedSimpArgs false
/-! ### the laws -/
theorem SparsePuts (l : List S33) (a : Int) (d : ByteArray) (hf : Fits l) (hl : l.length < 5864062014805) (ha : a ≤ 9223372036854775807) : ∃ k, undercroftlaw15_SparsePuts.f k l a d = some true := by
  refine Ev.rounds ?_
  unfold undercroftlaw15_SparsePuts.f
  refine Ev.bind alive_ev ?_
  simp only [if_true, copied_some hf hl, Option.bind_some]
  refine Ev.bind (put_ev hf a d ha) ?_
  refine Ev.bind (rput_ev hf a d ha) ?_
  simp only [of_some, Option.bind_some]
  refine Ev.bind (rof_ev d) ?_
  simp only [if_true]
  have hpl : (putR l a d).1.length ≤ 4611686018427387904 := by
    by_cases h : (putR l a d).2 = 0
    · obtain ⟨hv, h0, h1⟩ := put_iff h
      obtain ⟨P, e, hP, _⟩ := put_ok hv h0 h1
      rw [e]
      have := Valid_length hP
      have := lastEnd_ge P hP
      show P.length ≤ _
      omega
    · rw [put_err h]; simp
  have hol : (ofR d).1.length ≤ 4611686018427387904 := by
    unfold ofR
    split
    · simp
    · obtain ⟨h1, h2, _⟩ := jAdd_ok d.data.toList (l := []) (x := 0) Valid_nil (by simp [lastEnd]) (by rw [← Lib.size_eq]; omega)
      have h3 := Valid_length h1
      have h4 := lastEnd_ge _ h1
      show (jAdd [] ((0 : Nat) : Int) d.data.toList).length ≤ _
      omega
  refine Ev.bind (same_true hpl rfl) ?_
  simp only [if_true]
  refine Ev.bind (same_true hol rfl) ?_
  simp only [if_true]
  refine Ev.bind (check' hf) ?_
  refine Ev.bind (rcheck' hf) ?_
  simp only [if_true]
  refine Ev.bind (end_ev hf) ?_
  refine Ev.bind (rend_ev hf) ?_
  simp only [beq_self_eq_true]
  refine Ev.succ ?_
  simp only [undercroftlaw15_SparsePuts.j0]
  have key : ∀ (n i : Nat) (ys : List S33), i + n = ys.length → ys.length ≤ 4611686018427387904 → Ev (fun k => undercroftlaw15_SparsePuts.l0 k l l ys true (i : Int)) true := by
    intro n
    induction n with
    | zero =>
      intro i ys hi hy
      refine Ev.succ ?_
      simp only [undercroftlaw15_SparsePuts.l0]
      simp only [if_neg (show ¬ ((i : Int) < (ys.length : Int)) by omega), if_true]
      exact Ev.bind (same_true (by omega) rfl) (Ev.now _)
    | succ n ih =>
      intro i ys hi hy
      refine Ev.succ ?_
      simp only [undercroftlaw15_SparsePuts.l0]
      simp only [if_pos (show ((i : Int) < (ys.length : Int)) by omega), if_pos (show (0 : Int) ≤ (i : Int) by omega)]
      rw [w64 (by omega) (by omega), show (i : Int) + 1 = ((i + 1 : Nat) : Int) by omega]
      exact ih (i + 1) _ (by rw [List.length_set]; omega) (by rw [List.length_set]; exact hy)
  exact key _ 0 _ (Nat.zero_add _) hpl
end Go.Proofs.Ytdobcojmfhdinaa.SpPure
