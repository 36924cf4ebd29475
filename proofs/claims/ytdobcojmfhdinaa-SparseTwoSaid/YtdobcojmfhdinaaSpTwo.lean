/- The plain part of the law SparseTwo: its program's text as a function (printed) answers true, for all runs that can come in. -/
import Derived.Test.YtdobcojmfhdinaaSpBase
import Derived.Test.YtdobcojmfhdinaaPr29
namespace Go.Proofs.Ytdobcojmfhdinaa.SpPure
open Go.RowKit Go.Proofs.YtdobcojmfhdinaaW.PrintWords Go.Proofs.YtdobcojmfhdinaaW.PrintMore Go.Proofs.Ytdobcojmfhdinaa.Pr
set_option linter.unusedVariables false
set_option linter.unusedSimpArgs false
theorem SparseTwo (l : List S33) (s0 s1 t0 t1 : Int) (hf : Fits l) (h0 : -9223372036854775808 ≤ s0 ∧ s0 ≤ 9223372036854775807) (h1 : -9223372036854775808 ≤ t0 ∧ t0 ≤ 9223372036854775807) : ∃ k, undercroftlaw15_SparseTwo.f k l s0 s1 t0 t1 = some true := by
  refine Ev.rounds ?_
  unfold undercroftlaw15_SparseTwo.f
  refine Ev.bind alive_ev ?_
  simp only [if_true]
  have hm : ∀ x : Int, 0 ≤ wrap64 (Int.tmod (IntKind.u64.wrap x) 300) ∧ wrap64 (Int.tmod (IntKind.u64.wrap x) 300) < 300 := by
    intro x
    have hu : 0 ≤ IntKind.u64.wrap x := by
      have : IntKind.u64.wrap x = x % 18446744073709551616 := rfl
      rw [this]; omega
    rw [Int.tmod_eq_emod_of_nonneg hu, w64 (by omega) (by omega)]
    omega
  obtain ⟨p, hp⟩ : ∃ p : Nat, wrap64 (Int.tmod (IntKind.u64.wrap s1) 300) = p := ⟨(wrap64 (Int.tmod (IntKind.u64.wrap s1) 300)).toNat, by have := hm s1; omega⟩
  obtain ⟨q, hq⟩ : ∃ q : Nat, wrap64 (Int.tmod (IntKind.u64.wrap t1) 300) = q := ⟨(wrap64 (Int.tmod (IntKind.u64.wrap t1) 300)).toNat, by have := hm t1; omega⟩
  have hp3 : p < 300 := by have := hm s1; omega
  have hq3 : q < 300 := by have := hm t1; omega
  rw [hp, hq]
  simp only [Int.toNat_natCast, if_pos (show (0 : Int) ≤ (p : Int) by omega), if_pos (show (0 : Int) ≤ (q : Int) by omega), if_pos (show p ≤ 281474976710656 by omega), if_pos (show q ≤ 281474976710656 by omega)]
  -- what comes behind the two loops
  have tail : ∀ (xs ys : List Int), xs.length = p → ys.length = q →
      Ev (fun k => (sparse_Put.f k l s0 (strOfNums xs)).bind fun bt286 => ((sparse_Put.f k l t0 (strOfNums ys)).bind fun bt290 => (if bt286.2 = 0 then (if bt290.2 = 0 then (if s0 < (wrap64 (t0 + (ys.length : Int))) then (undercroftlaw15_SparseTwo.j2 k xs ys bt286.1 bt290.1 (decide (t0 < (wrap64 (s0 + (xs.length : Int))))) s0 s1 t0 t1) else (undercroftlaw15_SparseTwo.j2 k xs ys bt286.1 bt290.1 false s0 s1 t0 t1)) else (undercroftlaw15_SparseTwo.j2 k xs ys bt286.1 bt290.1 true s0 s1 t0 t1)) else (undercroftlaw15_SparseTwo.j2 k xs ys bt286.1 bt290.1 true s0 s1 t0 t1)))) true := by
    intro xs ys hx hy
    obtain ⟨D, hD⟩ : ∃ D, D = strOfNums xs := ⟨_, rfl⟩
    obtain ⟨E, hE⟩ : ∃ E, E = strOfNums ys := ⟨_, rfl⟩
    have sD : D.size = p := by rw [hD, Lib.size_eq]; unfold strOfNums; simp [hx]
    have sE : E.size = q := by rw [hE, Lib.size_eq]; unfold strOfNums; simp [hy]
    rw [← hD, ← hE]
    have done : ∀ (m n : List S33), Ev (fun k => undercroftlaw15_SparseTwo.j2 k xs ys m n true s0 s1 t0 t1) true := by
      intro m n
      refine Ev.succ ?_
      simp only [undercroftlaw15_SparseTwo.j2, if_true]
      exact Ev.now _
    refine Ev.bind (put_ev hf s0 D h0.2) ?_
    refine Ev.bind (put_ev hf t0 E h1.2) ?_
    by_cases e1 : (putR l s0 D).2 = 0
    case neg => simp only [if_neg e1]; exact done _ _
    by_cases e2 : (putR l t0 E).2 = 0
    case neg => simp only [if_pos e1, if_neg e2]; exact done _ _
    obtain ⟨hv, a0, a1⟩ := put_iff e1
    obtain ⟨_, c0, c1⟩ := put_iff e2
    rw [sD] at a1
    rw [sE] at c1
    simp only [if_pos e1, if_pos e2, hx, hy, w64 (show -9223372036854775808 ≤ t0 + (q : Int) by omega) (show t0 + (q : Int) ≤ 9223372036854775807 by omega), w64 (show -9223372036854775808 ≤ s0 + (p : Int) by omega) (show s0 + (p : Int) ≤ 9223372036854775807 by omega)]
    have apart : ¬ (s0 < t0 + q ∧ t0 < s0 + p) → Ev (fun k => undercroftlaw15_SparseTwo.j2 k xs ys (putR l s0 D).1 (putR l t0 E).1 false s0 s1 t0 t1) true := by
      intro hap
      refine Ev.succ ?_
      simp only [undercroftlaw15_SparseTwo.j2, Bool.false_eq_true, if_false, hx, ← hD, ← hE, w64 (show -9223372036854775808 ≤ s0 + (p : Int) by omega) (show s0 + (p : Int) ≤ 9223372036854775807 by omega)]
      obtain ⟨v1, k1⟩ := fits_of_put e1
      obtain ⟨v2, k2⟩ := fits_of_put e2
      generalize (putR l s0 D).1 = X at *
      generalize (putR l t0 E).1 = Y at *
      refine Ev.bind (put_ev (Valid_fits v1) t0 E h1.2) ?_
      refine Ev.bind (put_ev (Valid_fits v2) s0 D h0.2) ?_
      obtain ⟨X2, eX, vX, kX⟩ := put_ok v1 (a := t0) (d := E) c0 (by rw [sE]; exact c1)
      obtain ⟨Y2, eY, vY, kY⟩ := put_ok v2 (a := s0) (d := D) a0 (by rw [sD]; exact a1)
      rw [eX, eY]
      have hXY : X2 = Y2 := ext vX vY (fun i => by
        rw [kX, kY, mixC_at _ _ q _ sE, mixC_at _ _ p _ sD, k1, k2, mixC_at _ _ p _ sD, mixC_at _ _ q _ sE]
        by_cases g1 : t0 ≤ i ∧ (i : Int) < t0 + q
        · rw [if_pos g1, if_neg (by omega), if_pos g1]
        · rw [if_neg g1, if_neg g1])
      subst hXY
      simp only []
      refine Ev.bind (zero_ev (Valid_fits vX) s0 (s0 + p)) ?_
      refine Ev.bind (zero_ev (Valid_fits vX) s0 (s0 + p)) ?_
      obtain ⟨Q, eQ, vQ, _⟩ := zero_ok vX (a := s0) (b := s0 + p) a0 (by omega)
      rw [eQ]
      simp only [if_true]
      have l1 := Valid_length vX
      have l2 := lastEnd_ge _ vX
      have l3 := Valid_length vQ
      have l4 := lastEnd_ge _ vQ
      refine Ev.bind (same_true (by omega) rfl) ?_
      simp only [if_true]
      exact Ev.bind (same_true (by omega) rfl) (Ev.now _)
    by_cases g1 : s0 < t0 + (q : Int)
    · simp only [if_pos g1]
      by_cases g2 : t0 < s0 + (p : Int)
      · simp only [decide_eq_true g2]; exact done _ _
      · simp only [decide_eq_false g2]; exact apart (fun h => g2 h.2)
    · simp only [if_neg g1]; exact apart (fun h => g1 h.1)
  have loop1 : ∀ (n i : Nat) (xs ys : List Int), i + n = q → xs.length = p → ys.length = q → Ev (fun k => undercroftlaw15_SparseTwo.l1 k l xs ys (i : Int) s0 s1 t0 t1) true := by
    intro n
    induction n with
    | zero =>
      intro i xs ys hi hx hy
      refine Ev.succ ?_
      simp only [undercroftlaw15_SparseTwo.l1]
      simp only [if_neg (show ¬ ((i : Int) < (ys.length : Int)) by omega)]
      exact tail xs ys hx hy
    | succ n ih =>
      intro i xs ys hi hx hy
      refine Ev.succ ?_
      simp only [undercroftlaw15_SparseTwo.l1]
      simp only [if_pos (show ((i : Int) < (ys.length : Int)) by omega), if_pos (show (0 : Int) ≤ (i : Int) by omega)]
      rw [w64 (show -9223372036854775808 ≤ (i : Int) + 1 by omega) (by omega), show (i : Int) + 1 = ((i + 1 : Nat) : Int) by omega]
      exact ih (i + 1) xs _ (by omega) hx (by rw [List.length_set]; exact hy)
  have loop0 : ∀ (n i : Nat) (xs ys : List Int), i + n = p → xs.length = p → ys.length = q → Ev (fun k => undercroftlaw15_SparseTwo.l0 k l xs ys (i : Int) s0 s1 t0 t1) true := by
    intro n
    induction n with
    | zero =>
      intro i xs ys hi hx hy
      refine Ev.succ ?_
      simp only [undercroftlaw15_SparseTwo.l0]
      simp only [if_neg (show ¬ ((i : Int) < (xs.length : Int)) by omega)]
      exact loop1 q 0 xs ys (by omega) hx hy
    | succ n ih =>
      intro i xs ys hi hx hy
      refine Ev.succ ?_
      simp only [undercroftlaw15_SparseTwo.l0]
      simp only [if_pos (show ((i : Int) < (xs.length : Int)) by omega), if_pos (show (0 : Int) ≤ (i : Int) by omega)]
      rw [w64 (show -9223372036854775808 ≤ (i : Int) + 1 by omega) (by omega), show (i : Int) + 1 = ((i + 1 : Nat) : Int) by omega]
      exact ih (i + 1) _ ys (by omega) (by rw [List.length_set]; exact hx) hy
  exact loop0 p 0 _ _ (by omega) (by simp) (by simp)
end Go.Proofs.Ytdobcojmfhdinaa.SpPure
