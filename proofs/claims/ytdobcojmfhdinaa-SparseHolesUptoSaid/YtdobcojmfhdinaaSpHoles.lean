/- The plain part of the law SparseHoles: its program's text as a function (printed) answers true, for all runs that can come in. -/
import Derived.Test.YtdobcojmfhdinaaSpBase
import Derived.Test.YtdobcojmfhdinaaPr30
namespace Go.Proofs.Ytdobcojmfhdinaa.SpPure
open Go.RowKit Go.Proofs.YtdobcojmfhdinaaW.PrintWords Go.Proofs.YtdobcojmfhdinaaW.PrintMore Go.Proofs.Ytdobcojmfhdinaa.Pr
set_option linter.unusedVariables false
set_option linter.unusedSimpArgs false
/-! holes -/
def tot (l : List S33) : Int := (l.map fun r => (r.f1.size : Int)).sum
theorem tot_snoc (l : List S33) (r : S33) : tot (l ++ [r]) = tot l + r.f1.size := by simp [tot]
/-- how many places of the first N are not 0 -/
def cnt (c : Nat → UInt8) (N : Nat) : Nat := ((List.range N).filter fun i => decide (c i ≠ 0)).length
theorem cnt_le (c c' : Nat → UInt8) (h : ∀ i, c i ≠ 0 → c' i ≠ 0) (N : Nat) : cnt c N ≤ cnt c' N := by
  induction N with
  | zero => simp [cnt]
  | succ N ih =>
    unfold cnt at ih ⊢
    rw [List.range_succ, List.filter_append, List.filter_append, List.length_append, List.length_append]
    refine Nat.add_le_add ih ?_
    by_cases h1 : c N = 0
    · have : ([N].filter fun i => decide (c i ≠ 0)) = [] := by simp [h1]
      rw [this]; exact Nat.zero_le _
    · have h2 := h N h1
      have : ([N].filter fun i => decide (c i ≠ 0)) = [N] := by simp [h1]
      have h3 : ([N].filter fun i => decide (c' i ≠ 0)) = [N] := by simp [h2]
      rw [this, h3]; exact Nat.le_refl _
theorem cnt_split (c : Nat → UInt8) (M : Nat) : ∀ n, (∀ i, M ≤ i → i < M + n → c i ≠ 0) → cnt c (M + n) = cnt c M + n
  | 0, _ => by simp
  | n + 1, h => by
    have ih := cnt_split c M n (fun i h1 h2 => h i h1 (by omega))
    have h1 := h (M + n) (by omega) (by omega)
    unfold cnt at ih ⊢
    rw [← Nat.add_assoc, List.range_succ, List.filter_append, List.length_append, ih]
    simp [List.filter_cons, h1]; omega
theorem cnt_zeros (c : Nat → UInt8) (M : Nat) : ∀ n, (∀ i, M ≤ i → i < M + n → c i = 0) → cnt c (M + n) = cnt c M
  | 0, _ => by simp
  | n + 1, h => by
    have ih := cnt_zeros c M n (fun i h1 h2 => h i h1 (by omega))
    have h1 := h (M + n) (by omega) (by omega)
    unfold cnt at ih ⊢
    rw [← Nat.add_assoc, List.range_succ, List.filter_append, List.length_append, ih]
    simp [List.filter_cons, h1]
theorem cnt_congr (c c' : Nat → UInt8) (N : Nat) (h : ∀ i, i < N → c i = c' i) : cnt c N = cnt c' N := by
  unfold cnt
  congr 1
  refine List.filter_congr fun i hi => ?_
  rw [h i (List.mem_range.1 hi)]
theorem tot_cnt {l : List S33} : Valid l → ∀ E : Nat, lastEnd l ≤ E → tot l = (cnt (cont l) E : Int) := by
  refine snoc_ind (P := fun l => Valid l → ∀ E : Nat, lastEnd l ≤ E → tot l = (cnt (cont l) E : Int)) ?_ ?_ l
  · intro _ E _
    have := cnt_zeros (cont []) 0 E (fun i _ _ => rfl)
    rw [Nat.zero_add] at this
    rw [this]; rfl
  · intro l r ih h E hE
    have hv := (Valid_snoc l r).1 h
    obtain ⟨h1, h2, h3, h4, h5⟩ := hv
    have h6 := (lastEnd_ge l h1).1
    rw [lastEnd_snoc] at hE
    have h8 : en r = r.f0 + (r.f1.size : Int) := rfl
    have hsz := size_bs r
    obtain ⟨lo, hlo⟩ : ∃ lo : Nat, r.f0 = lo := ⟨r.f0.toNat, by omega⟩
    have e1 := cnt_zeros (cont (l ++ [r])) (lo + r.f1.size) (E - (lo + r.f1.size)) (fun i hi _ => cont_beyond h i (by rw [lastEnd_snoc]; omega))
    rw [show lo + r.f1.size + (E - (lo + r.f1.size)) = E by omega] at e1
    have e2 := cnt_split (cont (l ++ [r])) lo r.f1.size (fun i hi1 hi2 => by
      rw [cont_snoc_in h i ⟨by omega, by omega⟩]
      unfold byteOf
      rw [List.getD_eq_getElem?_getD, List.getElem?_eq_getElem (by omega)]
      exact h5 _ (List.getElem_mem _))
    have e3 := cnt_congr (cont (l ++ [r])) (cont l) lo (fun i hi => cont_snoc_lt i (by omega))
    rw [e1, e2, e3, tot_snoc, ih h1 lo (by omega)]
    push_cast; rfl
theorem tot_nonneg (l : List S33) : 0 ≤ tot l := by
  induction l with
  | nil => simp [tot]
  | cons r l ih =>
    have : tot (r :: l) = r.f1.size + tot l := by simp [tot]
    omega
theorem tot_take_succ (l : List S33) (i : Nat) (h : i < l.length) : tot (l.take (i + 1)) = tot (l.take i) + l[i].f1.size := by
  rw [List.take_succ_eq_append_getElem h, tot_snoc]
theorem tot_take_le {l : List S33} (hv : Valid l) (i : Nat) : tot (l.take i) ≤ 65536 := by
  have h := Valid_take hv i
  have h1 := lastEnd_ge _ h
  rw [tot_cnt h 65536 (by omega)]
  have : cnt (cont (l.take i)) 65536 ≤ 65536 := by
    unfold cnt
    exact Nat.le_trans (List.length_filter_le _ _) (by rw [List.length_range]; exact Nat.le_refl _)
  omega
theorem SparseHoles (l : List S33) (a b : Int) (hf : Fits l) : ∃ k, undercroftlaw15_SparseHoles.f k l a b = some true := by
  refine Ev.rounds ?_
  unfold undercroftlaw15_SparseHoles.f
  refine Ev.bind alive_ev ?_
  simp only [if_true]
  refine Ev.bind (zero_ev hf a b) ?_
  by_cases e : (zeroR l a b).2 = 0
  case neg =>
    simp only [if_neg e, zero_err e]
    exact Ev.now _
  obtain ⟨hv, a0, ab⟩ := zero_iff e
  obtain ⟨P, eP, vP, kP⟩ := zero_ok hv a0 ab
  rw [eP]
  simp only [if_true]
  refine Ev.bind (zero_ev (Valid_fits vP) a b) ?_
  obtain ⟨Q, eQ, vQ, kQ⟩ := zero_ok vP a0 ab
  have hQP : Q = P := ext vQ vP (fun i => by
    rw [kQ, kP]; split <;> rfl)
  subst hQP
  rw [eQ]
  refine Ev.bind (zero_ev hf 0 65536) ?_
  obtain ⟨R, eR, vR, kR⟩ := zero_ok hv (a := 0) (b := 65536) (by omega) (by omega)
  have hR : R = [] := ext vR Valid_nil (fun i => by
    rw [kR]
    have := lastEnd_ge l hv
    by_cases h : (i : Int) < 0 ∨ (65536 : Int) ≤ i
    · rw [if_pos h]; exact cont_beyond hv i (by omega)
    · rw [if_neg h]; rfl)
  subst hR
  rw [eR]
  simp only []
  have hle := lastEnd_ge l hv
  have hlQ := lastEnd_ge Q vQ
  have hll := Valid_length hv
  have hlq := Valid_length vQ
  have htot : tot Q ≤ tot l := by
    rw [tot_cnt vQ 65536 (by omega), tot_cnt hv 65536 (by omega)]
    have := cnt_le (cont Q) (cont l) (fun i h => by
      rw [kP] at h
      split at h
      · exact h
      · exact absurd rfl h) 65536
    omega
  have hend : endR Q ≤ endR l := by
    unfold endR
    rw [if_pos vQ, if_pos hv]
    have : lastEnd Q ≤ lastEnd l ∨ lastEnd Q ≤ 0 := by
      by_cases h0 : Q = []
      · subst h0; right; simp [lastEnd]
      · left
        refine Classical.byContradiction fun hc => ?_
        have hm2 := mem_end vQ (Q.getLast h0) (List.getLast_mem h0)
        have h9 := lastEnd_last h0
        have hval := vQ
        have hsn : Q = Q.dropLast ++ [Q.getLast h0] := (List.dropLast_concat_getLast h0).symm
        rw [hsn] at hval
        have hvv := (Valid_snoc _ _).1 hval
        have hpos := bs_pos hvv.2.2.1
        have h8 : en (Q.getLast h0) = (Q.getLast h0).f0 + ((Q.getLast h0).f1.size : Int) := rfl
        have hsz := size_bs (Q.getLast h0)
        have hci : cont (Q.dropLast ++ [Q.getLast h0]) ((lastEnd Q).toNat - 1) = byteOf (Q.getLast h0) ((lastEnd Q).toNat - 1) := cont_snoc_in hval _ ⟨by omega, by omega⟩
        rw [← hsn] at hci
        have hnz : byteOf (Q.getLast h0) ((lastEnd Q).toNat - 1) ≠ 0 := by
          unfold byteOf
          rw [List.getD_eq_getElem?_getD, List.getElem?_eq_getElem (by omega)]
          exact hvv.2.2.2.2 _ (List.getElem_mem _)
        rw [← hci, kP] at hnz
        split at hnz
        · exact hnz (cont_beyond hv _ (by omega))
        · exact hnz rfl
    omega
  have loop1 : ∀ (n i : Nat) (m : Int), i + n = Q.length → m = tot (Q.take i) → Ev (fun k => undercroftlaw15_SparseHoles.l1 k l a b Q Q 0 [] 0 (tot l) m (i : Int)) true := by
    intro n
    induction n with
    | zero =>
      intro i m hi hm
      refine Ev.succ ?_
      simp only [undercroftlaw15_SparseHoles.l1]
      simp only [if_neg (show ¬ ((i : Int) < (Q.length : Int)) by omega), if_true]
      refine Ev.bind (same_true (by omega) rfl) ?_
      rw [List.take_of_length_le (by omega)] at hm
      simp only [if_true, List.length_nil, if_pos (show (((0 : Nat) : Int)) = 0 from rfl), if_pos (show m ≤ tot l by omega)]
      refine Ev.bind (end_ev (Valid_fits vQ)) ?_
      refine Ev.bind (end_ev hf) ?_
      rw [decide_eq_true hend]
      exact Ev.now _
    | succ n ih =>
      intro i m hi hm
      have hlt : i < Q.length := by omega
      have hmem : Q[i] ∈ Q := List.getElem_mem hlt
      have hme := mem_end vQ _ hmem
      have h8 : en Q[i] = Q[i].f0 + (Q[i].f1.size : Int) := rfl
      have ht := tot_take_succ Q i hlt
      have ht2 := tot_take_le vQ i
      have ht3 := tot_nonneg (Q.take i)
      refine Ev.succ ?_
      simp only [undercroftlaw15_SparseHoles.l1, rd_at hlt]
      simp only [if_pos (show ((i : Int) < (Q.length : Int)) by omega), if_pos (show (0 : Int) ≤ (i : Int) by omega), w64 (show -9223372036854775808 ≤ ((i + 1 : Nat) : Int) by omega) (show ((i + 1 : Nat) : Int) ≤ 9223372036854775807 by omega), w64 (show -9223372036854775808 ≤ Q[i].f0 + (Q[i].f1.size : Int) by omega) (show Q[i].f0 + (Q[i].f1.size : Int) ≤ 9223372036854775807 by omega), w64 (show -9223372036854775808 ≤ m + (Q[i].f1.size : Int) by omega) (show m + (Q[i].f1.size : Int) ≤ 9223372036854775807 by omega), show (i : Int) + 1 = ((i + 1 : Nat) : Int) by omega]
      have go := ih (i + 1) (m + (Q[i].f1.size : Int)) (by omega) (by rw [ht, hm])
      by_cases g1 : a < b
      · simp only [if_pos g1]
        by_cases g2 : Q[i].f0 < b
        · simp only [if_pos g2]
          by_cases g3 : Q[i].f0 + (Q[i].f1.size : Int) > a
          · -- a run that meets the hole: its byte there is none
            exfalso
            have hvt := Valid_take vQ (i + 1)
            rw [List.take_succ_eq_append_getElem hlt] at hvt
            have hvv := (Valid_snoc _ _).1 hvt
            have hpos := bs_pos hvv.2.2.1
            have hsz := size_bs Q[i]
            obtain ⟨x, hx⟩ : ∃ x : Nat, (x : Int) = max a Q[i].f0 := ⟨(max a Q[i].f0).toNat, by omega⟩
            have hcv : cov Q[i] x := ⟨by omega, by omega⟩
            have hcx : cont Q x = byteOf Q[i] x := by
              have e9 : Q = (Q.take i ++ [Q[i]]) ++ Q.drop (i + 1) := by
                rw [← List.take_succ_eq_append_getElem hlt, List.take_append_drop]
              have hnone : ∀ q ∈ Q.drop (i + 1), ¬ cov q x := by
                -- what stands behind begins behind its end
                have key : ∀ (l : List S33) (last : Int), vFrom last l → ∀ q ∈ l, last < q.f0 := by
                  intro l
                  induction l with
                  | nil => intro last _ q hq; cases hq
                  | cons r l ih =>
                    intro last h q hq
                    simp only [vFrom] at h
                    rcases List.mem_cons.1 hq with hq | hq
                    · rw [hq]; exact h.1
                    · have := ih _ h.2.2.2.2 q hq
                      have := bs_pos h.2.1
                      have h10 : en r = r.f0 + (r.f1.size : Int) := rfl
                      have := h.1
                      omega
                have key2 : ∀ (l : List S33) (last : Int) (i : Nat) (h : i < l.length), vFrom last l → vFrom (en l[i]) (l.drop (i + 1)) := by
                  intro l
                  induction l with
                  | nil => intro last i h; simp at h
                  | cons r l ih =>
                    intro last i h hv
                    simp only [vFrom] at hv
                    cases i with
                    | zero => simpa using hv.2.2.2.2
                    | succ i => simpa using ih _ i (by simpa using h) hv.2.2.2.2
                intro q hq hcq
                have := key _ _ (key2 Q (-1) i hlt vQ) q hq
                have := hcq.1
                have := hcv.2
                omega
              have e10 : cont ((Q.take i ++ [Q[i]]) ++ Q.drop (i + 1)) x = cont (Q.take i ++ [Q[i]]) x := cont_left _ _ _ hnone
              rw [← e9] at e10
              rw [e10]
              exact cont_snoc_in hvt x hcv
            have hnz : byteOf Q[i] x ≠ 0 := by
              have h10 := hcv.1
              have h11 := hcv.2
              unfold byteOf
              rw [List.getD_eq_getElem?_getD, List.getElem?_eq_getElem (by omega)]
              exact hvv.2.2.2.2 _ (List.getElem_mem _)
            rw [← hcx, kP, if_neg (by omega)] at hnz
            exact hnz rfl
          · simp only [if_neg g3]; exact go
        · simp only [if_neg g2]; exact go
      · simp only [if_neg g1]; exact go
  have loop0 : ∀ (n i : Nat) (m : Int), i + n = l.length → m = tot (l.take i) → Ev (fun k => undercroftlaw15_SparseHoles.l0 k l a b Q Q 0 [] 0 m 0 (i : Int)) true := by
    intro n
    induction n with
    | zero =>
      intro i m hi hm
      refine Ev.succ ?_
      simp only [undercroftlaw15_SparseHoles.l0]
      simp only [if_neg (show ¬ ((i : Int) < (l.length : Int)) by omega)]
      rw [List.take_of_length_le (by omega)] at hm
      rw [hm]
      exact loop1 Q.length 0 0 (by omega) (by simp [tot])
    | succ n ih =>
      intro i m hi hm
      have hlt : i < l.length := by omega
      have ht := tot_take_succ l i hlt
      have ht2 := tot_take_le hv i
      have ht3 := tot_nonneg (l.take i)
      have hme := mem_end hv _ (List.getElem_mem hlt)
      have h8 : en l[i] = l[i].f0 + (l[i].f1.size : Int) := rfl
      refine Ev.succ ?_
      simp only [undercroftlaw15_SparseHoles.l0, rd_at hlt]
      simp only [if_pos (show ((i : Int) < (l.length : Int)) by omega), if_pos (show (0 : Int) ≤ (i : Int) by omega), w64 (show -9223372036854775808 ≤ ((i + 1 : Nat) : Int) by omega) (show ((i + 1 : Nat) : Int) ≤ 9223372036854775807 by omega), w64 (show -9223372036854775808 ≤ m + (l[i].f1.size : Int) by omega) (show m + (l[i].f1.size : Int) ≤ 9223372036854775807 by omega), show (i : Int) + 1 = ((i + 1 : Nat) : Int) by omega]
      exact ih (i + 1) _ (by omega) (by rw [ht, hm])
  exact loop0 l.length 0 0 (by omega) (by simp [tot])
end Go.Proofs.Ytdobcojmfhdinaa.SpPure
