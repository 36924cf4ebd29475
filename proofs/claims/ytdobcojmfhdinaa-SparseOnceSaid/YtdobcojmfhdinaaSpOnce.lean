/- The plain part of the law SparseOnce: its program's text as a function (printed) answers true, for all runs that can come in. -/
import Derived.Test.YtdobcojmfhdinaaSpBase
import Derived.Test.YtdobcojmfhdinaaPr23
namespace Go.Proofs.Ytdobcojmfhdinaa.SpPure
open Go.RowKit Go.Proofs.YtdobcojmfhdinaaW.PrintWords Go.Proofs.YtdobcojmfhdinaaW.PrintMore Go.Proofs.Ytdobcojmfhdinaa.Pr
set_option linter.unusedVariables false
set_option linter.unusedSimpArgs false
theorem SparseOnce (l m : List S33) (hf : Fits l) (hm : Fits m) : ∃ k, undercroftlaw15_SparseOnce.f k l m = some true := by
  classical
  refine Ev.rounds ?_
  unfold undercroftlaw15_SparseOnce.f
  refine Ev.bind alive_ev ?_
  simp only [if_true]
  refine Ev.bind (bytes_ev hf 0 65536) ?_
  refine Ev.bind (bytes_ev hm 0 65536) ?_
  have ok : ∀ {q : List S33}, Valid q → bytesR q 0 65536 = (⟨(fnA (cont q) 0 65536).toArray⟩, 0) := fun hq => bytes_ok hq (a := 0) (n := 65536) (by omega)
  -- one of the two is no right list
  have bad : ∀ (x y : ByteArray) (u v : Int), u = Z (Valid l) → v = Z (Valid m) → Ev (fun k => undercroftlaw15_SparseOnce.j0 k l m x u y v true) true := by
    intro x y u v hu hv
    refine Ev.succ ?_
    simp only [undercroftlaw15_SparseOnce.j0, if_true]
    refine Ev.bind (check' hf) ?_
    rw [hu]
    simp only [beq_self_eq_true, if_true]
    refine Ev.bind (check' hm) ?_
    rw [hv]
    simp only [beq_self_eq_true]
    exact Ev.now _
  by_cases hv : Valid l
  case neg =>
    rw [bytes_inv hv]
    simp only [if_neg (show ¬ ((1 : Int) = 0) by omega)]
    refine bad _ _ _ _ (Z_false hv).symm ?_
    by_cases hw : Valid m
    · rw [ok hw, Z_true hw]
    · rw [bytes_inv hw, Z_false hw]
  by_cases hw : Valid m
  case neg =>
    rw [ok hv, bytes_inv hw]
    simp only [if_true]
    have : ((1 : Int) != 0) = true := rfl
    rw [this]
    exact bad _ _ _ _ (Z_true hv).symm (Z_false hw).symm
  rw [ok hv, ok hw]
  obtain ⟨A, hA⟩ : ∃ A : ByteArray, A = ⟨(fnA (cont l) 0 65536).toArray⟩ := ⟨_, rfl⟩
  obtain ⟨B, hB⟩ : ∃ B : ByteArray, B = ⟨(fnA (cont m) 0 65536).toArray⟩ := ⟨_, rfl⟩
  have sA : A.size = 65536 := by rw [hA]; exact all_len _ _ _
  have oA : sparse_Of.f A = some (l, 0) := by rw [hA]; exact of_all hv
  have btA : ∀ i : Nat, i < 65536 → bt A (i : Int) = ((cont l i).toNat : Int) := by
    intro i hi
    unfold bt
    rw [dif_pos (by rw [Int.toNat_natCast, sA]; exact hi)]
    simp only [Int.toNat_natCast]
    have h1 : A.data.toList[i]? = some (cont l i) := by
      rw [hA]
      have := fnA_get (cont l) 0 65536 i hi
      rw [Nat.zero_add] at this
      exact this
    have h2 : i < A.data.toList.length := by rw [← Lib.size_eq, sA]; exact hi
    rw [List.getElem?_eq_getElem h2] at h1
    have h3 : A[i]'(by rw [sA]; exact hi) = cont l i := by rw [← Option.some.inj h1]; rfl
    rw [h3]
  have eAB : (A.toList == B.toList) = decide (l = m) := by
    have : A.toList = B.toList ↔ l = m := by
      rw [toList_eq, hA, hB, all_eq]
      exact ⟨fun h => ext hv hw (fun i => by
        by_cases hi : i < 65536
        · exact h i (by omega) (by omega)
        · have h1 := lastEnd_ge l hv; have h2 := lastEnd_ge m hw
          rw [cont_beyond hv i (by omega), cont_beyond hw i (by omega)]), fun h i _ _ => by rw [h]⟩
    by_cases h : l = m
    · rw [decide_eq_true h]; exact beq_iff_eq.2 (this.2 h)
    · rw [decide_eq_false h]; exact beq_eq_false_iff_ne.2 (fun hc => h (this.1 hc))
  rw [← hA, ← hB]
  have b0 : ((0 : Int) != 0) = false := rfl
  simp only [if_true, b0]
  refine Ev.succ ?_
  simp only [undercroftlaw15_SparseOnce.j0, Bool.false_eq_true, if_false, oA, Option.bind_some]
  refine Ev.bind (end_ev hf) ?_
  have hE : endR l = ((lastEnd l).toNat : Int) := by unfold endR; rw [if_pos hv]
  rw [hE]
  have hle := lastEnd_ge l hv
  have hll := Valid_length hv
  have key : ∀ (n i : Nat), i + n = 65536 → (lastEnd l).toNat ≤ i → Ev (fun k => undercroftlaw15_SparseOnce.l0 k l m A B l 0 ((lastEnd l).toNat : Int) (i : Int)) true := by
    intro n
    induction n with
    | zero =>
      intro i hi hi2
      refine Ev.succ ?_
      simp only [undercroftlaw15_SparseOnce.l0, sA]
      simp only [if_neg (show ¬ ((i : Int) < ((65536 : Nat) : Int)) by omega)]
      refine Ev.bind (same_ev l m (by omega)) ?_
      simp only [eAB, beq_self_eq_true, if_true]
      refine Ev.bind (same_true (by omega) rfl) ?_
      simp only [if_true]
      by_cases h0 : l = []
      · subst h0
        exact Ev.now _
      · have hm2 := mem_end hv (l.getLast h0) (List.getLast_mem h0)
        have h9 := lastEnd_last h0
        have hval := hv
        have hsn : l = l.dropLast ++ [l.getLast h0] := (List.dropLast_concat_getLast h0).symm
        rw [hsn] at hval
        have hvv := (Valid_snoc _ _).1 hval
        have hpos := bs_pos hvv.2.2.1
        have h8 : en (l.getLast h0) = (l.getLast h0).f0 + ((l.getLast h0).f1.size : Int) := rfl
        have hsz := size_bs (l.getLast h0)
        simp only [if_neg (show ¬ (((lastEnd l).toNat : Int) = 0) by omega), w64 (show -9223372036854775808 ≤ ((lastEnd l).toNat : Int) - 1 by omega) (show ((lastEnd l).toNat : Int) - 1 ≤ 9223372036854775807 by omega), if_pos (show (0 : Int) ≤ ((lastEnd l).toNat : Int) - 1 by omega), if_pos (show ((lastEnd l).toNat : Int) - 1 < ((65536 : Nat) : Int) by omega)]
        rw [show ((lastEnd l).toNat : Int) - 1 = (((lastEnd l).toNat - 1 : Nat) : Int) by omega, btA _ (by omega)]
        have hnz : cont l ((lastEnd l).toNat - 1) ≠ 0 := by
          have hci : cont (l.dropLast ++ [l.getLast h0]) ((lastEnd l).toNat - 1) = byteOf (l.getLast h0) ((lastEnd l).toNat - 1) := cont_snoc_in hval _ ⟨by omega, by omega⟩
          rw [← hsn] at hci
          rw [hci]
          unfold byteOf
          rw [List.getD_eq_getElem?_getD, List.getElem?_eq_getElem (by omega)]
          exact hvv.2.2.2.2 _ (List.getElem_mem _)
        have : (((cont l ((lastEnd l).toNat - 1)).toNat : Int) != 0) = true := by
          rw [bne_iff_ne]; exact fun h => hnz (u8_zero.1 h)
        rw [this]
        exact Ev.now _
    | succ n ih =>
      intro i hi hi2
      refine Ev.succ ?_
      simp only [undercroftlaw15_SparseOnce.l0, sA]
      simp only [if_pos (show ((i : Int) < ((65536 : Nat) : Int)) by omega), if_pos (show (0 : Int) ≤ (i : Int) by omega), btA i (by omega)]
      simp only [if_pos (show ((cont l i).toNat : Int) = 0 by rw [cont_beyond hv i (by omega)]; rfl)]
      rw [w64 (by omega) (by omega), show (i : Int) + 1 = ((i + 1 : Nat) : Int) by omega]
      exact ih (i + 1) (by omega) (by omega)
  exact key (65536 - (lastEnd l).toNat) (lastEnd l).toNat (by omega) (Nat.le_refl _)
end Go.Proofs.Ytdobcojmfhdinaa.SpPure
