/- The plain part of the law SparseStays: its program's text as a function (printed) answers true, for all runs that can come in. -/
import Derived.Test.YtdobcojmfhdinaaSpBase
import Derived.Test.YtdobcojmfhdinaaPr28
namespace Go.Proofs.Ytdobcojmfhdinaa.SpPure
open Go.RowKit Go.Proofs.YtdobcojmfhdinaaW.PrintWords Go.Proofs.YtdobcojmfhdinaaW.PrintMore Go.Proofs.Ytdobcojmfhdinaa.Pr
set_option linter.unusedVariables false
set_option linter.unusedSimpArgs false
theorem SparseStays (l : List S33) (a n : Int) (d : ByteArray) (hf : Fits l) (ha : a ≤ 9223372036854775807) : ∃ k, undercroftlaw15_SparseStays.f k l a n d = some true := by
  refine Ev.rounds ?_
  unfold undercroftlaw15_SparseStays.f
  refine Ev.bind alive_ev ?_
  simp only [if_true]
  refine Ev.bind (put_ev hf a d ha) ?_
  by_cases he : (putR l a d).2 = 0
  case neg =>
    simp only [if_neg he, put_err he]
    exact Ev.now _
  simp only [if_pos he]
  obtain ⟨hv, h0, h1⟩ := put_iff he
  obtain ⟨hP, hc⟩ := fits_of_put he
  have hds : d.size = d.data.toList.length := Lib.size_eq d
  generalize (putR l a d).1 = P at *
  have hfP := Valid_fits hP
  refine Ev.bind (bytes_ev hf 0 65536) ?_
  refine Ev.bind (bytes_ev hfP 0 65536) ?_
  have e1 := bytes_ok hv (a := 0) (n := 65536) (by omega)
  have e2 := bytes_ok hP (a := 0) (n := 65536) (by omega)
  simp only [Int.cast_ofNat_Int] at e1 e2
  obtain ⟨A, hA⟩ : ∃ A : ByteArray, A = ⟨(fnA (cont l) 0 65536).toArray⟩ := ⟨_, rfl⟩
  obtain ⟨B, hB⟩ : ∃ B : ByteArray, B = ⟨(fnA (cont P) 0 65536).toArray⟩ := ⟨_, rfl⟩
  have sA : A.size = 65536 := by rw [hA]; exact all_len _ _ _
  have sB : B.size = 65536 := by rw [hB]; exact all_len _ _ _
  have e1' : bytesR l 0 65536 = (A, 0) := by rw [hA]; exact e1
  have e2' : bytesR P 0 65536 = (B, 0) := by rw [hB]; exact e2
  rw [e1', e2']
  clear e1 e2 e1' e2'
  simp only [if_true, sA, sB, if_pos (show ((65536 : Nat) : Int) = 65536 from rfl)]
  refine Ev.bind (check' hfP) ?_
  simp only [Z_true hP]
  obtain ⟨p, rfl⟩ := Int.eq_ofNat_of_zero_le h0
  have hw : wrap64 ((p : Int) + (d.size : Int)) = ((p + d.size : Nat) : Int) := by rw [w64 (by omega) (by omega)]; omega
  have exA : ∀ u v, v ≤ 65536 → (A.extract u v).data.toList = fnA (cont l) (0 + u) (v - u) := fun u v h => by rw [hA]; exact all_ex _ _ _ _ _ h
  have exB : ∀ u v, v ≤ 65536 → (B.extract u v).data.toList = fnA (cont P) (0 + u) (v - u) := fun u v h => by rw [hB]; exact all_ex _ _ _ _ _ h
  have t1 : (B.extract 0 p).toList = (A.extract 0 p).toList := by
    rw [Lib.toList_data, Lib.toList_data, exA 0 p (by omega), exB 0 p (by omega)]
    exact fnA_congr (fun i _ hi => by rw [hc i]; unfold mixC; rw [if_pos (by omega)])
  have t2 : (B.extract p (p + d.size)).toList = d.toList := by
    rw [Lib.toList_data, Lib.toList_data, exB p (p + d.size) (by omega)]
    apply List.ext_getElem?
    intro i
    by_cases hi : i < d.size
    · rw [fnA_get _ _ _ _ (by omega), hc, List.getElem?_eq_getElem (by omega)]
      unfold mixC
      rw [if_neg (by omega), if_pos (by omega), List.getD_eq_getElem?_getD, show (((0 + p + i : Nat) : Int) - (p : Int)).toNat = i by omega, List.getElem?_eq_getElem (by omega)]; rfl
    · rw [List.getElem?_eq_none (by rw [fnA_len]; omega), List.getElem?_eq_none (by omega)]
  have t3 : (B.extract (p + d.size) B.size).toList = (A.extract (p + d.size) A.size).toList := by
    rw [sA, sB, Lib.toList_data, Lib.toList_data, exA _ _ (by omega), exB _ _ (by omega)]
    exact fnA_congr (fun i hi _ => by rw [hc i]; unfold mixC; rw [if_neg (by omega), if_neg (by omega), if_pos (by omega)])
  have b0 : ((0 : Int) != 0) = false := rfl
  simp only [b0]
  refine Ev.succ ?_
  simp only [undercroftlaw15_SparseStays.j0, Bool.false_eq_true, if_false, hw, sA, sB, Int.toNat_natCast]
  simp only [if_pos (show (0 : Int) ≤ (p : Int) by omega), if_pos (show (p : Int) ≤ ((65536 : Nat) : Int) by omega), if_pos t1, if_pos (show (p : Int) ≤ ((p + d.size : Nat) : Int) by omega), if_pos (show ((p + d.size : Nat) : Int) ≤ ((65536 : Nat) : Int) by omega), if_pos t2, if_pos (show (0 : Int) ≤ ((p + d.size : Nat) : Int) by omega)]
  rw [sA, sB] at t3
  have b1 : ((B.extract (p + d.size) 65536).toList != (A.extract (p + d.size) 65536).toList) = false := by rw [t3]; simp
  simp only [b1]
  refine Ev.succ ?_
  simp only [undercroftlaw15_SparseStays.j1, Bool.false_eq_true, if_false, hw, sA, Int.toNat_natCast]
  refine Ev.bind (zero_ev hfP _ _) ?_
  obtain ⟨Q, eQ, hQ, hcQ⟩ := zero_ok hP (a := (p : Int)) (b := ((p + d.size : Nat) : Int)) (by omega) (by omega)
  rw [eQ]
  have hfQ := Valid_fits hQ
  simp only []
  refine Ev.bind (bytes_ev hfQ _ _) ?_
  rw [bytes_ok hQ (a := p) (n := d.size) (by omega)]
  simp only [if_pos (show (0 : Int) ≤ (p : Int) by omega), if_pos (show (p : Int) ≤ ((p + d.size : Nat) : Int) by omega), if_pos (show ((p + d.size : Nat) : Int) ≤ ((65536 : Nat) : Int) by omega)]
  refine Ev.bind (put_ev hfQ _ _ ha) ?_
  have sX : (A.extract p (p + d.size)).size = d.size := by rw [Lib.size_eq, exA _ _ (by omega), fnA_len]; omega
  obtain ⟨R, eR, hR, hcR⟩ := put_ok hQ (a := (p : Int)) (d := A.extract p (p + d.size)) (by omega) (by rw [sX]; omega)
  rw [eR]
  have z0 : (⟨(fnA (cont Q) p d.size).toArray⟩ : ByteArray).toList = (strOfNums (List.replicate d.size 0)).toList := by
    have : List.replicate d.size (0 : Int) = ib (List.replicate d.size 0) := by simp [ib]
    rw [this, str_ib, Lib.toList_data, Lib.toList_data]
    show fnA (cont Q) p d.size = List.replicate d.size 0
    apply List.ext_getElem?
    intro i
    by_cases hi : i < d.size
    · rw [fnA_get _ _ _ _ hi, List.getElem?_replicate, if_pos hi, hcQ, if_neg (by omega)]
    · rw [List.getElem?_eq_none (by rw [fnA_len]; omega), List.getElem?_eq_none (by rw [List.length_replicate]; omega)]
  simp only [if_true, if_pos (show (0 : Int) ≤ (d.size : Int) by omega), if_pos (show d.size ≤ 281474976710656 by omega), if_pos z0]
  have hlR := Valid_length hR
  have hleR := lastEnd_ge R hR
  refine Ev.bind (same_true (by omega) (ext hR hv (fun i => ?_))) (Ev.now _)
  rw [hcR]
  unfold mixC
  have hlx : (A.extract p (p + d.size)).data.toList.length = d.size := by rw [← Lib.size_eq]; exact sX
  by_cases c1 : (i : Int) < p
  · rw [if_pos c1, hcQ, if_pos (.inl c1), hc]; unfold mixC; rw [if_pos c1]
  · rw [if_neg c1]
    by_cases c2 : (i : Int) < p + d.size
    · rw [if_pos (by omega), exA _ _ (by omega), List.getD_eq_getElem?_getD, fnA_get _ _ _ _ (by omega)]
      show cont l (0 + p + ((i : Int) - (p : Int)).toNat) = _
      rw [show 0 + p + ((i : Int) - (p : Int)).toNat = i by omega]
    · rw [if_neg (by omega), if_pos (by rw [sX]; omega), hcQ, if_pos (.inr (by omega)), hc]; unfold mixC; rw [if_neg c1, if_neg (by omega), if_pos (by omega)]
end Go.Proofs.Ytdobcojmfhdinaa.SpPure
