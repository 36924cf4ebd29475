/- The laws over runs, what they share: what Put, Zero, Bytes, Of answer over runs in the one right form and over others; that a list of runs which comes in is of its kind. In plain Lean, no program walked. -/
import Derived.Test.YtdobcojmfhdinaaSpMore
import Derived.Test.YtdobcojmfhdinaaOp
namespace Go.Proofs.Ytdobcojmfhdinaa.SpPure
open Go.RowKit Go.Proofs.YtdobcojmfhdinaaW.PrintWords Go.Proofs.YtdobcojmfhdinaaW.PrintMore Go.Proofs.Ytdobcojmfhdinaa.Pr
set_option linter.unusedVariables false
set_option linter.unusedSimpArgs false
theorem same_true {l m : List S33} (hl : l.length ≤ 4611686018427387904) (h : l = m) : Ev (fun k => undercroftref15_Same.f k l m) true := by
  classical
  have := same_ev l m hl
  rwa [decide_eq_true h] at this
theorem same_false {l m : List S33} (hl : l.length ≤ 4611686018427387904) (h : l ≠ m) : Ev (fun k => undercroftref15_Same.f k l m) false := by
  classical
  have := same_ev l m hl
  rwa [decide_eq_false h] at this
theorem copied_some {l : List S33} (hf : Fits l) : l.length < 5864062014805 → undercroftlaw15_copied.f l = some l := by
  intro h
  unfold undercroftlaw15_copied.f
  simp only [Option.bind_some, List.length_nil, Nat.zero_add, if_pos h, List.nil_append]
theorem ext {l m : List S33} (hl : Valid l) (hm : Valid m) (h : ∀ i, cont l i = cont m i) : l = m := by
  have h1 := canon hl 65536 (by have := lastEnd_ge l hl; omega)
  have h2 := canon hm 65536 (by have := lastEnd_ge m hm; omega)
  rw [← h1, ← h2]
  exact addFn_congr _ _ _ _ _ (fun i _ _ => h i)
/-- a put that goes well -/
theorem put_ok {l : List S33} (hv : Valid l) {a : Int} {d : ByteArray} (h0 : 0 ≤ a) (h1 : a + d.size ≤ 65536) :
    ∃ P, putR l a d = (P, 0) ∧ Valid P ∧ ∀ i, cont P i = mixC (cont l) a (a + d.size) d.data.toList i := by
  have hds : d.size = d.data.toList.length := Lib.size_eq d
  have G := gather_ok (mixC (cont l) a (a + d.size) d.data.toList) 65536 (Nat.le_refl _)
  obtain ⟨P, hP⟩ : ∃ P, P = addFn [] (mixC (cont l) a (a + d.size) d.data.toList) 0 65536 := ⟨_, rfl⟩
  rw [← hP] at G
  refine ⟨P, ?_, G.1, fun i => ?_⟩
  · unfold putR
    rw [if_neg (fun h => h.elim (fun h => h hv) (fun h => by omega)), if_neg (by omega), hP]
  · rw [G.2.2 i]
    split
    · rfl
    · have hle := lastEnd_ge l hv
      unfold mixC
      rw [if_neg (by omega), if_neg (by omega), if_pos (by omega), cont_beyond hv i (by omega)]
theorem put_err {l : List S33} {a : Int} {d : ByteArray} (h : (putR l a d).2 ≠ 0) : (putR l a d).1 = [] := by
  unfold putR at h ⊢
  split
  · rfl
  · rename_i h1
    rw [if_neg h1] at h
    split
    · rfl
    · rename_i h2
      rw [if_neg h2] at h
      exact absurd rfl h
theorem put_iff {l : List S33} {a : Int} {d : ByteArray} (h : (putR l a d).2 = 0) : Valid l ∧ 0 ≤ a ∧ a + d.size ≤ 65536 := by
  unfold putR at h
  split at h
  · simp at h
  · rename_i h1
    split at h
    · simp at h
    · rename_i h2
      refine ⟨Classical.byContradiction fun hc => h1 (.inl hc), by have := fun hc => h1 (.inr hc); omega, by omega⟩
theorem zero_ok {l : List S33} (hv : Valid l) {a b : Int} (h0 : 0 ≤ a) (h1 : a ≤ b) :
    ∃ P, zeroR l a b = (P, 0) ∧ Valid P ∧ ∀ i, cont P i = if (i : Int) < a ∨ b ≤ i then cont l i else 0 := by
  have G := gather_ok (mixC (cont l) a b []) 65536 (Nat.le_refl _)
  obtain ⟨P, hP⟩ : ∃ P, P = addFn [] (mixC (cont l) a b []) 0 65536 := ⟨_, rfl⟩
  rw [← hP] at G
  refine ⟨P, ?_, G.1, fun i => ?_⟩
  · unfold zeroR
    rw [if_neg (fun h => h.elim (fun h => h hv) (fun h => by omega)), hP]
  · rw [G.2.2 i, mixC_nil]
    split
    · rfl
    · have hle := lastEnd_ge l hv
      rw [cont_beyond hv i (by omega)]; simp
theorem zero_err {l : List S33} {a b : Int} (h : (zeroR l a b).2 ≠ 0) : (zeroR l a b).1 = [] := by
  unfold zeroR at h ⊢
  split
  · rfl
  · rename_i h1
    rw [if_neg h1] at h
    exact absurd rfl h
theorem zero_iff {l : List S33} {a b : Int} (h : (zeroR l a b).2 = 0) : Valid l ∧ 0 ≤ a ∧ a ≤ b := by
  unfold zeroR at h
  split at h
  · simp at h
  · rename_i h1
    exact ⟨Classical.byContradiction fun hc => h1 (.inl hc), by have := fun hc => h1 (.inr (.inl hc)); omega, by have := fun hc => h1 (.inr (.inr hc)); omega⟩
theorem bytes_ok {l : List S33} (hv : Valid l) {a n : Nat} (h : a + n ≤ 65536) : bytesR l a n = (⟨(fnA (cont l) a n).toArray⟩, 0) := by
  unfold bytesR
  rw [if_neg (fun h => h.elim (fun h => h hv) (fun h => by omega)), if_neg (by omega)]
  simp
theorem bytes_inv {l : List S33} (hv : ¬ Valid l) (a n : Int) : bytesR l a n = (⟨#[]⟩, 1) := by
  unfold bytesR
  rw [if_pos (.inl hv)]
theorem all_len (c : Nat → UInt8) (a n : Nat) : (⟨(fnA c a n).toArray⟩ : ByteArray).size = n := by
  rw [Lib.size_eq]; exact fnA_len c a n
theorem all_ex (c : Nat → UInt8) (a n p q : Nat) (hq : q ≤ n) : ((⟨(fnA c a n).toArray⟩ : ByteArray).extract p q).data.toList = fnA c (a + p) (q - p) := by
  rw [Lib.extract_data]
  show ((fnA c a n).drop p).take (q - p) = _
  apply List.ext_getElem?
  intro i
  by_cases hi : i < q - p
  · rw [List.getElem?_take, if_pos hi, List.getElem?_drop, fnA_get _ _ _ _ (by omega), fnA_get _ _ _ _ hi, Nat.add_assoc]
  · rw [List.getElem?_eq_none (by rw [List.length_take]; omega), List.getElem?_eq_none (by rw [fnA_len]; omega)]
theorem fnA_congr {c c' : Nat → UInt8} {a n : Nat} (h : ∀ i, a ≤ i → i < a + n → c i = c' i) : fnA c a n = fnA c' a n := by
  unfold fnA
  refine List.map_congr_left fun i hi => ?_
  rw [List.mem_range'_1] at hi
  exact h i hi.1 hi.2

/-! ### more laws -/
theorem fits_of_put {l : List S33} {a : Int} {d : ByteArray} (h : (putR l a d).2 = 0) : Valid (putR l a d).1 ∧ (∀ i, cont (putR l a d).1 i = mixC (cont l) a (a + d.size) d.data.toList i) := by
  obtain ⟨hv, h0, h1⟩ := put_iff h
  obtain ⟨P, e, h2, h3⟩ := put_ok hv h0 h1
  rw [e]
  exact ⟨h2, h3⟩
theorem toList_eq {a b : ByteArray} : a.toList = b.toList ↔ a = b := by
  rw [Lib.toList_data, Lib.toList_data]
  exact ⟨ba_ext, fun h => by rw [h]⟩
theorem all_eq {c c' : Nat → UInt8} {a n : Nat} : (⟨(fnA c a n).toArray⟩ : ByteArray) = ⟨(fnA c' a n).toArray⟩ ↔ ∀ i, a ≤ i → i < a + n → c i = c' i := by
  constructor
  · intro h i h1 h2
    have h3 : fnA c a n = fnA c' a n := by
      have := congrArg (fun x : ByteArray => x.data.toList) h
      exact this
    have h4 := fnA_get c a n (i - a) (by omega)
    have h5 := fnA_get c' a n (i - a) (by omega)
    rw [h3] at h4
    rw [h4] at h5
    have := Option.some.inj h5
    rwa [show a + (i - a) = i by omega] at this
  · intro h; rw [fnA_congr h]
theorem of_all {l : List S33} (hv : Valid l) : sparse_Of.f ⟨(fnA (cont l) 0 65536).toArray⟩ = some (l, 0) := by
  rw [of_some]
  unfold ofR
  rw [all_len, if_neg (by omega)]
  have e : jAdd [] 0 (⟨(fnA (cont l) 0 65536).toArray⟩ : ByteArray).data.toList = l := by
    have := canon hv 65536 (by have := lastEnd_ge l hv; omega)
    unfold addFn at this
    exact this
  rw [e]
theorem mixC_at (c : Nat → UInt8) (a : Int) (n : Nat) (d : ByteArray) (hn : d.size = n) (i : Nat) :
    mixC c a (a + d.size) d.data.toList i = if a ≤ i ∧ (i : Int) < a + n then d.data.toList.getD ((i : Int) - a).toNat 0 else c i := by
  have hds := Lib.size_eq d
  unfold mixC
  by_cases h1 : (i : Int) < a
  · rw [if_pos h1, if_neg (by omega)]
  · by_cases h2 : (i : Int) < a + n
    · rw [if_neg h1, if_pos (by omega), if_pos (by omega)]
    · rw [if_neg h1, if_neg (by omega), if_pos (by omega), if_neg (by omega)]
/-- A list of runs that comes in. -/
theorem o33 : Op.Opens Try.prog 22 (Kd.slice 33 k33) Fits :=
  Op.opens_imp (Op.opens_slice Try.underlying22 (by kernel_rfl) (B := 24) (by kernel_rfl)
    (Op.opens_iso (T := fun r : S33 => r.f1.size ≤ 140737488351232) (fun x => ⟨x.1, x.2⟩) (fun _ => rfl) (fun _ h => h.2)
      (Op.opens_struct Try.underlying33 (by kernel_rfl) (Op.opensAt_cons rfl (by kernel_rfl) (Op.opens_int Try.underlying3) (Op.opensAt_last rfl (by kernel_rfl) (Op.opens_string Try.underlying9))))))
    (fun l h => ⟨by omega, h.2⟩)
end Go.Proofs.Ytdobcojmfhdinaa.SpPure
