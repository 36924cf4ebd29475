/- Runs, byte by byte: what a list of runs holds (cont), the one right form (Valid), how a list of runs is built up byte by byte; in plain Lean, no program walked. -/
import Derived.Test.YtdobcojmfhdinaaPr8
namespace Go.Proofs.Ytdobcojmfhdinaa.SpPure
open Go.RowKit Go.Proofs.YtdobcojmfhdinaaW.PrintWords Go.Proofs.Ytdobcojmfhdinaa.Pr
set_option linter.unusedVariables false
set_option linter.unusedSimpArgs false

abbrev bs (r : S33) : List UInt8 := r.f1.data.toList
abbrev en (r : S33) : Int := r.f0 + r.f1.size
theorem size_bs (r : S33) : r.f1.size = (bs r).length := Lib.size_eq _

/-! ### jAdd -/
theorem jAdd_append (rs : List S33) : ∀ (x : Int) (a b : List UInt8), jAdd rs x (a ++ b) = jAdd (jAdd rs x a) (x + a.length) b := by
  intro x a
  induction a generalizing rs x with
  | nil => intro b; simp [jAdd]
  | cons c a ih => intro b; simp only [List.cons_append, jAdd, ih, List.length_cons]; congr 1; push_cast; omega
theorem jAdd_zeros (rs : List S33) (x : Int) (a : List UInt8) (h : ∀ c ∈ a, c = 0) : jAdd rs x a = rs := by
  induction a generalizing x with
  | nil => rfl
  | cons c a ih =>
    have hc := h c List.mem_cons_self
    subst hc
    simp only [jAdd, jPush, if_pos]
    exact ih _ (fun d hd => h d (List.mem_cons_of_mem _ hd))
/-- the bytes of c from lo up to hi are added -/
def addFn (rs : List S33) (c : Nat → UInt8) (lo hi : Nat) : List S33 := jAdd rs lo ((List.range' lo (hi - lo)).map c)
theorem addFn_split (rs : List S33) (c : Nat → UInt8) {lo mid hi : Nat} (h1 : lo ≤ mid) (h2 : mid ≤ hi) : addFn rs c lo hi = addFn (addFn rs c lo mid) c mid hi := by
  unfold addFn
  have e : hi - lo = (mid - lo) + (hi - mid) := by omega
  rw [e, ← List.range'_append_1, List.map_append, jAdd_append, List.length_map, List.length_range']
  rw [show lo + (mid - lo) = mid by omega, show (lo : Int) + ((mid - lo : Nat) : Int) = (mid : Int) by omega]
theorem addFn_zero (rs : List S33) (c : Nat → UInt8) (lo hi : Nat) (h : ∀ i, lo ≤ i → i < hi → c i = 0) : addFn rs c lo hi = rs := by
  refine jAdd_zeros _ _ _ fun d hd => ?_
  obtain ⟨i, hi, rfl⟩ := List.mem_map.1 hd
  rw [List.mem_range'_1] at hi
  exact h i hi.1 (by omega)
theorem addFn_congr (rs : List S33) (c c' : Nat → UInt8) (lo hi : Nat) (h : ∀ i, lo ≤ i → i < hi → c i = c' i) : addFn rs c lo hi = addFn rs c' lo hi := by
  unfold addFn
  congr 1
  refine List.map_congr_left fun i hi => ?_
  rw [List.mem_range'_1] at hi
  exact h i hi.1 (by omega)
theorem addFn_self (rs : List S33) (c : Nat → UInt8) (lo hi : Nat) (h : hi ≤ lo) : addFn rs c lo hi = rs := by
  unfold addFn; rw [show hi - lo = 0 by omega]; rfl
/-- bytes that are at hand, as a function's -/
theorem jAdd_fn (rs : List S33) (x : Int) (lo : Nat) (a : List UInt8) (c : Nat → UInt8) (hx : x = lo) (h : ∀ i (hi : i < a.length), c (lo + i) = a[i]) : jAdd rs x a = addFn rs c lo (lo + a.length) := by
  subst hx
  unfold addFn
  congr 1
  rw [show lo + a.length - lo = a.length by omega]
  apply List.ext_getElem
  · simp
  · intro i h1 h2
    simp only [List.getElem_map, List.getElem_range']
    rw [Nat.one_mul, h i h1]

/-! ### right lists -/
def vFrom : Int → List S33 → Prop
  | _, [] => True
  | last, r :: l => last < r.f0 ∧ bs r ≠ [] ∧ en r ≤ 65536 ∧ (∀ c ∈ bs r, c ≠ 0) ∧ vFrom (en r) l
def lastEnd (l : List S33) : Int := match l.getLast? with | some r => en r | none => -1
def Valid (l : List S33) : Prop := vFrom (-1) l
theorem vFrom_snoc : ∀ (last : Int) (l : List S33) (r : S33), vFrom last (l ++ [r]) ↔ vFrom last l ∧ (match l.getLast? with | some q => en q | none => last) < r.f0 ∧ bs r ≠ [] ∧ en r ≤ 65536 ∧ (∀ c ∈ bs r, c ≠ 0)
  | last, [], r => by simp [vFrom]
  | last, q :: l, r => by
    have ih := vFrom_snoc (en q) l r
    simp only [List.cons_append, vFrom, ih]
    cases l with
    | nil => simp [and_assoc, vFrom]
    | cons p l =>
      obtain ⟨z, hz⟩ : ∃ z, (p :: l).getLast? = some z := ⟨_, List.getLast?_eq_some_getLast (by simp)⟩
      rw [List.getLast?_cons_cons, hz]
      simp [and_assoc]
theorem Valid_snoc (l : List S33) (r : S33) : Valid (l ++ [r]) ↔ Valid l ∧ lastEnd l < r.f0 ∧ bs r ≠ [] ∧ en r ≤ 65536 ∧ (∀ c ∈ bs r, c ≠ 0) := by
  unfold Valid lastEnd
  rw [vFrom_snoc]
theorem lastEnd_snoc (l : List S33) (r : S33) : lastEnd (l ++ [r]) = en r := by simp [lastEnd]
theorem snoc_ind {α : Type} {P : List α → Prop} (h0 : P []) (h1 : ∀ l a, P l → P (l ++ [a])) (l : List α) : P l := by
  have key : ∀ m : List α, P m.reverse := by
    intro m
    induction m with
    | nil => exact h0
    | cons a m ih => rw [List.reverse_cons]; exact h1 _ _ ih
  have := key l.reverse
  rwa [List.reverse_reverse] at this
theorem bs_pos {r : S33} (h : bs r ≠ []) : 0 < r.f1.size := by
  rw [size_bs]; exact List.length_pos_iff.2 h
theorem lastEnd_ge (l : List S33) : Valid l → -1 ≤ lastEnd l ∧ lastEnd l ≤ 65536 := by
  refine snoc_ind (P := fun l => Valid l → -1 ≤ lastEnd l ∧ lastEnd l ≤ 65536) ?_ ?_ l
  · intro _; simp [lastEnd]
  · intro l r ih h
    rw [lastEnd_snoc]
    rw [Valid_snoc] at h
    obtain ⟨h1, h2, h3, h4, h5⟩ := h
    have := (ih h1).1
    have := bs_pos h3
    refine ⟨?_, h4⟩
    show -1 ≤ r.f0 + (r.f1.size : Int)
    omega
/-! ### what a list tells of a place -/
def cov (r : S33) (i : Nat) : Prop := r.f0 ≤ i ∧ (i : Int) < en r
instance (r : S33) (i : Nat) : Decidable (cov r i) := by unfold cov; infer_instance
def byteOf (r : S33) (i : Nat) : UInt8 := (bs r).getD ((i : Int) - r.f0).toNat 0
def cont : List S33 → Nat → UInt8
  | [], _ => 0
  | r :: l, i => if cov r i then byteOf r i else cont l i
theorem cont_append (l m : List S33) (i : Nat) (h : ∀ q ∈ l, ¬ cov q i) : cont (l ++ m) i = cont m i := by
  induction l with
  | nil => rfl
  | cons q l ih => simp only [List.cons_append, cont]; rw [if_neg (h q List.mem_cons_self)]; exact ih (fun p hp => h p (List.mem_cons_of_mem _ hp))
theorem cont_left (l m : List S33) (i : Nat) (h : ∀ q ∈ m, ¬ cov q i) : cont (l ++ m) i = cont l i := by
  induction l with
  | nil =>
    simp only [List.nil_append, cont]
    induction m with
    | nil => rfl
    | cons q m ih => simp only [cont]; rw [if_neg (h q List.mem_cons_self)]; exact ih (fun p hp => h p (List.mem_cons_of_mem _ hp))
  | cons q l ih =>
    simp only [List.cons_append, cont]
    split
    · rfl
    · exact ih
theorem mem_end {l : List S33} : Valid l → ∀ q ∈ l, 0 ≤ q.f0 ∧ en q ≤ lastEnd l := by
  refine snoc_ind (P := fun l => Valid l → ∀ q ∈ l, 0 ≤ q.f0 ∧ en q ≤ lastEnd l) ?_ ?_ l
  · intro _ q hq; cases hq
  · intro l r ih h q hq
    rw [lastEnd_snoc]
    rw [Valid_snoc] at h
    obtain ⟨h1, h2, h3, h4, h5⟩ := h
    have h6 := (lastEnd_ge l h1).1
    have h7 := bs_pos h3
    rcases List.mem_append.1 hq with hq | hq
    · have := ih h1 q hq
      refine ⟨this.1, ?_⟩
      show en q ≤ r.f0 + (r.f1.size : Int)
      omega
    · rw [List.mem_singleton.1 hq]
      exact ⟨by omega, Int.le_refl _⟩
theorem Valid_good {l : List S33} (h : Valid l) : jGood l := by
  intro q hq
  have := mem_end h q hq
  have := lastEnd_ge l h
  exact ⟨by omega, by show en q ≤ 65536; omega⟩
theorem cont_beyond {l : List S33} (h : Valid l) (i : Nat) (hi : lastEnd l ≤ i) : cont l i = 0 := by
  have := cont_append l [] i (fun q hq hc => by have := (mem_end h q hq).2; have := hc.2; omega)
  rw [List.append_nil] at this
  rw [this]; rfl
theorem cont_snoc_lt {l : List S33} {r : S33} (i : Nat) (hi : (i : Int) < r.f0) : cont (l ++ [r]) i = cont l i :=
  cont_left _ _ _ (fun q hq hc => by rw [List.mem_singleton.1 hq] at hc; have := hc.1; omega)
theorem cont_snoc_in {l : List S33} {r : S33} (h : Valid (l ++ [r])) (i : Nat) (hi : cov r i) : cont (l ++ [r]) i = byteOf r i := by
  rw [Valid_snoc] at h
  rw [cont_append _ _ _ (fun q hq hc => by have := (mem_end h.1 q hq).2; have := hc.2; have := hi.1; omega)]
  simp only [cont]; rw [if_pos hi]
theorem byteOf_at (r : S33) (lo : Nat) (hlo : r.f0 = lo) (i : Nat) (hi : i < (bs r).length) : byteOf r (lo + i) = (bs r)[i] := by
  unfold byteOf
  rw [hlo, show (((lo + i : Nat) : Int) - (lo : Int)).toNat = i by omega, List.getD_eq_getElem?_getD, List.getElem?_eq_getElem hi]; rfl

/-- a right list is what is gathered of what it tells -/
theorem canon {l : List S33} : Valid l → ∀ E : Nat, lastEnd l ≤ E → addFn [] (cont l) 0 E = l := by
  refine snoc_ind (P := fun l => Valid l → ∀ E : Nat, lastEnd l ≤ E → addFn [] (cont l) 0 E = l) ?_ ?_ l
  · intro _ E _; exact addFn_zero _ _ _ _ (fun i _ _ => rfl)
  · intro l r ih h E hE
    have hv := (Valid_snoc l r).1 h
    obtain ⟨h1, h2, h3, h4, h5⟩ := hv
    have h6 := (lastEnd_ge l h1).1
    rw [lastEnd_snoc] at hE
    have h7 := bs_pos h3
    have h8 : en r = r.f0 + (r.f1.size : Int) := rfl
    obtain ⟨lo, hlo⟩ : ∃ lo : Nat, r.f0 = lo := ⟨r.f0.toNat, by omega⟩
    have hsz := size_bs r
    rw [addFn_split [] _ (lo := 0) (mid := lo) (hi := E) (by omega) (by omega)]
    rw [addFn_congr [] _ (cont l) 0 lo (fun i _ hi => cont_snoc_lt i (by omega)), ih h1 lo (by omega)]
    rw [addFn_split l _ (lo := lo) (mid := lo + (bs r).length) (hi := E) (by omega) (by omega)]
    have e1 : addFn l (cont (l ++ [r])) lo (lo + (bs r).length) = l ++ [r] := by
      rw [← jAdd_fn l r.f0 lo (bs r) _ hlo (fun i hi => by rw [cont_snoc_in h _ ⟨by omega, by omega⟩, byteOf_at r lo hlo i hi])]
      have := jAdd_chunk l r.f0 r.f1 [] h7 h5
      rw [List.append_nil] at this
      rw [this]
      have hne : ∀ q, l.getLast? = some q → ¬ q.f0 + (q.f1.size : Int) = r.f0 := by
        intro q hq
        have : lastEnd l = en q := by unfold lastEnd; rw [hq]
        have h9 : en q = q.f0 + (q.f1.size : Int) := rfl
        omega
      simp only [jAdd, jChunk]
      cases hg : l.getLast? with
      | none => rfl
      | some q => simp only; rw [if_neg (hne q hg)]
    rw [e1]
    refine addFn_zero _ _ _ _ fun i hi _ => cont_beyond h i ?_
    rw [lastEnd_snoc]; omega

/-! ### adding keeps right, and tells what was added -/
theorem jPush_ok {l : List S33} {x : Nat} {c : UInt8} (h : Valid l) (hx : lastEnd l ≤ x) (hx1 : x + 1 ≤ 65536) :
    Valid (jPush l x c) ∧ lastEnd (jPush l x c) ≤ x + 1 ∧ ∀ i, cont (jPush l x c) i = if i = x then c else cont l i := by
  unfold jPush
  by_cases hc : c = 0
  · rw [if_pos hc]
    refine ⟨h, by omega, fun i => ?_⟩
    split
    · rename_i he; subst he; rw [hc]; exact cont_beyond h i hx
    · rfl
  rw [if_neg hc]
  have e1 : ((⟨#[c]⟩ : ByteArray).size : Int) = 1 := rfl
  have e2 : (⟨#[c]⟩ : ByteArray).data.toList = [c] := rfl
  have fresh : lastEnd l < x → Valid (l ++ [(⟨x, ⟨#[c]⟩⟩ : S33)]) ∧ lastEnd (l ++ [(⟨x, ⟨#[c]⟩⟩ : S33)]) ≤ x + 1 ∧ ∀ i, cont (l ++ [(⟨x, ⟨#[c]⟩⟩ : S33)]) i = if i = x then c else cont l i := by
    intro hlt
    have hv : Valid (l ++ [(⟨x, ⟨#[c]⟩⟩ : S33)]) := by
      rw [Valid_snoc]
      refine ⟨h, hlt, by simp [bs, e2], ?_, ?_⟩
      · show (x : Int) + ((⟨#[c]⟩ : ByteArray).size : Int) ≤ 65536
        rw [e1]; omega
      · intro d hd
        have : d = c := by simpa [bs, e2] using hd
        rw [this]; exact hc
    refine ⟨hv, by rw [lastEnd_snoc]; show (x : Int) + ((⟨#[c]⟩ : ByteArray).size : Int) ≤ _; rw [e1]; omega, fun i => ?_⟩
    by_cases hi : i = x
    · subst hi
      rw [if_pos rfl, cont_snoc_in hv i ⟨Int.le_refl _, by show (i : Int) < (i : Int) + ((⟨#[c]⟩ : ByteArray).size : Int); rw [e1]; omega⟩]
      unfold byteOf bs
      rw [e2]; simp
    · rw [if_neg hi]
      refine cont_left _ _ _ (fun q hq hcv => ?_)
      rw [List.mem_singleton.1 hq] at hcv
      have h1 := hcv.1
      have h2 := hcv.2
      have h3 : en (⟨x, ⟨#[c]⟩⟩ : S33) = (x : Int) + 1 := rfl
      simp only at h1
      omega
  cases hg : l.getLast? with
  | none =>
    simp only
    refine fresh ?_
    have : lastEnd l = -1 := by unfold lastEnd; rw [hg]
    omega
  | some r =>
    simp only
    have hle : lastEnd l = en r := by unfold lastEnd; rw [hg]
    by_cases ht : r.f0 + (r.f1.size : Int) = x
    · rw [if_pos ht]
      have hne : l ≠ [] := by intro h0; rw [h0] at hg; simp at hg
      have hl : l = l.dropLast ++ [r] := by
        have h2 := List.dropLast_concat_getLast hne
        rw [List.getLast?_eq_some_getLast hne] at hg
        rw [Option.some.inj hg] at h2
        exact h2.symm
      generalize l.dropLast = q at hl
      subst hl
      have hv0 := (Valid_snoc q r).1 h
      obtain ⟨h1, h2, h3, h4, h5⟩ := hv0
      have e3 : (⟨r.f0, r.f1 ++ ⟨#[c]⟩⟩ : S33).f1.data.toList = bs r ++ [c] := by simp [bs]
      have e4 : en (⟨r.f0, r.f1 ++ ⟨#[c]⟩⟩ : S33) = (x : Int) + 1 := by
        show r.f0 + ((r.f1 ++ ⟨#[c]⟩ : ByteArray).size : Int) = _
        rw [ba_size_append]
        have : (⟨#[c]⟩ : ByteArray).size = 1 := rfl
        rw [this]; push_cast; omega
      have hv : Valid (q ++ [(⟨r.f0, r.f1 ++ ⟨#[c]⟩⟩ : S33)]) := by
        rw [Valid_snoc]
        refine ⟨h1, h2, by rw [bs, e3]; simp, by rw [e4]; omega, fun d hd => ?_⟩
        rw [bs, e3] at hd
        rcases List.mem_append.1 hd with hd | hd
        · exact h5 d hd
        · rw [List.mem_singleton.1 hd]; exact hc
      refine ⟨hv, by rw [lastEnd_snoc, e4]; omega, fun i => ?_⟩
      have hq := lastEnd_ge q h1
      have hsz := size_bs r
      have her : en r = x := ht
      by_cases hlo : (i : Int) < r.f0
      · rw [cont_snoc_lt (r := ⟨r.f0, r.f1 ++ ⟨#[c]⟩⟩) i hlo, if_neg (by omega), cont_snoc_lt i hlo]
      · by_cases hi : i = x
        · subst hi
          rw [if_pos rfl, cont_snoc_in hv i ⟨by show r.f0 ≤ (i : Int); omega, by rw [e4]; omega⟩]
          unfold byteOf
          rw [bs, e3, show ((i : Int) - (⟨r.f0, r.f1 ++ ⟨#[c]⟩⟩ : S33).f0).toNat = (bs r).length by show ((i : Int) - r.f0).toNat = _; omega]
          simp
        · rw [if_neg hi]
          by_cases hi2 : (i : Int) < x
          · rw [cont_snoc_in hv i ⟨by show r.f0 ≤ (i : Int); omega, by rw [e4]; omega⟩, cont_snoc_in h i ⟨by omega, by omega⟩]
            unfold byteOf
            rw [bs, e3]
            show (bs r ++ [c]).getD ((i : Int) - r.f0).toNat 0 = _
            rw [List.getD_eq_getElem?_getD, List.getElem?_append_left (by omega), List.getD_eq_getElem?_getD]
          · rw [cont_beyond hv i (by rw [lastEnd_snoc, e4]; omega), cont_beyond h i (by rw [lastEnd_snoc]; omega)]
    · rw [if_neg ht]
      refine fresh ?_
      have : en r = r.f0 + (r.f1.size : Int) := rfl
      omega
theorem jAdd_ok : ∀ (a : List UInt8) {l : List S33} {x : Nat}, Valid l → lastEnd l ≤ x → x + a.length ≤ 65536 →
    Valid (jAdd l x a) ∧ lastEnd (jAdd l x a) ≤ x + a.length ∧ ∀ i, cont (jAdd l x a) i = if x ≤ i ∧ i < x + a.length then a.getD (i - x) 0 else cont l i
  | [], l, x, h, hx, _ => ⟨h, by simpa [jAdd] using hx, fun i => by simp only [jAdd, List.length_nil]; rw [if_neg (by omega)]⟩
  | c :: a, l, x, h, hx, hl => by
    rw [List.length_cons] at hl
    obtain ⟨h1, h2, h3⟩ := jPush_ok (c := c) h hx (by omega)
    obtain ⟨h4, h5, h6⟩ := jAdd_ok a (l := jPush l x c) (x := x + 1) h1 (by push_cast; omega) (by omega)
    have e : jAdd l (x : Int) (c :: a) = jAdd (jPush l x c) ((x + 1 : Nat) : Int) a := by rw [jAdd]; push_cast; rfl
    rw [e, List.length_cons]
    refine ⟨h4, by push_cast at h5 ⊢; omega, fun i => ?_⟩
    rw [h6 i, h3 i]
    by_cases hi : i = x
    · subst hi
      rw [if_neg (by omega), if_pos rfl, if_pos (by omega)]
      simp
    · rw [if_neg hi]
      by_cases hi2 : x + 1 ≤ i ∧ i < x + 1 + a.length
      · rw [if_pos hi2, if_pos (by omega)]
        obtain ⟨j, hj⟩ : ∃ j, i - x = j + 1 := ⟨i - x - 1, by omega⟩
        rw [hj, show i - (x + 1) = j by omega]
        simp
      · rw [if_neg hi2, if_neg (by omega)]
/-- what is gathered of a function -/
theorem gather_ok (c : Nat → UInt8) (N : Nat) (hN : N ≤ 65536) : Valid (addFn [] c 0 N) ∧ lastEnd (addFn [] c 0 N) ≤ N ∧ ∀ i, cont (addFn [] c 0 N) i = if i < N then c i else 0 := by
  obtain ⟨h1, h2, h3⟩ := jAdd_ok ((List.range' 0 (N - 0)).map c) (l := []) (x := 0) (by simp [Valid, vFrom]) (by simp [lastEnd]) (by simpa using hN)
  refine ⟨h1, by unfold addFn; simpa using h2, fun i => ?_⟩
  have := h3 i
  simp only [List.length_map, List.length_range', Nat.sub_zero, Nat.zero_le, true_and, Nat.zero_add] at this
  unfold addFn
  rw [Nat.sub_zero]
  refine this.trans ?_
  split
  · rename_i hi
    rw [List.getD_eq_getElem?_getD, List.getElem?_map, List.getElem?_range' hi]; simp
  · rfl
theorem addFn_any (c : Nat → UInt8) {N M : Nat} (h : ∀ i, N ≤ i → c i = 0) (hM : N ≤ M) : addFn [] c 0 M = addFn [] c 0 N := by
  rw [addFn_split [] c (Nat.zero_le N) hM]
  exact addFn_zero _ _ _ _ (fun i hi _ => h i hi)

/-! ### the parts of a list -/
theorem jPart_fn {rs : List S33} {r : S33} {a b : Int} (h0 : 0 ≤ r.f0) (ha : 0 ≤ a) (c : Nat → UInt8) {lo hi : Nat} (hlo : (lo : Int) ≤ r.f0) (hhi : en r ≤ hi)
    (hc : ∀ i : Nat, lo ≤ i → i < hi → c i = if a ≤ i ∧ (i : Int) < b ∧ cov r i then byteOf r i else 0) : jPart rs r.f0 r.f1 a b = addFn rs c lo hi := by
  unfold jPart
  have hsz := size_bs r
  have hen : en r = r.f0 + (r.f1.size : Int) := rfl
  have m1 : a ≤ mx a r.f0 := by unfold mx; split <;> omega
  have m2 : r.f0 ≤ mx a r.f0 := by unfold mx; split <;> omega
  have m3 : mx a r.f0 = a ∨ mx a r.f0 = r.f0 := by unfold mx; split <;> simp
  have n1 : mn b (r.f0 + r.f1.size) ≤ b := by unfold mn; split <;> omega
  have n2 : mn b (r.f0 + r.f1.size) ≤ en r := by unfold mn; split <;> omega
  have n3 : mn b (r.f0 + r.f1.size) = b ∨ mn b (r.f0 + r.f1.size) = en r := by unfold mn; split <;> simp [hen]
  generalize mx a r.f0 = M at *
  generalize mn b (r.f0 + r.f1.size) = N at *
  by_cases hlt : M < N
  · rw [if_pos hlt]
    obtain ⟨p, hp⟩ : ∃ p : Nat, M = p := ⟨M.toNat, by omega⟩
    obtain ⟨q, hq⟩ : ∃ q : Nat, N = q := ⟨N.toNat, by omega⟩
    have he : (r.f1.extract (M - r.f0).toNat (N - r.f0).toNat).data.toList = ((bs r).drop (M - r.f0).toNat).take ((N - r.f0).toNat - (M - r.f0).toNat) := Lib.extract_data _ _ _
    have hl : (r.f1.extract (M - r.f0).toNat (N - r.f0).toNat).data.toList.length = q - p := by rw [he, List.length_take, List.length_drop]; omega
    rw [addFn_split rs c (lo := lo) (mid := p) (hi := hi) (by omega) (by omega), addFn_zero rs c lo p (fun i h1 h2 => by rw [hc i h1 (by omega), if_neg (by unfold cov; omega)])]
    rw [addFn_split rs c (lo := p) (mid := p + (q - p)) (hi := hi) (by omega) (by omega), addFn_zero _ c (p + (q - p)) hi (fun i h1 h2 => by rw [hc i (by omega) h2, if_neg (by unfold cov; omega)])]
    rw [jAdd_fn rs M p _ c hp (fun i hi2 => ?_), hl]
    rw [hl] at hi2
    rw [hc (p + i) (by omega) (by omega), if_pos (by unfold cov; omega)]
    unfold byteOf
    rw [List.getD_eq_getElem?_getD]
    simp only [he, List.getElem_take, List.getElem_drop]
    rw [show (((p + i : Nat) : Int) - r.f0).toNat = (M - r.f0).toNat + i by omega, List.getElem?_eq_getElem (by omega)]
    rfl
  · rw [if_neg hlt]
    exact (addFn_zero rs c lo hi (fun i h1 h2 => by rw [hc i h1 h2, if_neg (by unfold cov; omega)])).symm
theorem jFold_snoc (rs l : List S33) (r : S33) (a b : Int) : jFold rs (l ++ [r]) a b = jPart (jFold rs l a b) r.f0 r.f1 a b := by simp [jFold, List.foldl_append]
/-- of all runs what lies between a and b, behind what is there -/
theorem jFold_fn (rs : List S33) {l : List S33} (a b : Int) (lo : Nat) (ha : 0 ≤ a) (hlo : (lo : Int) ≤ a) : Valid l → ∀ E : Nat, lo ≤ E → lastEnd l ≤ E →
    jFold rs l a b = addFn rs (fun i => if a ≤ i ∧ (i : Int) < b then cont l i else 0) lo E := by
  refine snoc_ind (P := fun l => Valid l → ∀ E : Nat, lo ≤ E → lastEnd l ≤ E → jFold rs l a b = addFn rs (fun i => if a ≤ i ∧ (i : Int) < b then cont l i else 0) lo E) ?_ ?_ l
  · intro _ E _ _
    refine (addFn_zero _ _ _ _ (fun i _ _ => ?_)).symm
    simp [cont]
  · intro l r ih h E hlE hE
    have hv := (Valid_snoc l r).1 h
    obtain ⟨h1, h2, h3, h4, h5⟩ := hv
    have h6 := (lastEnd_ge l h1).1
    have h7 := bs_pos h3
    rw [lastEnd_snoc] at hE
    have h8 : en r = r.f0 + (r.f1.size : Int) := rfl
    rw [jFold_snoc]
    obtain ⟨q, hq⟩ : ∃ q : Nat, r.f0 = q := ⟨r.f0.toNat, by omega⟩
    by_cases hqlo : lo ≤ q
    · rw [ih h1 q hqlo (by omega)]
      rw [addFn_split rs _ (lo := lo) (mid := q) (hi := E) hqlo (by omega)]
      rw [addFn_congr rs (fun i => if a ≤ i ∧ (i : Int) < b then cont (l ++ [r]) i else 0) (fun i => if a ≤ i ∧ (i : Int) < b then cont l i else 0) lo q (fun i _ hi => by rw [cont_snoc_lt i (by omega)])]
      refine jPart_fn (by omega) ha _ (by omega) (by omega) (fun i h9 h10 => ?_)
      by_cases hcv : cov r i
      · rw [cont_snoc_in h i hcv]
        by_cases hab : a ≤ i ∧ (i : Int) < b
        · rw [if_pos hab, if_pos ⟨hab.1, hab.2, hcv⟩]
        · rw [if_neg hab, if_neg (fun hx => hab ⟨hx.1, hx.2.1⟩)]
      · rw [cont_beyond h i (by rw [lastEnd_snoc]; unfold cov at hcv; omega)]
        simp [hcv]
    · -- the run begins below lo: nothing of the runs ahead of it is taken
      have hnone : jFold rs l a b = rs := by
        rw [ih h1 lo (Nat.le_refl _) (by omega), addFn_self _ _ _ _ (Nat.le_refl _)]
      rw [hnone]
      -- as if from q on
      have e1 : addFn rs (fun i => if a ≤ i ∧ (i : Int) < b then cont (l ++ [r]) i else 0) q E = addFn rs (fun i => if a ≤ i ∧ (i : Int) < b then cont (l ++ [r]) i else 0) lo E := by
        rw [addFn_split rs _ (lo := q) (mid := lo) (hi := E) (by omega) hlE]
        rw [addFn_zero rs _ q lo (fun i _ hi => by rw [if_neg (by omega)])]
      rw [← e1]
      refine jPart_fn (by omega) ha _ (by omega) (by omega) (fun i h9 h10 => ?_)
      by_cases hcv : cov r i
      · rw [cont_snoc_in h i hcv]
        by_cases hab : a ≤ i ∧ (i : Int) < b
        · rw [if_pos hab, if_pos ⟨hab.1, hab.2, hcv⟩]
        · rw [if_neg hab, if_neg (fun hx => hab ⟨hx.1, hx.2.1⟩)]
      · rw [cont_beyond h i (by rw [lastEnd_snoc]; unfold cov at hcv; omega)]
        simp [hcv]
/-- the content with other bytes from a on and what lies from b on -/
def mixC (c : Nat → UInt8) (a : Int) (b : Int) (d : List UInt8) (i : Nat) : UInt8 :=
  if (i : Int) < a then c i else if (i : Int) < a + d.length then d.getD ((i : Int) - a).toNat 0 else if b ≤ i then c i else 0
theorem without_fn {l : List S33} (h : Valid l) (a b : Int) (d : ByteArray) (ha : 0 ≤ a) (hb : a + d.size ≤ b) (hd : 0 < d.size → a + d.size ≤ 65536) :
    jWithout l a b d = addFn [] (mixC (cont l) a b d.data.toList) 0 65536 := by
  have hds : d.size = d.data.toList.length := Lib.size_eq d
  have hle := lastEnd_ge l h
  unfold jWithout
  by_cases hbig : 65536 < a
  · -- beyond all: nothing changes
    have hd0 : d.data.toList = [] := List.eq_nil_of_length_eq_zero (by
      rcases Nat.eq_zero_or_pos d.size with h0 | h0
      · omega
      · exact absurd (hd h0) (by omega))
    rw [hd0]
    simp only [jAdd]
    rw [jFold_fn [] 0 a 0 (Int.le_refl 0) (Int.le_refl 0) h 65536 (Nat.zero_le _) (by omega)]
    rw [jFold_fn _ b 65536 65536 (by omega) (by omega) h 65536 (Nat.le_refl _) (by omega), addFn_self _ _ _ _ (Nat.le_refl _)]
    refine addFn_congr _ _ _ _ _ (fun i _ hi => ?_)
    unfold mixC
    rw [if_pos (by omega), if_pos (by omega)]
  · obtain ⟨p, hp⟩ : ∃ p : Nat, a = p := ⟨a.toNat, by omega⟩
    subst hp
    rw [jFold_fn [] 0 (p : Int) 0 (Int.le_refl 0) (Int.le_refl 0) h 65536 (Nat.zero_le _) (by omega)]
    have e1 : addFn [] (fun i => if (0 : Int) ≤ i ∧ (i : Int) < p then cont l i else 0) 0 65536 = addFn [] (mixC (cont l) p b d.data.toList) 0 p := by
      rw [addFn_split [] _ (lo := 0) (mid := p) (hi := 65536) (Nat.zero_le _) (by omega)]
      rw [addFn_zero _ _ p 65536 (fun i hi _ => by rw [if_neg (by omega)])]
      refine addFn_congr _ _ _ _ _ (fun i _ hi => ?_)
      unfold mixC
      rw [if_pos (by omega), if_pos (by omega)]
    rw [e1, addFn_split [] (mixC (cont l) p b d.data.toList) (lo := 0) (mid := p) (hi := 65536) (Nat.zero_le _) (by omega)]
    generalize addFn [] (mixC (cont l) p b d.data.toList) 0 p = rs
    have hpd : p + d.size ≤ 65536 := by
      rcases Nat.eq_zero_or_pos d.size with h0 | h0
      · omega
      · have := hd h0; omega
    rw [addFn_split rs _ (lo := p) (mid := p + d.data.toList.length) (hi := 65536) (by omega) (by omega)]
    rw [jAdd_fn rs p p d.data.toList (mixC (cont l) p b d.data.toList) rfl (fun i hi => by
      unfold mixC
      rw [if_neg (by omega), if_pos (by omega), show (((p + i : Nat) : Int) - (p : Int)).toNat = i by omega, List.getD_eq_getElem?_getD, List.getElem?_eq_getElem hi]; rfl)]
    rw [jFold_fn _ b 65536 (p + d.data.toList.length) (by omega) (by omega) h 65536 (by omega) (by omega)]
    refine addFn_congr _ _ _ _ _ (fun i hi1 hi2 => ?_)
    unfold mixC
    rw [if_neg (by omega : ¬ ((i : Int) < p)), if_neg (by omega : ¬ ((i : Int) < p + d.data.toList.length))]
    by_cases hbi : b ≤ i
    · rw [if_pos ⟨hbi, by omega⟩, if_pos hbi]
    · rw [if_neg (fun hx => hbi hx.1), if_neg hbi]
end Go.Proofs.Ytdobcojmfhdinaa.SpPure
