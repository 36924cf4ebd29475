/- What each function that the laws over runs reach (the printed NAME.f) answers, in plain Lean over the content of runs; every length within the given bounds. -/
import Derived.Test.YtdobcojmfhdinaaSpPure
import Derived.Test.YtdobcojmfhdinaaPr4
import Derived.Test.YtdobcojmfhdinaaPr9
import Derived.Test.YtdobcojmfhdinaaPr10
import Derived.Test.YtdobcojmfhdinaaPr11
import Derived.Test.YtdobcojmfhdinaaPr12
import Derived.Test.YtdobcojmfhdinaaPr13
import Derived.Test.YtdobcojmfhdinaaPr14
import Derived.Test.YtdobcojmfhdinaaPr15
import Derived.Test.YtdobcojmfhdinaaPr16
import Derived.Test.YtdobcojmfhdinaaPr17
import Derived.Test.YtdobcojmfhdinaaPr18
import Derived.Test.YtdobcojmfhdinaaPr19
import Derived.Test.YtdobcojmfhdinaaPr20
import Derived.Test.YtdobcojmfhdinaaPr21
import Derived.Test.YtdobcojmfhdinaaPr24
import Derived.Test.YtdobcojmfhdinaaPr25
import Derived.Test.YtdobcojmfhdinaaPr26
namespace Go.Proofs.Ytdobcojmfhdinaa.SpPure
open Go.RowKit Go.Proofs.YtdobcojmfhdinaaW.PrintWords Go.Proofs.Ytdobcojmfhdinaa.Pr
set_option linter.unusedVariables false
set_option linter.unusedSimpArgs false

theorem alive_ev : Ev (fun k => undercroftlaw15_alive.f k) true := by
  refine Ev.of undercroftlaw15_alive.mono (k := 20) ?_
  decide +kernel
/-- 0 if so, else 1 -/
noncomputable def Z (P : Prop) : Int := open Classical in if P then 0 else 1
theorem Z_true {P : Prop} (h : P) : Z P = 0 := by unfold Z; rw [if_pos h]
theorem Z_false {P : Prop} (h : ¬ P) : Z P = 1 := by unfold Z; rw [if_neg h]
theorem Z_congr {P Q : Prop} (h : P ↔ Q) : Z P = Z Q := by rw [propext h]
theorem Z_zero {P : Prop} : Z P = 0 ↔ P := by
  by_cases h : P
  · exact ⟨fun _ => h, fun _ => Z_true h⟩
  · exact ⟨fun h0 => by rw [Z_false h] at h0; omega, fun h1 => absurd h1 h⟩
theorem Ev.succ {α : Type} {g : Nat → Option α} {r : α} (h : Ev (fun k => g (k + 1)) r) : Ev g r := Ev.step (fun _ => rfl) h
theorem w64 {n : Int} (h0 : -9223372036854775808 ≤ n) (h1 : n ≤ 9223372036854775807) : wrap64 n = n := by unfold wrap64; omega
theorem rd_at {l : List S33} {i : Nat} (h : i < l.length) : rd_T33 l (i : Int) = l[i] := by
  unfold rd_T33
  rw [Int.toNat_natCast, List.getD_eq_getElem?_getD, List.getElem?_eq_getElem h]; rfl
theorem toList_bs (r : S33) : r.f1.toList = bs r := Lib.toList_data r.f1
theorem indexByte_zero (l : List UInt8) : (Lib.indexByte l 0 ≥ 0) ↔ ¬ ∀ c ∈ l, c ≠ 0 := by
  constructor
  · intro h hn
    obtain ⟨o, ho⟩ : ∃ o : Nat, Lib.indexByte l 0 = o := ⟨(Lib.indexByte l 0).toNat, by omega⟩
    have := (Lib.indexByte_some ho).1
    exact hn 0 (List.mem_of_getElem? this) rfl
  · intro h
    refine Classical.byContradiction fun hc => h fun c hc2 h0 => ?_
    have := Lib.indexByte_ge l 0
    have h1 : Lib.indexByte l 0 = -1 := by omega
    obtain ⟨k, hk, rfl⟩ := List.getElem_of_mem hc2
    exact Lib.indexByte_none h1 k (by rw [List.getElem?_eq_getElem hk, h0])
theorem check_ev (l : List S33) (hl : l.length ≤ 4611686018427387904) : Ev (fun k => sparse_Check.f k l) (Z (Valid l)) := by
  have key : ∀ (n i : Nat) (last : Int), i + n = l.length → -1 ≤ last → last ≤ 65536 → Ev (fun k => sparse_Check.l0 k last l (l.length : Int) (i : Int)) (Z (vFrom last (l.drop i))) := by
    intro n
    induction n with
    | zero =>
      intro i last hi _ _
      refine Ev.succ ?_
      simp only [sparse_Check.l0]
      simp only [if_neg (show ¬ ((i : Int) < (l.length : Int)) by omega)]
      rw [List.drop_of_length_le (by omega)]
      rw [Z_true (by simp [vFrom])]
      exact Ev.now _
    | succ n ih =>
      intro i last hi h0 h1
      have hlt : i < l.length := by omega
      refine Ev.succ ?_
      simp only [sparse_Check.l0, rd_at hlt, toList_bs]
      simp only [if_pos (show (i : Int) < (l.length : Int) by omega), if_pos (show (0 : Int) ≤ (i : Int) by omega)]
      rw [List.drop_eq_getElem_cons hlt]
      generalize l[i] = r
      have hsz := size_bs r
      simp only [vFrom]
      have no : ∀ (P : Prop), ¬ P → Ev (fun _ : Nat => some (1 : Int)) (Z P) := fun P hP => by rw [Z_false hP]; exact Ev.now _
      by_cases c1 : r.f0 ≤ last
      · simp only [if_pos c1]; exact no _ (fun h => by omega)
      simp only [if_neg c1]
      by_cases c2 : bs r = []
      · simp only [if_pos c2]; exact no _ (fun h => h.2.1 c2)
      simp only [if_neg c2]
      have hp := bs_pos c2
      have hen : en r = r.f0 + (r.f1.size : Int) := rfl
      by_cases c3 : r.f0 ≥ 65536
      · simp only [if_pos c3]; exact no _ (fun h => by have := h.2.2.1; omega)
      simp only [if_neg c3, w64 (show -9223372036854775808 ≤ 65536 - r.f0 by omega) (show 65536 - r.f0 ≤ 9223372036854775807 by omega)]
      by_cases c4 : (r.f1.size : Int) > 65536 - r.f0
      · simp only [if_pos c4]; exact no _ (fun h => by have := h.2.2.1; omega)
      simp only [if_neg c4, strings_IndexByte.f, Option.bind_some]
      by_cases c5 : Lib.indexByte r.f1.data.toList (Int.toNat 0).toUInt8 ≥ 0
      · simp only [if_pos c5]; exact no _ (fun h => (indexByte_zero (bs r)).1 c5 h.2.2.2.1)
      simp only [if_neg c5, sparse_end.f, Option.bind_some]
      rw [w64 (show -9223372036854775808 ≤ r.f0 + (r.f1.size : Int) by omega) (by omega), w64 (show -9223372036854775808 ≤ (i : Int) + 1 by omega) (by omega)]
      have h5 : ∀ c ∈ bs r, c ≠ 0 := Classical.byContradiction fun hc => c5 ((indexByte_zero (bs r)).2 hc)
      have := ih (i + 1) (en r) (by omega) (by omega) (by omega)
      have e : (last < r.f0 ∧ bs r ≠ [] ∧ en r ≤ 65536 ∧ (∀ c ∈ bs r, c ≠ 0) ∧ vFrom (en r) (l.drop (i + 1))) ↔ vFrom (en r) (l.drop (i + 1)) :=
        ⟨fun h => h.2.2.2.2, fun h => ⟨by omega, c2, by omega, h5, h⟩⟩
      rw [Z_congr e, show (i : Int) + 1 = ((i + 1 : Nat) : Int) by omega]
      exact this
  have := key l.length 0 (-1) (by omega) (by omega) (by omega)
  unfold sparse_Check.f Valid
  simpa using this
theorem rcheck_ev (l : List S33) (hl : l.length ≤ 4611686018427387904) (hs : ∀ r ∈ l, r.f1.size ≤ 140737488351232) : Ev (fun k => undercroftref15_Check.f k l) (Z (Valid l)) := by
  have key : ∀ (n i : Nat) (last : Int), i + n = l.length → -1 ≤ last → last ≤ 65536 → Ev (fun k => undercroftref15_Check.l0 k l last (i : Int)) (Z (vFrom last (l.drop i))) := by
    intro n
    induction n with
    | zero =>
      intro i last hi _ _
      refine Ev.succ ?_
      simp only [undercroftref15_Check.l0]
      simp only [if_neg (show ¬ ((i : Int) < (l.length : Int)) by omega)]
      rw [List.drop_of_length_le (by omega)]
      rw [Z_true (by simp [vFrom])]
      exact Ev.now _
    | succ n ih =>
      intro i last hi h0 h1
      have hlt : i < l.length := by omega
      have ihn := fun last => ih (i + 1) last (by omega)
      refine Ev.succ ?_
      simp only [undercroftref15_Check.l0, rd_at hlt]
      simp only [if_pos (show (i : Int) < (l.length : Int) by omega), if_pos (show (0 : Int) ≤ (i : Int) by omega)]
      rw [List.drop_eq_getElem_cons hlt]
      have hrd := rd_at hlt
      have hsr := hs l[i] (List.getElem_mem hlt)
      generalize l[i] = r at *
      have hsz := size_bs r
      have hen : en r = r.f0 + (r.f1.size : Int) := rfl
      simp only [vFrom]
      have no : ∀ (P : Prop), ¬ P → Ev (fun k => undercroftref15_Check.j1 k l (i : Int) (r.f1.size : Int) true) (Z P) := fun P hP => by
        rw [Z_false hP]
        refine Ev.succ ?_
        simp only [undercroftref15_Check.j1, if_true]
        exact Ev.now _
      by_cases c1 : r.f0 ≤ last
      · simp only [if_pos c1]; exact no _ (fun h => by omega)
      simp only [if_neg c1]
      by_cases c2 : (r.f1.size : Int) = 0
      · simp only [if_pos c2]; exact no _ (fun h => by have := bs_pos h.2.1; omega)
      simp only [if_neg c2]
      have c2' : bs r ≠ [] := by
        intro hc; rw [hc] at hsz; exact c2 (by rw [hsz]; rfl)
      by_cases c3 : (r.f1.size : Int) > 65536
      · simp only [if_pos c3]; exact no _ (fun h => by have := h.2.2.1; omega)
      simp only [if_neg c3, w64 (show -9223372036854775808 ≤ 65536 - (r.f1.size : Int) by omega) (show 65536 - (r.f1.size : Int) ≤ 9223372036854775807 by omega)]
      by_cases c4 : r.f0 > 65536 - (r.f1.size : Int)
      · simp only [decide_eq_true c4]; exact no _ (fun h => by have := h.2.2.1; omega)
      simp only [decide_eq_false c4]
      refine Ev.succ ?_
      simp only [undercroftref15_Check.j1, Bool.false_eq_true, if_false]
      -- the bytes, one by one
      have inner : ∀ (m j : Nat), j + m = (bs r).length → (∀ c ∈ (bs r).take j, c ≠ 0) → Ev (fun k => undercroftref15_Check.l1 k l (i : Int) (r.f1.size : Int) (j : Int)) (Z (last < r.f0 ∧ bs r ≠ [] ∧ en r ≤ 65536 ∧ (∀ c ∈ bs r, c ≠ 0) ∧ vFrom (en r) (l.drop (i + 1)))) := by
        intro m
        induction m with
        | zero =>
          intro j hj hz
          refine Ev.succ ?_
          simp only [undercroftref15_Check.l1, hrd]
          simp only [if_neg (show ¬ ((j : Int) < (r.f1.size : Int)) by omega), if_pos (show (i : Int) < (l.length : Int) by omega), if_pos (show (0 : Int) ≤ (i : Int) by omega)]
          rw [w64 (show -9223372036854775808 ≤ r.f0 + (r.f1.size : Int) by omega) (by omega), w64 (show -9223372036854775808 ≤ (i : Int) + 1 by omega) (by omega)]
          rw [List.take_of_length_le (by omega)] at hz
          have e : (last < r.f0 ∧ bs r ≠ [] ∧ en r ≤ 65536 ∧ (∀ c ∈ bs r, c ≠ 0) ∧ vFrom (en r) (l.drop (i + 1))) ↔ vFrom (en r) (l.drop (i + 1)) :=
            ⟨fun h => h.2.2.2.2, fun h => ⟨by omega, c2', by omega, hz, h⟩⟩
          rw [Z_congr e, show (i : Int) + 1 = ((i + 1 : Nat) : Int) by omega]
          exact ihn (en r) (by omega) (by omega)
        | succ m ih2 =>
          intro j hj hz
          have hjl : j < (bs r).length := by omega
          have hbt : bt r.f1 (j : Int) = ((bs r)[j].toNat : Int) := by
            unfold bt
            rw [dif_pos (by rw [Int.toNat_natCast]; omega)]
            simp only [Int.toNat_natCast]
            rfl
          refine Ev.succ ?_
          simp only [undercroftref15_Check.l1, hrd, hbt]
          simp only [if_pos (show (j : Int) < (r.f1.size : Int) by omega), if_pos (show (i : Int) < (l.length : Int) by omega), if_pos (show (0 : Int) ≤ (i : Int) by omega), if_pos (show (0 : Int) ≤ (j : Int) by omega)]
          by_cases c6 : ((bs r)[j].toNat : Int) = 0
          · simp only [if_pos c6]
            rw [Z_false (fun h => h.2.2.2.1 (bs r)[j] (List.getElem_mem hjl) (by
              apply UInt8.toNat_inj.1
              have h0 : (0 : UInt8).toNat = 0 := rfl
              rw [h0]; omega))]
            exact Ev.now _
          · simp only [if_neg c6]
            rw [w64 (show -9223372036854775808 ≤ (j : Int) + 1 by omega) (by omega)]
            rw [show (j : Int) + 1 = ((j + 1 : Nat) : Int) by omega]
            have := ih2 (j + 1) (by omega) (fun c hc => by
              rw [List.take_succ_eq_append_getElem hjl] at hc
              rcases List.mem_append.1 hc with hc | hc
              · exact hz c hc
              · rw [List.mem_singleton.1 hc]; intro h0; rw [h0] at c6; exact c6 rfl)
            exact this
      exact inner (bs r).length 0 (by omega) (fun c hc => by simp at hc)
  have := key l.length 0 (-1) (by omega) (by omega) (by omega)
  unfold undercroftref15_Check.f Valid
  simpa using this
theorem same_ev (l m : List S33) (hl : l.length ≤ 4611686018427387904) [Decidable (l = m)] : Ev (fun k => undercroftref15_Same.f k l m) (decide (l = m)) := by
  unfold undercroftref15_Same.f
  by_cases h : l.length = m.length
  · simp only [if_pos (show (l.length : Int) = (m.length : Int) by omega)]
    have key : ∀ (n i : Nat), i + n = l.length → (∀ j, j < i → l[j]? = m[j]?) → Ev (fun k => undercroftref15_Same.l0 k l m (i : Int)) (decide (l = m)) := by
      intro n
      induction n with
      | zero =>
        intro i hi hj
        refine Ev.succ ?_
        simp only [undercroftref15_Same.l0]
        simp only [if_neg (show ¬ ((i : Int) < (l.length : Int)) by omega)]
        have : l = m := by
          apply List.ext_getElem?
          intro j
          by_cases hj2 : j < i
          · exact hj j hj2
          · rw [List.getElem?_eq_none (by omega), List.getElem?_eq_none (by omega)]
        rw [decide_eq_true this]
        exact Ev.now _
      | succ n ih =>
        intro i hi hj
        have h1 : i < l.length := by omega
        have h2 : i < m.length := by omega
        refine Ev.succ ?_
        simp only [undercroftref15_Same.l0, rd_at h1, rd_at h2]
        simp only [if_pos (show (i : Int) < (l.length : Int) by omega), if_pos (show (i : Int) < (m.length : Int) by omega), if_pos (show (0 : Int) ≤ (i : Int) by omega)]
        by_cases he : l[i] = m[i]
        · rw [he]
          simp only [beq_self_eq_true, Bool.not_true, Bool.or_self, Bool.false_eq_true, if_false]
          rw [w64 (show -9223372036854775808 ≤ (i : Int) + 1 by omega) (by omega)]
          have := ih (i + 1) (by omega) (fun j hj2 => by
            by_cases hji : j = i
            · subst hji; rw [List.getElem?_eq_getElem h1, List.getElem?_eq_getElem h2, he]
            · exact hj j (by omega))
          rw [show (i : Int) + 1 = ((i + 1 : Nat) : Int) by omega]
          exact this
        · have hb : (!(l[i].f0 == m[i].f0) || !(l[i].f1.toList == m[i].f1.toList)) = true := by
            refine Classical.byContradiction fun hc => he ?_
            have hc' : l[i].f0 = m[i].f0 ∧ l[i].f1.toList = m[i].f1.toList := by simpa using hc
            have h3 : l[i].f1 = m[i].f1 := ba_ext (by rw [← Lib.toList_data, ← Lib.toList_data]; exact hc'.2)
            cases hl2 : l[i]; cases hm2 : m[i]
            rw [hl2, hm2] at hc' h3
            simp only at hc' h3
            rw [hc'.1, h3]
          simp only [hb, if_true]
          rw [decide_eq_false (fun hlm => he (by subst hlm; rfl))]
          exact Ev.now _
    have := key l.length 0 (by omega) (fun j hj => by omega)
    exact this
  · simp only [if_neg (show ¬ ((l.length : Int) = (m.length : Int)) by omega)]
    rw [decide_eq_false (fun hlm => h (by rw [hlm]))]
    exact Ev.now _
/-- bytes as numbers -/
def ib (l : List UInt8) : List Int := l.map fun b => (b.toNat : Int)
theorem ib_len (l : List UInt8) : (ib l).length = l.length := by simp [ib]
theorem ib_get (l : List UInt8) (i : Nat) : (ib l)[i]? = l[i]?.map fun b => (b.toNat : Int) := by simp [ib]
theorem bytesOf_ib (s : ByteArray) : bytesOf s = ib s.data.toList := rfl
theorem str_ib (l : List UInt8) : strOfNums (ib l) = ⟨l.toArray⟩ := by
  unfold strOfNums ib
  rw [List.map_map]
  congr 1
  have : ((fun n : Int => UInt8.ofNat n.toNat) ∘ fun b : UInt8 => (b.toNat : Int)) = id := by
    funext b; simp
  rw [this, List.map_id]
theorem rd_ib {l : List UInt8} {i : Nat} (h : i < l.length) : rd (ib l) (i : Int) = (l[i].toNat : Int) := by
  unfold rd
  rw [Int.toNat_natCast, List.getD_eq_getElem?_getD, ib_get, List.getElem?_eq_getElem h]; rfl
def fnL (c : Nat → UInt8) (N : Nat) : List UInt8 := (List.range' 0 N).map c
theorem fnL_len (c : Nat → UInt8) (N : Nat) : (fnL c N).length = N := by simp [fnL]
theorem fnL_get (c : Nat → UInt8) (N i : Nat) (h : i < N) : (fnL c N)[i]? = some (c i) := by
  unfold fnL; rw [List.getElem?_map, List.getElem?_range' h]; simp
theorem jAdd_fnL (c : Nat → UInt8) (N : Nat) : jAdd [] 0 (fnL c N) = addFn [] c 0 N := by unfold addFn fnL; simp
theorem ib_fn {xs : List Int} {c : Nat → UInt8} {N : Nat} (hl : xs.length = N) (h : ∀ i, i < N → xs[i]? = some ((c i).toNat : Int)) : xs = ib (fnL c N) := by
  apply List.ext_getElem?
  intro i
  by_cases hi : i < N
  · rw [h i hi, ib_get, fnL_get c N i hi]; rfl
  · rw [List.getElem?_eq_none (by omega), List.getElem?_eq_none (by rw [ib_len, fnL_len]; omega)]
theorem u8_zero {b : UInt8} : ((b.toNat : Int) = 0) ↔ b = 0 := by
  constructor
  · intro h; apply UInt8.toNat_inj.1; have : (0 : UInt8).toNat = 0 := rfl; rw [this]; omega
  · intro h; subst h; rfl
theorem gather_ev (bl : List UInt8) (hl : bl.length ≤ 65536) : Ev (fun k => undercroftref15_Gather.f k (ib bl)) (jAdd [] 0 bl) := by
  have fin : ∀ i, i ≤ bl.length → Valid (jAdd [] 0 (bl.take i)) ∧ lastEnd (jAdd [] 0 (bl.take i)) ≤ i := by
    intro i hi
    have hli : (bl.take i).length = i := by rw [List.length_take]; omega
    obtain ⟨h1, h2, _⟩ := jAdd_ok (bl.take i) (l := []) (x := 0) (by simp [Valid, vFrom]) (by simp [lastEnd]) (by rw [hli]; omega)
    refine ⟨h1, ?_⟩
    rw [hli] at h2
    simpa using h2
  have key : ∀ (n i : Nat), i + n = bl.length → (lastEnd (jAdd [] 0 (bl.take i)) < i ∨ bl[i]? = some 0 ∨ i = bl.length) →
      Ev (fun k => undercroftref15_Gather.l0 k (ib bl) (jAdd [] 0 (bl.take i)) (i : Int)) (jAdd [] 0 bl) := by
    intro n
    induction n using Nat.strongRecOn with
    | _ n ih =>
      intro i hi hlast
      refine Ev.succ ?_
      simp only [undercroftref15_Gather.l0, ib_len]
      by_cases hlt : i < bl.length
      case neg =>
        simp only [if_neg (show ¬ ((i : Int) < (bl.length : Int)) by omega)]
        rw [List.take_of_length_le (by omega)]
        exact Ev.now _
      simp only [if_pos (show (i : Int) < (bl.length : Int) by omega), if_pos (show (0 : Int) ≤ (i : Int) by omega), rd_ib hlt]
      obtain ⟨hv, hle⟩ := fin i (by omega)
      by_cases hz : bl[i] = 0
      · simp only [if_pos (u8_zero.2 hz)]
        rw [w64 (show -9223372036854775808 ≤ (i : Int) + 1 by omega) (by omega), show (i : Int) + 1 = ((i + 1 : Nat) : Int) by omega]
        have e : jAdd [] 0 (bl.take (i + 1)) = jAdd [] 0 (bl.take i) := by
          rw [List.take_succ_eq_append_getElem hlt, jAdd_append]
          exact jAdd_zeros _ _ _ (fun c hc => by rw [List.mem_singleton.1 hc]; exact hz)
        have := ih (n - 1) (by omega) (i + 1) (by omega) (Or.inl (by rw [e]; omega))
        rw [e] at this
        exact this
      · simp only [if_neg (fun h => hz (u8_zero.1 h))]
        have hlt2 : lastEnd (jAdd [] 0 (bl.take i)) < i := by
          rcases hlast with h | h | h
          · exact h
          · rw [List.getElem?_eq_getElem hlt] at h; exact absurd (Option.some.inj h) hz
          · omega
        -- the run's end is looked for
        have emit : ∀ q : Nat, i < q → q ≤ bl.length → (∀ j, i ≤ j → j < q → ∀ h : j < bl.length, bl[j] ≠ 0) → (q = bl.length ∨ bl[q]? = some 0) →
            Ev (fun k => undercroftref15_Gather.l0 k (ib bl) (jAdd [] 0 (bl.take i) ++ [(⟨(i : Int), strOfNums (((ib bl).take q).drop i)⟩ : S33)]) (q : Int)) (jAdd [] 0 bl) := by
          intro q h1 h2 h3 h4
          have es : strOfNums (((ib bl).take q).drop i) = ⟨((bl.take q).drop i).toArray⟩ := by
            rw [← str_ib]; congr 1; simp [ib, List.map_take, List.map_drop]
          have hsz : ((⟨((bl.take q).drop i).toArray⟩ : ByteArray).size) = q - i := by
            rw [Lib.size_eq]; simp only [List.length_drop, List.length_take]; omega
          have e : jAdd [] 0 (bl.take q) = jAdd [] 0 (bl.take i) ++ [(⟨(i : Int), strOfNums (((ib bl).take q).drop i)⟩ : S33)] := by
            have e1 : bl.take q = bl.take i ++ (bl.take q).drop i := by
              have := (List.take_append_drop i (bl.take q)).symm
              rw [List.take_take, Nat.min_eq_left (by omega)] at this
              exact this
            rw [e1, jAdd_append, es]
            have hli : (bl.take i).length = i := by rw [List.length_take]; omega
            rw [hli, show (0 : Int) + (i : Int) = (i : Int) by omega]
            have h5 := jAdd_chunk (jAdd [] 0 (bl.take i)) (i : Int) ⟨((bl.take q).drop i).toArray⟩ [] (by rw [hsz]; omega) (fun c hc => by
              have hc' : c ∈ (bl.take q).drop i := hc
              obtain ⟨j, hj, rfl⟩ := List.getElem_of_mem hc'
              rw [List.length_drop, List.length_take] at hj
              rw [List.getElem_drop, List.getElem_take]
              exact h3 (i + j) (by omega) (by omega) (by omega))
            rw [List.append_nil] at h5
            have h6 : jAdd (jAdd [] 0 (bl.take i)) (i : Int) ((bl.take q).drop i) = jChunk (jAdd [] 0 (bl.take i)) (i : Int) ⟨((bl.take q).drop i).toArray⟩ := h5
            rw [h6]
            unfold jChunk
            cases hg : (jAdd [] 0 (bl.take i)).getLast? with
            | none => rfl
            | some r =>
              simp only
              have h7 : lastEnd (jAdd [] 0 (bl.take i)) = en r := by unfold lastEnd; rw [hg]
              have h8 : en r = r.f0 + (r.f1.size : Int) := rfl
              rw [if_neg (by omega)]
          rw [← e]
          exact ih (bl.length - q) (by omega) q (by omega) (by rcases h4 with h4 | h4 <;> simp [h4])
        have scan : ∀ (m q : Nat), q + m = bl.length → i ≤ q → (i = q → ∀ h : q < bl.length, bl[q] ≠ 0) → (∀ j, i ≤ j → j < q → ∀ h : j < bl.length, bl[j] ≠ 0) → i < bl.length →
            Ev (fun k => undercroftref15_Gather.l1 k (ib bl) (jAdd [] 0 (bl.take i)) (i : Int) (q : Int)) (jAdd [] 0 bl) := by
          intro m
          induction m with
          | zero =>
            intro q hq hiq hq0 hnz hib
            have hql : (jAdd [] 0 (bl.take i)).length < 5864062014805 := by
              obtain ⟨_, g2⟩ := jAdd_good (l := bl.take i) (rs := []) (x := 0) (fun _ hx => by cases hx) (fun _ => ⟨Int.le_refl _, by rw [List.length_take]; omega⟩)
              simp only [List.length_nil, List.length_take] at g2; omega
            refine Ev.succ ?_
            simp only [undercroftref15_Gather.l1, ib_len, Int.toNat_natCast]
            simp only [if_neg (show ¬ ((q : Int) < (bl.length : Int)) by omega), if_pos (show (0 : Int) ≤ (i : Int) by omega), if_pos (show (i : Int) ≤ (q : Int) by omega), if_pos (show (q : Int) ≤ (bl.length : Int) by omega), if_pos hql]
            exact emit q (by omega) (by omega) hnz (Or.inl (by omega))
          | succ m ih2 =>
            intro q hq hiq hq0 hnz hib
            have hql : (jAdd [] 0 (bl.take i)).length < 5864062014805 := by
              obtain ⟨_, g2⟩ := jAdd_good (l := bl.take i) (rs := []) (x := 0) (fun _ hx => by cases hx) (fun _ => ⟨Int.le_refl _, by rw [List.length_take]; omega⟩)
              simp only [List.length_nil, List.length_take] at g2; omega
            have hqlt : q < bl.length := by omega
            refine Ev.succ ?_
            simp only [undercroftref15_Gather.l1, ib_len, Int.toNat_natCast, rd_ib hqlt]
            simp only [if_pos (show (q : Int) < (bl.length : Int) by omega), if_pos (show (0 : Int) ≤ (q : Int) by omega)]
            by_cases hz2 : bl[q] = 0
            · simp only [if_pos (u8_zero.2 hz2), if_pos (show (0 : Int) ≤ (i : Int) by omega), if_pos (show (i : Int) ≤ (q : Int) by omega), if_pos (show (q : Int) ≤ (bl.length : Int) by omega), if_pos hql]
              refine emit q ?_ (by omega) hnz (Or.inr (by rw [List.getElem?_eq_getElem hqlt, hz2]))
              rcases Nat.lt_or_eq_of_le hiq with h | h
              · exact h
              · exact absurd hz2 (hq0 h hqlt)
            · simp only [if_neg (fun h => hz2 (u8_zero.1 h))]
              rw [w64 (show -9223372036854775808 ≤ (q : Int) + 1 by omega) (by omega), show (q : Int) + 1 = ((q + 1 : Nat) : Int) by omega]
              refine ih2 (q + 1) (by omega) (by omega) (fun h => by omega) (fun j h1 h2 h3 => ?_) hib
              by_cases hjq : j = q
              · subst hjq; exact hz2
              · exact hnz j h1 (by omega) h3
        exact scan (bl.length - i) i (by omega) (Nat.le_refl _) (fun _ _ => hz) (fun j h1 h2 => by omega) hlt
  have := key bl.length 0 (by omega) (Or.inl (by simp [jAdd, lastEnd]))
  unfold undercroftref15_Gather.f
  simpa [jAdd] using this
/-- the bytes of a right list, up to its end -/
def spr (l : List S33) : List UInt8 := fnL (cont l) (lastEnd l).toNat
theorem spr_len (l : List S33) : (spr l).length = (lastEnd l).toNat := fnL_len _ _
theorem spr_snoc {l : List S33} {r : S33} (h : Valid (l ++ [r])) : spr (l ++ [r]) = spr l ++ List.replicate (r.f0.toNat - (spr l).length) 0 ++ bs r := by
  have hv := (Valid_snoc l r).1 h
  obtain ⟨h1, h2, h3, h4, h5⟩ := hv
  have h6 := (lastEnd_ge l h1).1
  have h7 := bs_pos h3
  have h8 : en r = r.f0 + (r.f1.size : Int) := rfl
  have hsz := size_bs r
  have hl : (lastEnd (l ++ [r])).toNat = r.f0.toNat + (bs r).length := by rw [lastEnd_snoc]; omega
  apply List.ext_getElem?
  intro i
  by_cases hi : i < r.f0.toNat + (bs r).length
  · unfold spr
    rw [fnL_get _ _ _ (by omega), fnL_len]
    by_cases hi1 : i < r.f0.toNat
    · rw [List.getElem?_append_left (by rw [List.length_append, fnL_len, List.length_replicate]; omega)]
      rw [cont_snoc_lt i (by omega)]
      by_cases hi2 : i < (lastEnd l).toNat
      · rw [List.getElem?_append_left (by rw [fnL_len]; omega), fnL_get _ _ _ hi2]
      · rw [List.getElem?_append_right (by rw [fnL_len]; omega), List.getElem?_replicate, fnL_len, if_pos (by omega), cont_beyond h1 i (by omega)]
    · rw [List.getElem?_append_right (by rw [List.length_append, fnL_len, List.length_replicate]; omega), List.length_append, fnL_len, List.length_replicate]
      rw [cont_snoc_in h i ⟨by omega, by omega⟩]
      unfold byteOf
      rw [show i - ((lastEnd l).toNat + (r.f0.toNat - (lastEnd l).toNat)) = ((i : Int) - r.f0).toNat by omega, List.getD_eq_getElem?_getD, List.getElem?_eq_getElem (by omega)]
      rfl
  · rw [List.getElem?_eq_none (by rw [spr_len]; omega), List.getElem?_eq_none (by simp only [List.length_append, spr_len, List.length_replicate]; omega)]
theorem Valid_take {l : List S33} (h : Valid l) (i : Nat) : Valid (l.take i) := by
  have key : ∀ (l : List S33) (last : Int) (i : Nat), vFrom last l → vFrom last (l.take i) := by
    intro l
    induction l with
    | nil => intro last i h; simpa using h
    | cons r l ih =>
      intro last i h
      cases i with
      | zero => simp [vFrom]
      | succ i =>
        simp only [List.take_succ_cons, vFrom] at h ⊢
        exact ⟨h.1, h.2.1, h.2.2.1, h.2.2.2.1, ih _ _ h.2.2.2.2⟩
  exact key l (-1) i h
theorem spread_ev (l : List S33) (h : Valid l) (hl : l.length ≤ 4611686018427387904) : Ev (fun k => undercroftref15_Spread.f k l) (ib (spr l)) := by
  have key : ∀ (n i : Nat), i + n = l.length → Ev (fun k => undercroftref15_Spread.l0 k l (ib (spr (l.take i))) (i : Int)) (ib (spr l)) := by
    intro n
    induction n with
    | zero =>
      intro i hi
      refine Ev.succ ?_
      simp only [undercroftref15_Spread.l0]
      simp only [if_neg (show ¬ ((i : Int) < (l.length : Int)) by omega)]
      rw [List.take_of_length_le (by omega)]
      exact Ev.now _
    | succ n ih =>
      intro i hi
      have hlt : i < l.length := by omega
      have hv : Valid (l.take (i + 1)) := Valid_take h _
      have ih1 := ih (i + 1) (by omega)
      rw [List.take_succ_eq_append_getElem hlt] at hv ih1
      have hrd := rd_at hlt
      generalize l[i] = r at *
      rw [spr_snoc hv] at ih1
      have hv' := (Valid_snoc (l.take i) r).1 hv
      obtain ⟨h1, h2, h3, h4, h5⟩ := hv'
      have h6 := lastEnd_ge (l.take i) h1
      have h7 := bs_pos h3
      have h8 : en r = r.f0 + (r.f1.size : Int) := rfl
      have hsz := size_bs r
      refine Ev.succ ?_
      simp only [undercroftref15_Spread.l0]
      simp only [if_pos (show (i : Int) < (l.length : Int) by omega)]
      -- the padding
      have pad : ∀ (m : Nat) (ys : List Int), ys.length + m = r.f0.toNat → ys ++ List.replicate m 0 = ib (spr (l.take i) ++ List.replicate (r.f0.toNat - (spr (l.take i)).length) 0) →
          Ev (fun k => undercroftref15_Spread.l1 k l ys (i : Int)) (ib (spr l)) := by
        intro m
        induction m with
        | zero =>
          intro ys hys he
          refine Ev.succ ?_
          simp only [undercroftref15_Spread.l1, hrd]
          simp only [if_pos (show (i : Int) < (l.length : Int) by omega), if_pos (show (0 : Int) ≤ (i : Int) by omega), if_neg (show ¬ ((ys.length : Int) < r.f0) by omega), if_pos (show ys.length + r.f1.size < 140737488355328 by omega)]
          rw [w64 (show -9223372036854775808 ≤ (i : Int) + 1 by omega) (by omega), show (i : Int) + 1 = ((i + 1 : Nat) : Int) by omega]
          have e : ys ++ bytesOf r.f1 = ib (spr (l.take i) ++ List.replicate (r.f0.toNat - (spr (l.take i)).length) 0 ++ bs r) := by
            rw [List.replicate_zero, List.append_nil] at he
            rw [he, bytesOf_ib]
            simp [ib]
          rw [e]
          exact ih1
        | succ m ih2 =>
          intro ys hys he
          refine Ev.succ ?_
          simp only [undercroftref15_Spread.l1, hrd]
          simp only [if_pos (show (i : Int) < (l.length : Int) by omega), if_pos (show (0 : Int) ≤ (i : Int) by omega), if_pos (show ((ys.length : Int) < r.f0) by omega), if_pos (show ys.length < 140737488355328 by omega)]
          refine ih2 (ys ++ [0]) (by rw [List.length_append, List.length_singleton]; omega) ?_
          rw [← he, List.replicate_succ]; simp
      have hsl := spr_len (l.take i)
      refine pad (r.f0.toNat - (spr (l.take i)).length) (ib (spr (l.take i))) (by rw [ib_len]; omega) ?_
      simp [ib]
  have := key l.length 0 (by omega)
  unfold undercroftref15_Spread.f
  simpa [ib, spr, fnL, lastEnd] using this
theorem Valid_length {l : List S33} : Valid l → (l.length : Int) * 2 ≤ lastEnd l + 1 := by
  refine snoc_ind (P := fun l => Valid l → (l.length : Int) * 2 ≤ lastEnd l + 1) ?_ ?_ l
  · intro _; simp [lastEnd]
  · intro l r ih h
    have hv := (Valid_snoc l r).1 h
    have := ih hv.1
    have h7 := bs_pos hv.2.2.1
    have h8 : en r = r.f0 + (r.f1.size : Int) := rfl
    rw [lastEnd_snoc, List.length_append, List.length_singleton]
    push_cast
    omega
/-- lists that can come in -/
structure Fits (l : List S33) : Prop where
  len : l.length ≤ 5864062014800
  str : ∀ r ∈ l, r.f1.size ≤ 140737488351232
theorem Valid_fits {l : List S33} (h : Valid l) : Fits l := by
  have h1 := Valid_length h
  have h2 := lastEnd_ge l h
  refine ⟨by omega, fun r hr => ?_⟩
  have h3 := mem_end h r hr
  have h4 : en r = r.f0 + (r.f1.size : Int) := rfl
  omega
theorem check' {l : List S33} (hf : Fits l) : Ev (fun k => sparse_Check.f k l) (Z (Valid l)) := check_ev l (by have := hf.len; omega)
theorem rcheck' {l : List S33} (hf : Fits l) : Ev (fun k => undercroftref15_Check.f k l) (Z (Valid l)) := rcheck_ev l (by have := hf.len; omega) hf.str
theorem without_some {l : List S33} (h : Valid l) (a b : Int) (d : ByteArray) (ha : 0 ≤ a) (hb : a + d.size ≤ b) (hd : 0 < d.size → a + d.size ≤ 65536) (hs : d.size ≤ 65536) :
    sparse_without.f l a b d = some (addFn [] (mixC (cont l) a b d.data.toList) 0 65536) := by
  have h1 := Valid_length h
  have h2 := lastEnd_ge l h
  unfold sparse_without.f
  rw [if_pos ⟨by omega, Valid_good h, fun h => ⟨ha, hd h⟩, by omega, hs⟩, without_fn h a b d ha hb hd]
noncomputable def putR (l : List S33) (a : Int) (d : ByteArray) : List S33 × Int := open Classical in
  if ¬ Valid l ∨ a < 0 then ([], 1) else if a > 65536 ∨ (d.size : Int) > 65536 - a then ([], 10) else (addFn [] (mixC (cont l) a (a + d.size) d.data.toList) 0 65536, 0)
theorem put_ev {l : List S33} (hf : Fits l) (a : Int) (d : ByteArray) (ha : a ≤ 9223372036854775807) : Ev (fun k => sparse_Put.f k l a d) (putR l a d) := by
  unfold sparse_Put.f
  refine Ev.bind (check' hf) ?_
  by_cases hv : Valid l
  · simp only [Z_true hv, if_true]
    refine Ev.succ ?_
    simp only [sparse_Put.j0, decide_eq_true_eq]
    unfold putR
    by_cases h0 : a < 0
    · simp only [if_pos h0, if_pos (show ¬ Valid l ∨ a < 0 from .inr h0)]; exact Ev.now _
    simp only [if_neg h0, if_neg (show ¬ (¬ Valid l ∨ a < 0) from fun h => h.elim (fun h => h hv) h0)]
    by_cases h1 : a > 65536
    · simp only [if_pos h1, if_pos (show a > 65536 ∨ (d.size : Int) > 65536 - a from .inl h1)]; exact Ev.now _
    simp only [if_neg h1, w64 (show -9223372036854775808 ≤ 65536 - a by omega) (show 65536 - a ≤ 9223372036854775807 by omega)]
    by_cases h2 : (d.size : Int) > 65536 - a
    · simp only [if_pos h2, if_pos (show a > 65536 ∨ (d.size : Int) > 65536 - a from .inr h2)]; exact Ev.now _
    simp only [if_neg h2, if_neg (show ¬ (a > 65536 ∨ (d.size : Int) > 65536 - a) from fun h => h.elim h1 h2), w64 (show -9223372036854775808 ≤ a + (d.size : Int) by omega) (show a + (d.size : Int) ≤ 9223372036854775807 by omega)]
    rw [without_some hv a (a + d.size) d (by omega) (Int.le_refl _) (fun _ => by omega) (by omega)]
    exact Ev.now _
  · simp only [Z_false hv, if_neg (show ¬ ((1 : Int) = 0) by omega)]
    refine Ev.succ ?_
    simp only [sparse_Put.j0, if_true]
    unfold putR
    rw [if_pos (.inl hv)]
    exact Ev.now _
theorem rput_ev {l : List S33} (hf : Fits l) (a : Int) (d : ByteArray) (ha : a ≤ 9223372036854775807) : Ev (fun k => undercroftref15_Put.f k l a d) (putR l a d) := by
  unfold undercroftref15_Put.f
  refine Ev.bind (rcheck' hf) ?_
  unfold putR
  by_cases hv : Valid l
  · simp only [Z_true hv]
    by_cases h0 : a < 0
    · simp only [if_pos (show (0 : Int) ≠ 0 ∨ a < 0 from .inr h0), if_pos (show ¬ Valid l ∨ a < 0 from .inr h0)]; exact Ev.now _
    simp only [if_neg (show ¬ ((0 : Int) ≠ 0 ∨ a < 0) from fun h => h.elim (fun h => h rfl) h0), if_neg (show ¬ (¬ Valid l ∨ a < 0) from fun h => h.elim (fun h => h hv) h0)]
    by_cases h1 : a > 65536 ∨ (d.size : Int) > 65536 - a
    · simp only [if_pos h1, if_pos (show (d.size : Int) > 65536 ∨ a > 65536 - (d.size : Int) by omega)]; exact Ev.now _
    simp only [if_neg h1, if_neg (show ¬ ((d.size : Int) > 65536 ∨ a > 65536 - (d.size : Int)) by omega)]
    have hle := lastEnd_ge l hv
    have hds : d.size = d.data.toList.length := Lib.size_eq d
    refine Ev.bind (spread_ev l hv (by have := hf.len; omega)) ?_
    obtain ⟨p, rfl⟩ := Int.eq_ofNat_of_zero_le (show 0 ≤ a by omega)
    simp only [Int.toNat_natCast]
    obtain ⟨N, hN⟩ : ∃ N, N = max (lastEnd l).toNat (p + d.size) := ⟨_, rfl⟩
    have e : refSplice (refPad (ib (spr l)) (p + d.size)) p d = ib (fnL (mixC (cont l) p (p + d.size) d.data.toList) N) := by
      have hpl : (refPad (ib (spr l)) (p + d.size)).length = N := by unfold refPad; rw [List.length_append, ib_len, spr_len, List.length_replicate]; omega
      have hpg : ∀ i, i < N → (refPad (ib (spr l)) (p + d.size))[i]? = some ((cont l i).toNat : Int) := by
        intro i hi
        unfold refPad
        by_cases hi2 : i < (lastEnd l).toNat
        · rw [List.getElem?_append_left (by rw [ib_len, spr_len]; exact hi2), ib_get]
          unfold spr
          rw [fnL_get _ _ _ hi2]; rfl
        · rw [List.getElem?_append_right (by rw [ib_len, spr_len]; omega), List.getElem?_replicate, if_pos (by rw [ib_len, spr_len]; omega), cont_beyond hv i (by omega)]; rfl
      refine ib_fn (by unfold refSplice; simp only [List.length_append, List.length_take, List.length_drop, hpl, bytesOf_ib, ib_len]; omega) (fun i hi => ?_)
      unfold refSplice mixC
      by_cases h2 : i < p
      · rw [if_pos (by omega), List.append_assoc, List.getElem?_append_left (by rw [List.length_take, hpl]; omega), List.getElem?_take, if_pos h2, hpg i hi]
      · rw [if_neg (by omega)]
        by_cases h3 : i < p + d.data.toList.length
        · rw [if_pos (by omega), List.getElem?_append_left (by rw [List.length_append, List.length_take, hpl, bytesOf_ib, ib_len]; omega), List.getElem?_append_right (by rw [List.length_take, hpl]; omega), List.length_take, hpl, bytesOf_ib, ib_get]
          rw [show i - min p N = ((i : Int) - (p : Int)).toNat by omega, List.getD_eq_getElem?_getD, List.getElem?_eq_getElem (by omega)]; rfl
        · rw [if_neg (by omega), if_pos (by omega), List.getElem?_append_right (by rw [List.length_append, List.length_take, hpl, bytesOf_ib, ib_len]; omega), List.length_append, List.length_take, hpl, bytesOf_ib, ib_len, List.getElem?_drop]
          rw [show p + d.size + (i - (min p N + d.data.toList.length)) = i by omega, hpg i hi]
    rw [e]
    refine Ev.bind (gather_ev _ (by rw [fnL_len]; omega)) ?_
    rw [jAdd_fnL]
    rw [addFn_any (N := N) (M := 65536) _ (fun i hi => by
      unfold mixC
      rw [if_neg (by omega), if_neg (by omega), if_pos (by omega), cont_beyond hv i (by omega)]) (by omega)]
    exact Ev.now _
  · simp only [Z_false hv]
    simp only [if_pos (show (1 : Int) ≠ 0 ∨ a < 0 from .inl (by omega)), if_pos (show ¬ Valid l ∨ a < 0 from .inl hv)]
    exact Ev.now _
def ofR (d : ByteArray) : List S33 × Int := if (d.size : Int) > 65536 then ([], 10) else (jAdd [] 0 d.data.toList, 0)
theorem Valid_nil : Valid ([] : List S33) := by simp [Valid, vFrom]
theorem of_some (d : ByteArray) : sparse_Of.f d = some (ofR d) := by
  unfold sparse_Of.f ofR
  by_cases h : (d.size : Int) > 65536
  · rw [if_pos h, if_pos h]
  · rw [if_neg h, if_neg h]
    have hw : sparse_without.f ([] : List S33) 0 0 d = some (jAdd [] 0 d.data.toList) := by
      unfold sparse_without.f
      rw [if_pos ⟨by simp, (by intro x hx; cases hx), fun _ => ⟨Int.le_refl _, by omega⟩, Int.le_refl _, by omega⟩]
      rfl
    rw [hw]; rfl
theorem rof_ev (d : ByteArray) : Ev (fun k => undercroftref15_Of.f k d) (ofR d) := by
  unfold undercroftref15_Of.f ofR
  by_cases h : (d.size : Int) > 65536
  · simp only [if_pos h]; exact Ev.now _
  · simp only [if_neg h]
    rw [bytesOf_ib]
    have := Lib.size_eq d
    exact Ev.bind (gather_ev _ (by omega)) (Ev.now _)
noncomputable def endR (l : List S33) : Int := open Classical in if Valid l then (lastEnd l).toNat else 0
theorem last_at {l : List S33} (h : l ≠ []) : rd_T33 l ((l.length : Int) - 1) = l.getLast h := by
  have hp : 0 < l.length := List.length_pos_iff.2 h
  rw [show ((l.length : Int) - 1) = ((l.length - 1 : Nat) : Int) by omega, rd_at (by omega), List.getLast_eq_getElem]
theorem lastEnd_last {l : List S33} (h : l ≠ []) : lastEnd l = en (l.getLast h) := by unfold lastEnd; rw [List.getLast?_eq_some_getLast h]
theorem end_ev {l : List S33} (hf : Fits l) : Ev (fun k => sparse_End.f k l) (endR l) := by
  unfold sparse_End.f
  refine Ev.bind (check' hf) ?_
  unfold endR
  by_cases hv : Valid l
  · simp only [Z_true hv, if_true, if_pos hv]
    by_cases h0 : l = []
    · subst h0; exact Ev.now _
    · have hp : 0 < l.length := List.length_pos_iff.2 h0
      have hlen := hf.len
      have hle := lastEnd_ge l hv
      have hm := mem_end hv (l.getLast h0) (List.getLast_mem h0)
      have h8 : en (l.getLast h0) = (l.getLast h0).f0 + ((l.getLast h0).f1.size : Int) := rfl
      have h9 := lastEnd_last h0
      simp only [if_neg (show ¬ ((l.length : Int) = 0) by omega), w64 (show -9223372036854775808 ≤ (l.length : Int) - 1 by omega) (show (l.length : Int) - 1 ≤ 9223372036854775807 by omega), if_pos (show (0 : Int) ≤ (l.length : Int) - 1 by omega), if_pos (show (l.length : Int) - 1 < (l.length : Int) by omega), last_at h0, sparse_end.f, Option.bind_some]
      rw [w64 (by omega) (by omega), show (((lastEnd l).toNat : Nat) : Int) = (l.getLast h0).f0 + ((l.getLast h0).f1.size : Int) by omega]
      exact Ev.now _
  · simp only [Z_false hv, if_neg (show ¬ ((1 : Int) = 0) by omega), if_neg hv]
    exact Ev.now _
theorem rend_ev {l : List S33} (hf : Fits l) : Ev (fun k => undercroftref15_End.f k l) (endR l) := by
  unfold undercroftref15_End.f
  refine Ev.bind (rcheck' hf) ?_
  unfold endR
  by_cases hv : Valid l
  · simp only [Z_true hv, if_true, if_pos hv]
    by_cases h0 : l = []
    · subst h0; exact Ev.now _
    · have hp : 0 < l.length := List.length_pos_iff.2 h0
      have hlen := hf.len
      have hle := lastEnd_ge l hv
      have hm := mem_end hv (l.getLast h0) (List.getLast_mem h0)
      have h8 : en (l.getLast h0) = (l.getLast h0).f0 + ((l.getLast h0).f1.size : Int) := rfl
      have h9 := lastEnd_last h0
      simp only [if_neg (show ¬ ((l.length : Int) = 0) by omega), w64 (show -9223372036854775808 ≤ (l.length : Int) - 1 by omega) (show (l.length : Int) - 1 ≤ 9223372036854775807 by omega), if_pos (show (0 : Int) ≤ (l.length : Int) - 1 by omega), if_pos (show (l.length : Int) - 1 < (l.length : Int) by omega), last_at h0]
      rw [w64 (by omega) (by omega), show (((lastEnd l).toNat : Nat) : Int) = (l.getLast h0).f0 + ((l.getLast h0).f1.size : Int) by omega]
      exact Ev.now _
  · simp only [Z_false hv, if_neg (show ¬ ((1 : Int) = 0) by omega), if_neg hv]
    exact Ev.now _
theorem mixC_nil (c : Nat → UInt8) (a b : Int) (i : Nat) : mixC c a b [] i = if (i : Int) < a ∨ b ≤ i then c i else 0 := by
  unfold mixC
  simp only [List.length_nil]
  by_cases h1 : (i : Int) < a
  · rw [if_pos h1, if_pos (.inl h1)]
  · rw [if_neg h1, if_neg (by omega)]
    by_cases h2 : b ≤ i
    · rw [if_pos h2, if_pos (.inr h2)]
    · rw [if_neg h2, if_neg (by omega)]
noncomputable def zeroR (l : List S33) (a b : Int) : List S33 × Int := open Classical in
  if ¬ Valid l ∨ a < 0 ∨ b < a then ([], 1) else (addFn [] (mixC (cont l) a b []) 0 65536, 0)
theorem zero_ev {l : List S33} (hf : Fits l) (a b : Int) : Ev (fun k => sparse_Zero.f k l a b) (zeroR l a b) := by
  unfold sparse_Zero.f
  refine Ev.bind (check' hf) ?_
  unfold zeroR
  by_cases hv : Valid l
  · simp only [Z_true hv, if_true]
    by_cases h0 : a < 0
    · simp only [if_pos h0, if_pos (show ¬ Valid l ∨ a < 0 ∨ b < a from .inr (.inl h0))]; exact Ev.now _
    by_cases h1 : b < a
    · simp only [if_neg h0, if_pos h1, if_pos (show ¬ Valid l ∨ a < 0 ∨ b < a from .inr (.inr h1))]; exact Ev.now _
    simp only [if_neg h0, if_neg h1, if_neg (show ¬ (¬ Valid l ∨ a < 0 ∨ b < a) from fun h => h.elim (fun h => h hv) (fun h => h.elim h0 h1))]
    have hz : (⟨#[]⟩ : ByteArray).size = 0 := rfl
    rw [without_some hv a b ⟨#[]⟩ (by omega) (by rw [hz]; omega) (fun h => by rw [hz] at h; omega) (by rw [hz]; omega)]
    exact Ev.now _
  · simp only [Z_false hv, if_neg (show ¬ ((1 : Int) = 0) by omega), if_pos (show ¬ Valid l ∨ a < 0 ∨ b < a from .inl hv)]
    exact Ev.now _
theorem rzero_ev {l : List S33} (hf : Fits l) (a b : Int) (ha : a ≤ 9223372036854775807) (hb : b ≤ 9223372036854775807) : Ev (fun k => undercroftref15_Zero.f k l a b) (zeroR l a b) := by
  unfold undercroftref15_Zero.f
  refine Ev.bind (rcheck' hf) ?_
  unfold zeroR
  have bad : Ev (fun k => undercroftref15_Zero.j0 k l a b true) (([], 1) : List S33 × Int) := by
    refine Ev.succ ?_
    simp only [undercroftref15_Zero.j0, if_true]
    exact Ev.now _
  by_cases hv : Valid l
  · simp only [Z_true hv, if_true]
    by_cases h0 : a < 0
    · simp only [if_pos h0, if_pos (show ¬ Valid l ∨ a < 0 ∨ b < a from .inr (.inl h0))]; exact bad
    simp only [if_neg h0]
    by_cases h1 : b < a
    · simp only [decide_eq_true h1, if_pos (show ¬ Valid l ∨ a < 0 ∨ b < a from .inr (.inr h1))]; exact bad
    simp only [decide_eq_false h1, if_neg (show ¬ (¬ Valid l ∨ a < 0 ∨ b < a) from fun h => h.elim (fun h => h hv) (fun h => h.elim h0 h1))]
    refine Ev.succ ?_
    simp only [undercroftref15_Zero.j0, Bool.false_eq_true, if_false]
    refine Ev.bind (spread_ev l hv (by have := hf.len; omega)) ?_
    have hle := lastEnd_ge l hv
    obtain ⟨N, hN⟩ : ∃ N, N = (lastEnd l).toNat := ⟨_, rfl⟩
    have fin : ∀ xs : List Int, xs = ib (fnL (mixC (cont l) a b []) N) → Ev (fun k => (undercroftref15_Gather.f k xs).bind fun t => some (t, (0 : Int))) (addFn [] (mixC (cont l) a b []) 0 65536, 0) := by
      intro xs e
      rw [e]
      refine Ev.bind (gather_ev _ (by rw [fnL_len]; omega)) ?_
      rw [jAdd_fnL, addFn_any (N := N) (M := 65536) _ (fun i hi => by
        unfold mixC
        simp only [List.length_nil]
        split
        · exact cont_beyond hv i (by omega)
        · rw [if_neg (by omega)]
          split
          · exact cont_beyond hv i (by omega)
          · rfl) (by omega)]
      exact Ev.now _
    have key : ∀ (n : Nat) (i : Nat) (xs : List Int), a ≤ i → N ≤ i + n → xs.length = N → (∀ j, j < N → xs[j]? = some ((if a ≤ j ∧ j < i then (0 : UInt8) else cont l j).toNat : Int)) → (i : Int) ≤ b →
        Ev (fun k => undercroftref15_Zero.l0 k b xs (i : Int)) (addFn [] (mixC (cont l) a b []) 0 65536, 0) := by
      intro n
      induction n with
      | zero =>
        intro i xs hai hin hl hx hib
        refine Ev.succ ?_
        simp only [undercroftref15_Zero.l0]
        have := fin xs (ib_fn hl (fun j hj => by
          rw [hx j hj, mixC_nil]
          have : (if a ≤ j ∧ j < i then (0 : UInt8) else cont l j) = if (j : Int) < a ∨ b ≤ j then cont l j else 0 := by
            split <;> split <;> first | rfl | (exfalso; omega)
          rw [this]))
        by_cases h2 : (i : Int) < b
        · simp only [if_pos h2, if_neg (show ¬ ((i : Int) < (xs.length : Int)) by omega)]; exact this
        · simp only [if_neg h2]; exact this
      | succ n ih =>
        intro i xs hai hin hl hx hib
        refine Ev.succ ?_
        simp only [undercroftref15_Zero.l0]
        by_cases h2 : (i : Int) < b
        · simp only [if_pos h2]
          by_cases h3 : (i : Int) < (xs.length : Int)
          · simp only [if_pos h3, if_pos (show (0 : Int) ≤ (i : Int) by omega), Int.toNat_natCast]
            rw [w64 (by omega) (by omega), show (i : Int) + 1 = ((i + 1 : Nat) : Int) by omega]
            refine ih (i + 1) (xs.set i 0) (by omega) (by omega) (by rw [List.length_set]; exact hl) (fun j hj => ?_) (by omega)
            by_cases hji : j = i
            · subst hji
              rw [List.getElem?_set_self (by omega), if_pos (by omega)]; rfl
            · rw [List.getElem?_set_ne (by omega), hx j hj]
              by_cases h4 : a ≤ j ∧ j < i
              · rw [if_pos h4, if_pos (by omega)]
              · rw [if_neg h4, if_neg (by omega)]
          · simp only [if_neg h3]
            exact fin xs (ib_fn hl (fun j hj => by
          rw [hx j hj, mixC_nil]
          have : (if a ≤ j ∧ j < i then (0 : UInt8) else cont l j) = if (j : Int) < a ∨ b ≤ j then cont l j else 0 := by
            split <;> split <;> first | rfl | (exfalso; omega)
          rw [this]))
        · simp only [if_neg h2]
          exact fin xs (ib_fn hl (fun j hj => by
          rw [hx j hj, mixC_nil]
          have : (if a ≤ j ∧ j < i then (0 : UInt8) else cont l j) = if (j : Int) < a ∨ b ≤ j then cont l j else 0 := by
            split <;> split <;> first | rfl | (exfalso; omega)
          rw [this]))
    obtain ⟨p, rfl⟩ := Int.eq_ofNat_of_zero_le (show 0 ≤ a by omega)
    exact key N p (ib (spr l)) (Int.le_refl _) (by omega) (by rw [ib_len, spr_len, hN]) (fun j hj => by
      rw [if_neg (by omega), ib_get]
      unfold spr
      rw [fnL_get _ _ _ (by omega)]; rfl) (by omega)
  · simp only [Z_false hv, if_neg (show ¬ ((1 : Int) = 0) by omega), if_pos (show ¬ Valid l ∨ a < 0 ∨ b < a from .inl hv)]
    exact bad
def fnA (c : Nat → UInt8) (a n : Nat) : List UInt8 := (List.range' a n).map c
theorem fnA_len (c : Nat → UInt8) (a n : Nat) : (fnA c a n).length = n := by simp [fnA]
theorem fnA_get (c : Nat → UInt8) (a n i : Nat) (h : i < n) : (fnA c a n)[i]? = some (c (a + i)) := by
  unfold fnA; rw [List.getElem?_map, List.getElem?_range' h]; simp
theorem ib_fnA {xs : List Int} {c : Nat → UInt8} {a n : Nat} (hl : xs.length = n) (h : ∀ i, i < n → xs[i]? = some ((c (a + i)).toNat : Int)) : xs = ib (fnA c a n) := by
  apply List.ext_getElem?
  intro i
  by_cases hi : i < n
  · rw [h i hi, ib_get, fnA_get c a n i hi]; rfl
  · rw [List.getElem?_eq_none (by omega), List.getElem?_eq_none (by rw [ib_len, fnA_len]; omega)]
noncomputable def bytesR (l : List S33) (a n : Int) : ByteArray × Int := open Classical in
  if ¬ Valid l ∨ a < 0 ∨ n < 0 then (⟨#[]⟩, 1) else if a > 65536 ∨ n > 65536 - a then (⟨#[]⟩, 10) else (⟨(fnA (cont l) a.toNat n.toNat).toArray⟩, 0)
theorem bFold_fn {l : List S33} (a n : Nat) : Valid l → bFold l (a : Int) (n : Int) = ib (fnA (cont l) a n) := by
  refine snoc_ind (P := fun l => Valid l → bFold l (a : Int) (n : Int) = ib (fnA (cont l) a n)) ?_ ?_ l
  · intro _
    refine ib_fnA (by simp [bFold]) (fun i hi => ?_)
    unfold bFold
    simp only [List.foldl_nil, Int.toNat_natCast]
    rw [List.getElem?_replicate, if_pos hi]; rfl
  · intro l r ih h
    have hv := (Valid_snoc l r).1 h
    obtain ⟨h1, h2, h3, h4, h5⟩ := hv
    have h6 := (lastEnd_ge l h1).1
    have h7 := bs_pos h3
    have h8 : en r = r.f0 + (r.f1.size : Int) := rfl
    have hsz := size_bs r
    have e0 : bFold (l ++ [r]) (a : Int) (n : Int) = bStep a n (bFold l a n) r := by simp [bFold, List.foldl_append]
    rw [e0, ih h1]
    have hlen : (bStep (a : Int) (n : Int) (ib (fnA (cont l) a n)) r).length = n := by
      have := bStep_length (at_ := (a : Int)) (n := (n : Int)) (cur := ib (fnA (cont l) a n)) (r := r) (by omega) (by omega) (by omega) (by rw [ib_len, fnA_len]; omega)
      rw [this]; omega
    refine ib_fnA hlen (fun i hi => ?_)
    unfold bStep
    have m1 : r.f0 ≤ mx r.f0 a := by unfold mx; split <;> omega
    have m2 : (a : Int) ≤ mx r.f0 a := by unfold mx; split <;> omega
    have m3 : mx r.f0 a = r.f0 ∨ mx r.f0 a = a := by unfold mx; split <;> simp
    have n1 : mn (r.f0 + r.f1.size) (a + n) ≤ en r := by unfold mn; split <;> omega
    have n2 : mn (r.f0 + r.f1.size) (a + n) ≤ a + n := by unfold mn; split <;> omega
    have n3 : mn (r.f0 + r.f1.size) (a + n) = en r ∨ mn (r.f0 + r.f1.size) (a + n) = a + n := by unfold mn; split <;> simp [h8]
    generalize mx r.f0 (a : Int) = M at *
    generalize mn (r.f0 + r.f1.size) ((a : Int) + n) = N at *
    have old : ∀ j, j < n → (ib (fnA (cont l) a n))[j]? = some ((cont l (a + j)).toNat : Int) := fun j hj => by rw [ib_get, fnA_get _ _ _ _ hj]; rfl
    have e1 : ¬ cov r (a + i) → cont (l ++ [r]) (a + i) = cont l (a + i) := fun hc => cont_left _ _ _ (fun q hq hcq => by rw [List.mem_singleton.1 hq] at hcq; exact hc hcq)
    by_cases hlt : M < N
    · rw [if_pos hlt]
      have hx : (r.f1.extract (M - r.f0).toNat (N - r.f0).toNat).data.toList = ((bs r).drop (M - r.f0).toNat).take ((N - r.f0).toNat - (M - r.f0).toNat) := Lib.extract_data _ _ _
      have hxs : (r.f1.extract (M - r.f0).toNat (N - r.f0).toNat).size = (N - M).toNat := by rw [ByteArray.size_extract]; omega
      unfold refSplice
      by_cases c1 : ((a + i : Nat) : Int) < M
      · rw [List.append_assoc, List.getElem?_append_left (by rw [List.length_take, ib_len, fnA_len]; omega), List.getElem?_take, if_pos (by omega), old i hi]
        rw [e1 (by unfold cov; omega)]
      · by_cases c2 : ((a + i : Nat) : Int) < N
        · rw [List.getElem?_append_left (by rw [List.length_append, List.length_take, ib_len, fnA_len, bytesOf_ib, ib_len, ← Lib.size_eq, hxs]; omega), List.getElem?_append_right (by rw [List.length_take, ib_len, fnA_len]; omega), List.length_take, ib_len, fnA_len, bytesOf_ib, ib_get, hx]
          rw [cont_snoc_in h (a + i) ⟨by omega, by omega⟩]
          unfold byteOf
          rw [List.getElem?_take, if_pos (by omega), List.getElem?_drop]
          rw [show (M - r.f0).toNat + (i - min (M - (a : Int)).toNat n) = (((a + i : Nat) : Int) - r.f0).toNat by omega, List.getD_eq_getElem?_getD, List.getElem?_eq_getElem (by omega)]; rfl
        · rw [List.getElem?_append_right (by rw [List.length_append, List.length_take, ib_len, fnA_len, bytesOf_ib, ib_len, ← Lib.size_eq, hxs]; omega), List.length_append, List.length_take, ib_len, fnA_len, bytesOf_ib, ib_len, ← Lib.size_eq, hxs, List.getElem?_drop]
          rw [show (M - (a : Int)).toNat + (N - M).toNat + (i - (min (M - (a : Int)).toNat n + (N - M).toNat)) = i by omega, old i hi, e1 (by unfold cov; omega)]
    · rw [if_neg hlt, old i hi, e1 (by unfold cov; omega)]
theorem bytes_ev {l : List S33} (hf : Fits l) (a n : Int) : Ev (fun k => sparse_Bytes.f k l a n) (bytesR l a n) := by
  unfold sparse_Bytes.f
  refine Ev.bind (check' hf) ?_
  unfold bytesR
  by_cases hv : Valid l
  · simp only [Z_true hv]
    by_cases h0 : a < 0 ∨ n < 0
    · simp only [if_pos (show (0 : Int) ≠ 0 ∨ a < 0 ∨ n < 0 from .inr h0), if_pos (show ¬ Valid l ∨ a < 0 ∨ n < 0 from .inr h0)]; exact Ev.now _
    simp only [if_neg (show ¬ ((0 : Int) ≠ 0 ∨ a < 0 ∨ n < 0) from fun h => h.elim (fun h => h rfl) h0), if_neg (show ¬ (¬ Valid l ∨ a < 0 ∨ n < 0) from fun h => h.elim (fun h => h hv) h0)]
    by_cases h1 : a > 65536 ∨ n > 65536 - a
    · simp only [if_pos h1]; exact Ev.now _
    have hl := Valid_length hv
    have hle := lastEnd_ge l hv
    simp only [if_neg h1, if_pos (show jGood l ∧ l.length ≤ 65536 from ⟨Valid_good hv, by omega⟩)]
    obtain ⟨p, rfl⟩ := Int.eq_ofNat_of_zero_le (show 0 ≤ a by omega)
    obtain ⟨q, rfl⟩ := Int.eq_ofNat_of_zero_le (show 0 ≤ n by omega)
    rw [bFold_fn p q hv, str_ib]
    exact Ev.now _
  · simp only [Z_false hv, if_pos (show (1 : Int) ≠ 0 ∨ a < 0 ∨ n < 0 from .inl (by omega)), if_pos (show ¬ Valid l ∨ a < 0 ∨ n < 0 from .inl hv)]
    exact Ev.now _
theorem rbytes_ev {l : List S33} (hf : Fits l) (a n : Int) (ha : a ≤ 9223372036854775807) (hn : n ≤ 9223372036854775807) : Ev (fun k => undercroftref15_Bytes.f k l a n) (bytesR l a n) := by
  unfold undercroftref15_Bytes.f
  refine Ev.bind (rcheck' hf) ?_
  unfold bytesR
  have bad : Ev (fun k => undercroftref15_Bytes.j0 k l a n true) ((⟨#[]⟩, 1) : ByteArray × Int) := by
    refine Ev.succ ?_
    simp only [undercroftref15_Bytes.j0, if_true]
    exact Ev.now _
  have big : Ev (fun k => undercroftref15_Bytes.j1 k l a n true) ((⟨#[]⟩, 10) : ByteArray × Int) := by
    refine Ev.succ ?_
    simp only [undercroftref15_Bytes.j1, if_true]
    exact Ev.now _
  by_cases hv : Valid l
  · simp only [Z_true hv, if_true]
    by_cases h0 : a < 0
    · simp only [if_pos h0, if_pos (show ¬ Valid l ∨ a < 0 ∨ n < 0 from .inr (.inl h0))]; exact bad
    by_cases h0' : n < 0
    · simp only [if_neg h0, decide_eq_true h0', if_pos (show ¬ Valid l ∨ a < 0 ∨ n < 0 from .inr (.inr h0'))]; exact bad
    simp only [if_neg h0, decide_eq_false h0', if_neg (show ¬ (¬ Valid l ∨ a < 0 ∨ n < 0) from fun h => h.elim (fun h => h hv) (fun h => h.elim h0 h0'))]
    refine Ev.succ ?_
    simp only [undercroftref15_Bytes.j0, Bool.false_eq_true, if_false]
    by_cases h1 : a > 65536
    · simp only [if_pos h1, if_pos (show a > 65536 ∨ n > 65536 - a from .inl h1)]; exact big
    by_cases h2 : n > 65536
    · simp only [if_neg h1, if_pos h2, if_pos (show a > 65536 ∨ n > 65536 - a by omega)]; exact big
    simp only [if_neg h1, if_neg h2, w64 (show -9223372036854775808 ≤ 65536 - n by omega) (show 65536 - n ≤ 9223372036854775807 by omega)]
    by_cases h3 : a > 65536 - n
    · simp only [decide_eq_true h3, if_pos (show a > 65536 ∨ n > 65536 - a by omega)]; exact big
    simp only [decide_eq_false h3, if_neg (show ¬ (a > 65536 ∨ n > 65536 - a) by omega)]
    refine Ev.succ ?_
    simp only [undercroftref15_Bytes.j1, Bool.false_eq_true, if_false]
    refine Ev.bind (spread_ev l hv (by have := hf.len; omega)) ?_
    simp only [if_pos (show 0 ≤ n by omega), if_pos (show n.toNat ≤ 281474976710656 by omega)]
    obtain ⟨p, rfl⟩ := Int.eq_ofNat_of_zero_le (show 0 ≤ a by omega)
    obtain ⟨q, rfl⟩ := Int.eq_ofNat_of_zero_le (show 0 ≤ n by omega)
    simp only [Int.toNat_natCast]
    have hle := lastEnd_ge l hv
    have key : ∀ (m i : Nat) (ys : List Int), i + m = q → ys.length = q → (∀ j, j < q → ys[j]? = some ((if j < i then cont l (p + j) else 0).toNat : Int)) →
        Ev (fun k => undercroftref15_Bytes.l0 k (p : Int) (q : Int) (ib (spr l)) ys (i : Int)) ((⟨(fnA (cont l) p q).toArray⟩, 0) : ByteArray × Int) := by
      intro m
      induction m with
      | zero =>
        intro i ys hi hl hy
        refine Ev.succ ?_
        simp only [undercroftref15_Bytes.l0]
        simp only [if_neg (show ¬ ((i : Int) < (q : Int)) by omega)]
        have e : ys = ib (fnA (cont l) p q) := ib_fnA hl (fun j hj => by rw [hy j hj, if_pos (by omega)])
        rw [e, str_ib]
        exact Ev.now _
      | succ m ih =>
        intro i ys hi hl hy
        refine Ev.succ ?_
        simp only [undercroftref15_Bytes.l0, ib_len, spr_len]
        simp only [if_pos (show (i : Int) < (q : Int) by omega), w64 (show -9223372036854775808 ≤ (p : Int) + (i : Int) by omega) (show (p : Int) + (i : Int) ≤ 9223372036854775807 by omega)]
        by_cases h4 : (p : Int) + (i : Int) < ((lastEnd l).toNat : Int)
        · simp only [if_pos h4, if_pos (show (0 : Int) ≤ (p : Int) + (i : Int) by omega), if_pos (show (0 : Int) ≤ (i : Int) by omega), if_pos (show (i : Int) < (ys.length : Int) by omega), Int.toNat_natCast]
          have hr : rd (ib (spr l)) ((p : Int) + (i : Int)) = ((cont l (p + i)).toNat : Int) := by
            rw [show (p : Int) + (i : Int) = ((p + i : Nat) : Int) by omega, rd_ib (by rw [spr_len]; omega)]
            have h5 := fnL_get (cont l) (lastEnd l).toNat (p + i) (by omega)
            have h6 : (spr l)[p + i]? = some (cont l (p + i)) := h5
            rw [List.getElem?_eq_getElem (by rw [spr_len]; omega)] at h6
            rw [Option.some.inj h6]
          rw [hr, w64 (show -9223372036854775808 ≤ (i : Int) + 1 by omega) (by omega), show (i : Int) + 1 = ((i + 1 : Nat) : Int) by omega]
          refine ih (i + 1) _ (by omega) (by rw [List.length_set]; exact hl) (fun j hj => ?_)
          by_cases hji : j = i
          · subst hji; rw [List.getElem?_set_self (by omega), if_pos (by omega)]
          · rw [List.getElem?_set_ne (by omega), hy j hj]
            have : (if j < i then cont l (p + j) else 0) = if j < i + 1 then cont l (p + j) else 0 := by
              split <;> split <;> first | rfl | (exfalso; omega)
            rw [this]
        · simp only [if_neg h4]
          have e : ys = ib (fnA (cont l) p q) := ib_fnA hl (fun j hj => by
            rw [hy j hj]
            by_cases h5 : j < i
            · rw [if_pos h5]
            · rw [if_neg h5, cont_beyond hv (p + j) (by omega)])
          rw [e, str_ib]
          exact Ev.now _
    exact key q 0 (List.replicate q 0) (by omega) (by simp) (fun j hj => by rw [List.getElem?_replicate, if_pos hj, if_neg (by omega)]; rfl)
  · simp only [Z_false hv, if_neg (show ¬ ((1 : Int) = 0) by omega), if_pos (show ¬ Valid l ∨ a < 0 ∨ n < 0 from .inl hv)]
    exact bad
end Go.Proofs.Ytdobcojmfhdinaa.SpPure
