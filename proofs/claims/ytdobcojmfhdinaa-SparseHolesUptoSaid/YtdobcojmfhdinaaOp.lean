/- What a slice, a string, a struct that comes in holds, by kinds: for a value that is read ('DataW.trod'), spare places too, and whose weights are in reach, there is a Lean value of its kind, sized. No condition but that. -/
import Derived.WalkKit
import Derived.ProofKit
import Derived.OpenShut
import Derived.ShutString
import Derived.ChangeOld
import Derived.Below
import Derived.SizedLaws
import Derived.ChangeSlices
import Derived.Lib.SmallJoins
import Derived.Deep.Slices
import Derived.Test.YtdobcojmfhdinaaWWords
namespace Go.Proofs.Ytdobcojmfhdinaa.Op
open Go.ChangeShapes Go.WideShapes Go.Deep Go.RowKit Go.Proofs.YtdobcojmfhdinaaW.PrintWords
variable {P : Program}
/-- A value of type t that is read is of the kind d, and S holds of it. -/
def Opens {α : Type} (P : Program) (t : TypeId) (d : Kd α) (S : α → Prop) : Prop :=
  ∀ {H : Type} {enc : TypeId × Value → H} {W : World} {fuel : Nat} {cs : List Value} {x : DataW H × List MemPlace},
    DataW.trod enc P W 0 (fun _ => true) true fuel t cs = some x → (∀ n ∈ x.1.weights P t, n ≤ reachBytes) → ∃ v : α, d.K W v cs ∧ S v
theorem opens_int {t : TypeId} {k : IntKind} (hu : P.underlying t = some (.int k)) : Opens P t (Kd.int k) (fun n => (Lit.int k n).wf = true) := by
  intro H enc W fuel cs x h _
  obtain ⟨n, rfl, _, hw⟩ := DataW.trod_int hu h
  exact ⟨n, rfl, hw⟩
theorem opens_bool {t : TypeId} (hu : P.underlying t = some .bool) : Opens P t Kd.bool (fun _ => True) := by
  intro H enc W fuel cs x h _
  obtain ⟨n, rfl, _⟩ := DataW.trod_bool hu h
  exact ⟨n, rfl, trivial⟩
theorem opens_string {t : TypeId} (hu : P.underlying t = some .string) : Opens P t Kd.string (fun s => s.size ≤ 140737488351232) := by
  intro H enc W fuel cs x h hw
  obtain ⟨s, rfl, rfl, _⟩ := DataW.trod_string hu h
  refine ⟨s, rfl, ?_⟩
  have := hw s.data.toList.length (by simp [DataW.weights])
  rw [Array.length_toList] at this
  exact this
theorem weightsAll_mem {H : Type} {e : TypeId} : ∀ {l : List (DataW H)} {d : DataW H}, d ∈ l → ∀ n ∈ d.weights P e, n ∈ DataW.weightsAll P e l
  | a :: l, d, hd, n, hn => by
    simp only [DataW.weightsAll, List.mem_append]
    rcases List.mem_cons.1 hd with rfl | hd
    · exact .inl hn
    · exact .inr (weightsAll_mem hd n hn)
  | [], _, hd, _, _ => by simp at hd
theorem opens_slice {α : Type} {t e : TypeId} {d : Kd α} {S : α → Prop} {B : Nat} (hu : P.underlying t = some (.slice e)) (hc : P.cellsOf e = d.sz) (hB : P.bytesOf e = B) (he : Opens P e d S) :
    Opens P t (Kd.slice e d) (fun xs => xs.length * B ≤ 140737488351232 ∧ ∀ x ∈ xs, S x) := by
  intro H enc W fuel cs x h hw
  rcases open_slice hu h with ⟨rfl, rfl⟩ | ⟨a, len, cap, m, n, D, Pl, rfl, _, hl, hm, hmm, rfl, hx⟩
  · exact ⟨[], ⟨none, 0, rfl, Nat.le_refl _, rfl, Nat.zero_le _, fun h => absurd h (Nat.lt_irrefl _)⟩, by simp, by simp⟩
  · simp only [if_true] at hmm
    subst hmm
    have hwt : ∀ i, i < len → ∀ q ∈ (D i).weights P e, q ≤ reachBytes := by
      intro i hi q hq
      refine hw q ?_
      simp only [DataW.weights, hu, List.mem_cons, List.mem_append]
      exact .inr (.inl (weightsAll_mem (List.mem_map.2 ⟨i, List.mem_range.2 hi, rfl⟩) q hq))
    have hv : ∀ i, i < len → ∃ v : α, S v ∧ ∃ c, c.length = d.sz ∧ d.K W v c ∧ ∀ j u, c[j]? = some u → W.cell? (a.add (i * d.sz + j)) = some u := by
      intro i hi
      obtain ⟨c, h1, h2⟩ := hx i (Nat.lt_of_lt_of_le hi hl)
      obtain ⟨v, hk, hs⟩ := he h2 (hwt i hi)
      refine ⟨v, hs, c, d.K_len hk, hk, ?_⟩
      rw [hc] at h1
      obtain ⟨_, hlen, hcell⟩ := World.cells?_some h1
      intro j u hj
      have hjl : j < c.length := (List.getElem?_eq_some_iff.1 hj).1
      have := hcell j (by rw [← hlen]; exact hjl)
      rw [Deep.add_add] at this
      rw [this, hj]
    have key : ∀ k, k ≤ len → ∃ l : List α, l.length = k ∧ (∀ v ∈ l, S v) ∧ ∀ i v, l[i]? = some v → ∃ c, c.length = d.sz ∧ d.K W v c ∧ ∀ j u, c[j]? = some u → W.cell? (a.add (i * d.sz + j)) = some u := by
      intro k
      induction k with
      | zero => intro _; exact ⟨[], rfl, by simp, by simp⟩
      | succ k ih =>
        intro hk
        obtain ⟨l, hl1, hl2, hl3⟩ := ih (by omega)
        obtain ⟨v, hs, hr⟩ := hv k (by omega)
        refine ⟨l ++ [v], by simp [hl1], ?_, ?_⟩
        · intro y hy
          rcases List.mem_append.1 hy with hy | hy
          · exact hl2 y hy
          · rw [List.mem_singleton.1 hy]; exact hs
        · intro i y hy
          rcases Nat.lt_trichotomy i k with hik | hik | hik
          · rw [List.getElem?_append_left (by omega)] at hy
            exact hl3 i y hy
          · subst hik
            rw [List.getElem?_append_right (by omega), hl1, Nat.sub_self] at hy
            simp only [List.getElem?_cons_zero, Option.some.injEq] at hy
            subst hy
            exact hr
          · rw [List.getElem?_eq_none (by simp [hl1]; omega)] at hy
            cases hy
    obtain ⟨l, hl1, hl2, hl3⟩ := key len (Nat.le_refl _)
    refine ⟨l, ⟨some a, m, by rw [hl1], by rw [hl1]; exact hl, rfl, ?_, fun _ => ⟨a, rfl, hl3⟩⟩, ?_, hl2⟩
    · rw [hl1]
      have : maxLen ≤ 9223372036854775807 := by decide
      omega
    · have := hw _ (by simp only [DataW.weights, hu]; exact List.mem_cons_self)
      simp only [List.length_map, List.length_range] at this
      rw [hB] at this
      rw [hl1]
      exact Nat.le_trans (Nat.mul_le_mul_right _ (by omega)) this
/-- Fields from a place on. -/
def OpensAt {α : Type} (P : Program) (off : Nat) (fs : List Field) (d : Kd α) (S : α → Prop) : Prop :=
  ∀ {H : Type} {enc : TypeId × Value → H} {W : World} {fuel : Nat} {cs : List Value} {xs : List (DataW H × List MemPlace)}, xs.length = fs.length → cs.length = off + d.sz →
    (∀ (i : Nat) (f : Field), fs[i]? = some f → DataW.trod enc P W 0 (fun _ => true) true fuel f.type ((cs.drop f.offset).take (P.cellsOf f.type)) = xs[i]?) →
    (∀ n ∈ DataW.weightsEach P (fs.map (·.type)) (xs.map (·.1)), n ≤ reachBytes) → ∃ v : α, d.K W v (cs.drop off) ∧ S v
theorem opensAt_last {α : Type} {off : Nat} {f : Field} {d : Kd α} {S : α → Prop} (ho : f.offset = off) (hc : P.cellsOf f.type = d.sz) (h : Opens P f.type d S) : OpensAt P off [f] d S := by
  intro H enc W fuel cs xs hl hcs hx hw
  match xs, hl with
  | [x], _ =>
    have h1 := hx 0 f rfl
    rw [ho, hc, List.take_of_length_le (by rw [List.length_drop]; omega)] at h1
    exact h h1 (fun n hn => hw n (by simp [DataW.weightsEach, hn]))
theorem opensAt_cons {α β : Type} {off : Nat} {f : Field} {fs : List Field} {d : Kd α} {b : Kd β} {S : α → Prop} {T : β → Prop} (ho : f.offset = off) (hc : P.cellsOf f.type = d.sz) (h : Opens P f.type d S) (hr : OpensAt P (off + d.sz) fs b T) :
    OpensAt P off (f :: fs) (Kd.pair d b) (fun x => S x.1 ∧ T x.2) := by
  intro H enc W fuel cs xs hl hcs hx hw
  match xs, hl with
  | x :: xs, hl =>
    have h1 := hx 0 f rfl
    rw [ho, hc] at h1
    obtain ⟨v, hk, hs⟩ := h h1 (fun n hn => hw n (by simp [DataW.weightsEach, hn]))
    have hcs' : cs.length = off + d.sz + b.sz := by rw [hcs]; exact (Nat.add_assoc _ _ _).symm
    obtain ⟨v2, hk2, hs2⟩ := hr (cs := cs) (xs := xs) (by simpa using hl) hcs' (fun i g hg => hx (i + 1) g hg) (fun n hn => hw n (by simp [DataW.weightsEach]; exact .inr (by simpa using hn)))
    refine ⟨(v, v2), ⟨_, _, ?_, hk, hk2⟩, hs, hs2⟩
    rw [← List.drop_drop, List.take_append_drop]
theorem opens_struct {α : Type} {t : TypeId} {fs : Array Field} {d : Kd α} {S : α → Prop} (hu : P.underlying t = some (.struct fs)) (hc : P.cellsOf t = d.sz) (h : OpensAt P 0 fs.toList d S) : Opens P t d S := by
  intro H enc W fuel cs x hx hw
  obtain ⟨xs, n, _, rfl, hl, hxl, hg⟩ := DataW.trod_struct hu hx
  have := h (enc := enc) (W := W) (fuel := n) (cs := cs) (xs := xs) (by simpa using hxl) (by rw [hl, hc, Nat.zero_add]) (fun i f hf => hg i f (by simpa using hf)) (fun q hq => hw q (by simp only [DataW.weights, hu]; exact hq))
  simpa using this
theorem opens_iso {α β : Type} {t : TypeId} {d : Kd α} {S : α → Prop} {T : β → Prop} {f : β → α} (g : α → β) (hfg : ∀ x, f (g x) = x) (hST : ∀ y, S (f y) → T y) (h : Opens P t d S) : Opens P t (Kd.iso d f) T := by
  intro H enc W fuel cs x hx hw
  obtain ⟨v, hk, hs⟩ := h hx hw
  exact ⟨g v, by show d.K W (f (g v)) cs; rw [hfg]; exact hk, hST _ (by rw [hfg]; exact hs)⟩
theorem opens_imp {α : Type} {t : TypeId} {d : Kd α} {S T : α → Prop} (h : Opens P t d S) (hST : ∀ y, S y → T y) : Opens P t d T := by
  intro H enc W fuel cs x hx hw
  obtain ⟨v, hk, hs⟩ := h hx hw
  exact ⟨v, hk, hST _ hs⟩
/-- An argument that is a slice. -/
theorem arg_slice {H : Type} {enc : TypeId × Value → H} {W : World} {α : Type} {t e : TypeId} {d : Kd α} {S : List α → Prop} {r : Reach} {b : Nat} {v : Value} {dd : DataW H} {ps : List MemPlace} {ts : List TypeId} {ds : List (DataW H)} {j : Nat}
    (hu : P.underlying t = some (.slice e)) (ho : Opens P t (Kd.slice e d) S) (hv : Value.okWide P W r b t v) (h : DataW.Trod enc P W 0 (fun _ => true) true t v dd ps)
    (hsz : (DataW.weightsEach P ts ds).all (· ≤ reachBytes) = true) (ht : ts[j]? = some t) (hd : ds[j]? = some dd) :
    ∃ A l c, v = .slice A (List.length l) c ∧ l.length ≤ c ∧ d.C W A l.length l ∧ S l := by
  obtain ⟨a, len, cap, rfl⟩ := okWide_slice hu hv
  obtain ⟨fuel, hf⟩ := h
  obtain ⟨l, ⟨A, c, hcs, hl, hr⟩, hs⟩ := ho hf (fun n hn => by
    have := List.all_eq_true.1 hsz n (DataW.weights_mem_each ht hd n hn)
    simpa using this)
  simp only [Value.cells, List.cons.injEq, and_true] at hcs
  exact ⟨A, l, c, by simpa using hcs, hl, hr, hs⟩
end Go.Proofs.Ytdobcojmfhdinaa.Op
