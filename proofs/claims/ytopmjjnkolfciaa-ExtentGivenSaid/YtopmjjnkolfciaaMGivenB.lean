/- MGiven: this session's texts for the one law, put together (part 2 of 5): what its program computes, function by function, and that this answers true; the row stands at the end of the last part. Conditions: those that each theorem names; the last theorem has none. -/
import Derived.RangeFuncNested
import Derived.RangeFuncBound
import Derived.RangeFuncCalls
import Derived.RangeFuncLeaves
import Derived.RangeFuncBox
import Derived.OrdersIn
import Derived.RangeFuncSeq
import Derived.Lib.AppendZerosOnto
import Derived.Lib.Overlaps
import Derived.Laws.Externs
import Derived.Laws.CopyRow
import Derived.Deep.DeepAppendWide
import Derived.Test.YtopmjjnkolfciaaMGivenA
section
namespace Go.Proofs.Ytopmjjnkolfciaa.Pr
open Go.RowKit Go.Proofs.YtopmjjnkolfciaaW.PrintWords Go.Proofs.YtopmjjnkolfciaaW.PrintLast Go.Proofs.YtopmjjnkolfciaaW.PrintMore
set_option linter.unusedVariables false
set_option linter.unusedSimpArgs false
theorem disjD_symm (a b : S24) : disjD a b = disjD b a := by
  unfold disjD
  exact decide_eq_decide.2 ⟨fun h => h.symm, fun h => h.symm⟩
theorem apartL_iff : ∀ l : List S24, apartL l = true ↔ l.Pairwise (fun a b => disjD a b = true)
  | [] => by simp [apartL]
  | e :: l => by
    rw [apartL, Bool.and_eq_true, List.all_eq_true, apartL_iff l, List.pairwise_cons]
theorem apart_ins {l : List S24} {e : S24} (h : apartL l = true) : apartL (insE l e) = true ↔ ∀ x ∈ l, disjD x e = true := by
  rw [apartL_iff] at h
  rw [← List.take_append_drop (behindN l e.f0) l, List.pairwise_append] at h
  rw [apartL_iff]
  unfold insE
  rw [List.pairwise_append, List.pairwise_cons]
  constructor
  · rintro ⟨h1, ⟨h2, h3⟩, h4⟩ x hx
    rw [← List.take_append_drop (behindN l e.f0) l] at hx
    rcases List.mem_append.1 hx with hx | hx
    · exact h4 x hx e List.mem_cons_self
    · rw [disjD_symm]; exact h2 x hx
  · intro h2
    refine ⟨h.1, ⟨fun x hx => by rw [disjD_symm]; exact h2 x (List.mem_of_mem_drop hx), h.2.1⟩, fun x hx y hy => ?_⟩
    rcases List.mem_cons.1 hy with rfl | hy
    · exact h2 x (List.mem_of_mem_take hx)
    · exact h.2.2 x hx y hy
theorem clash_iff {l : List S24} {e : S24} : clash l e = false ↔ (∀ x ∈ l, disjD x e = true) ∧ ∀ x ∈ l, disjF x e = true := by
  unfold clash
  rw [List.any_eq_false]
  constructor
  · intro h
    refine ⟨fun x hx => ?_, fun x hx => ?_⟩
    · have := h x hx
      cases hd : disjD x e
      · rw [hd] at this; simp at this
      · rfl
    · have := h x hx
      cases hd : disjF x e
      · rw [hd] at this; simp at this
      · rfl
  · rintro ⟨h1, h2⟩ x hx
    rw [h1 x hx, h2 x hx]; simp
theorem room_file {l : List S24} {e : S24} (hall : ∀ x ∈ l, mayE x = true) (hr : riseL l) (he : mayE e = true) (h : ∀ hi : behindN l e.f0 < l.length, ¬ l[behindN l e.f0].f0 < e.f0 + e.f2) : ∀ x ∈ l, disjF x e = true := by
  intro x hx
  have hm := mayE_facts he
  have hmx := mayE_facts (hall x hx)
  refine decide_eq_true ?_
  rw [← List.take_append_drop (behindN l e.f0) l] at hx
  rcases List.mem_append.1 hx with hx | hx
  · exact Or.inl (behind_take l e.f0 x hx)
  · by_cases hi : behindN l e.f0 < l.length
    · have h1 := h hi
      obtain ⟨j, hj, rfl⟩ := List.mem_iff_getElem.1 hx
      rw [List.getElem_drop]
      rw [List.length_drop] at hj
      by_cases j0 : j = 0
      · subst j0
        right
        simpa using (show e.f0 + e.f2 ≤ l[behindN l e.f0].f0 by omega)
      · have := List.pairwise_iff_getElem.1 hr (behindN l e.f0) (behindN l e.f0 + j) hi (by omega) (by omega)
        have := mayE_facts (hall l[behindN l e.f0] (List.getElem_mem hi))
        right; omega
    · rw [List.drop_of_length_le (by omega)] at hx
      cases hx
theorem no_room_file {l : List S24} {e : S24} (hall : ∀ x ∈ l, mayE x = true) (hr : riseL l) (he : mayE e = true) (hi : behindN l e.f0 < l.length) (h : l[behindN l e.f0].f0 < e.f0 + e.f2) : clash l e = true := by
  have hm := mayE_facts he
  have hd := behind_drop l e.f0 hr (fun y hy => by have := mayE_facts (hall y hy); omega) l[behindN l e.f0] (by rw [List.drop_eq_getElem_cons hi]; exact List.mem_cons_self)
  cases hc : clash l e
  · have := of_decide_eq_true ((clash_iff.1 hc).2 _ (List.getElem_mem hi))
    omega
  · rfl
theorem ins_may {l : List S24} {e : S24} (hall : ∀ x ∈ l, mayE x = true) (he : mayE e = true) : ∀ y ∈ insE l e, mayE y = true := fun y hy => by
  rcases insE_mem.1 hy with rfl | hy
  · exact he
  · exact hall y hy
theorem mayE_D {e : S24} (h : mayE e = true) : mayD e = true := by
  have := mayE_facts h
  exact decide_eq_true (by omega)
theorem insE_len (l : List S24) (e : S24) : (insE l e).length = l.length + 1 := by
  unfold insE
  rw [List.length_append, List.length_cons, List.length_take, List.length_drop]
  have := behindN_le l e.f0
  omega
theorem goesC_f (a b : S24) : extent_goes.f a.f0 a.f1 a.f2 a.f3 b.f0 b.f1 b.f2 b.f3 = some (goesR a b) := by
  unfold extent_goes.f extent_end.f extent_last.f goesR
  rw [Option.bind_some]
  by_cases h1 : wrap64 (a.f0 + a.f2) = b.f0
  · rw [if_pos h1, beq_iff_eq.2 h1, Option.bind_some]
    by_cases h2 : wrap64 (a.f1 + a.f2) = b.f1
    · rw [if_pos h2, beq_iff_eq.2 h2]; rfl
    · rw [if_neg h2, beq_eq_false_iff_ne.2 h2]; rfl
  · rw [if_neg h1, beq_eq_false_iff_ne.2 h1]; rfl
theorem merged_l0 (l : List S24) (hl : l.length < 4398046511104) : ∀ (d k i : Nat) (acc : List S24), i + d = l.length → d < k → acc.length ≤ i → extent_merged.l0 k acc l (l.length : Int) (i : Int) = some (fitL ((l.drop i).foldl addE acc))
  | 0, k, i, acc, h1, h2, h3 => by
    obtain ⟨k, rfl⟩ : ∃ m, k = m + 1 := ⟨k - 1, by omega⟩
    unfold extent_merged.l0
    rw [if_neg (by omega), List.drop_of_length_le (by omega)]
    show _ = some (fitL acc)
    unfold fitL
    by_cases c : acc.length > 60
    · rw [if_pos (by omega), if_pos c]
    · rw [if_neg (by omega), if_neg c]
  | d + 1, k, i, acc, h1, h2, h3 => by
    obtain ⟨k, rfl⟩ : ∃ m, k = m + 1 := ⟨k - 1, by omega⟩
    have hi : i < l.length := by omega
    have hw : wrap64 ((i : Int) + 1) = ((i + 1 : Nat) : Int) := by unfold wrap64; omega
    have hrd : rd_T24 l (i : Int) = l[i] := rd_in hi
    rw [List.drop_eq_getElem_cons hi, List.foldl_cons]
    unfold extent_merged.l0
    rw [if_pos (by omega), if_pos (by omega), if_pos (by omega), hrd, hw]
    obtain ⟨e, he⟩ : ∃ e, l[i] = e := ⟨_, rfl⟩
    rw [he]
    by_cases h0 : acc.length = 0
    · rw [if_neg (by omega), if_pos (by omega), merged_l0 l hl d k (i + 1) _ (by omega) (by omega) (by rw [List.length_append]; simp; omega)]
      unfold addE
      rw [if_pos h0]
    · obtain ⟨m, hm⟩ : ∃ m, acc.length - 1 = m := ⟨_, rfl⟩
      have hmw : wrap64 ((acc.length : Int) - 1) = (m : Int) := by unfold wrap64; omega
      have hrm : rd_T24 acc (m : Int) = acc.getD m z24 := rfl
      rw [if_pos (by omega), hmw, if_pos (by omega), if_pos (by omega), hrm, goesC_f, Option.bind_some]
      by_cases hg : goesR (acc.getD m z24) e = true
      · rw [if_pos hg, Int.toNat_natCast, merged_l0 l hl d k (i + 1) _ (by omega) (by omega) (by rw [List.length_set]; omega)]
        unfold addE
        rw [if_neg h0, hm, if_pos hg]
      · rw [if_neg hg, if_pos (by omega), merged_l0 l hl d k (i + 1) _ (by omega) (by omega) (by rw [List.length_append]; simp; omega)]
        unfold addE
        rw [if_neg h0, hm, if_neg hg]
theorem merged_f (l : List S24) (hl : l.length < 4398046511104) (k : Nat) (hk : l.length < k) : extent_merged.f k l = some (fitL (mergeL l)) := by
  unfold extent_merged.f
  have := merged_l0 l hl l.length k 0 [] (by omega) hk (Nat.le_refl _)
  rw [List.drop_zero] at this
  exact this
end Go.Proofs.Ytopmjjnkolfciaa.Pr
end
section
namespace Go.Proofs.Ytopmjjnkolfciaa.Sq
open Go Go.RowKit
variable {F : Fence} {n : Nat} {P : Program}
set_option linter.unusedVariables false
theorem range_state {α : Type} {g : Operand} {ps : Array Tmp} {assign body : Code} {Q : Exit → Act → World → Prop} {a : Act} {w : World}
    (hro : F.round = none) (h1 : 1 ≤ n) {gf : Nat} {lb : Array Value} (hg : a.eval g = .func (.func gf) #[] lb) (hFg : F.fn gf) (eg : ∀ args w, (callFunc gf args).run P w = .ok (.enter gf args) w)
    (encs : α → Array Value) (hps : ∀ x, (encs x).size = ps.size) (Kp : World → World → Prop) (S Sp : List α → Prop) (N : Nat)
    (hKt : ∀ {A B C : World}, Kp A B → Kp B C → Kp A C) (hKb : ∀ (W : World) (o : Obj), Kp W (W.putObj (w.heap.size + 1) o))
    (I : List α → World → Prop) (Ix : Code → List α → World → Prop) (hI : OwnFrom w.heap.size I) (hIx : ∀ c, OwnFrom w.heap.size (Ix c)) (h0 : I [] w) (As : Act → List α × α × World → World → Prop) (hAs : ∀ a', OwnFrom w.heap.size (As a'))
    (hit : ∀ (l : Nat) (R : World → Prop) (Rx : Code → World → Prop) (W : World), (∀ A B, KeepsFrom w.heap.size A B → R A → R B) → (∀ c A B, KeepsFrom w.heap.size A B → Rx c A → Rx c B) → (∀ A, R A → w.heap.size + 1 < A.heap.size) → Below w.heap.size w W →
      (∀ pre x W1, I pre W1 → R W1 → pre.length < N → YieldAt F (n - 1 - 1) P l (encs x) W1 fun e W' =>
        (e = .returned (.bool true) ∧ I (pre ++ [x]) W' ∧ R W' ∧ Kp W1 W') ∨ (e = .returned (.bool false) ∧ ∃ c, Ix c (pre ++ [x]) W' ∧ Rx c W')) →
      I [] W → R W →
      CallsIn F (n - 1) P gf (#[.func (.yield l) #[] #[]] ++ lb) W fun e W' => (∃ v, e = .returned v) ∧ ((∃ xs, S xs ∧ I xs W' ∧ R W') ∨ (∃ c pre, Sp pre ∧ Ix c pre W' ∧ Rx c W')))
    (hassign : ∀ (l : Nat) (pre : List α) (x : α) (W : World) (K : Act → World → Prop), I pre W → pre.length < N → w.heap.size + 1 < W.heap.size → (∀ a' W', KeepsFrom w.heap.size W W' → As a' (pre, x, W) W' → K a' W') →
      assign.wpIn (F.inRound l) (n - 1 - 1) P (Exit.then K (fun _ _ _ => False)) { tmps := (ps.zip (encs x)).foldl (fun t (p, v) => t.setIfInBounds p v) a.tmps, defers := [] } W)
    (hbody : ∀ (l : Nat) (pre : List α) (x : α) (a' : Act) (W0 W : World), As a' (pre, x, W0) W → pre.length < N → body.wpIn (F.inRound l) (n - 1 - 1) P (ownPostG w.heap.size (fun _ W' => Kp W0 W') I Ix (pre ++ [x]) W) a' W)
    (hdone : ∀ (D : Nat) (xs : List α) (W : World), w.heap.size ≤ D → S xs → I xs W → W.heap[D]? = some (.deferred (some [])) → Q .normal { a with defers := { target := .collected D, args := #[] } :: a.defers } W)
    (hstop : ∀ (D : Nat) (c : Code) (pre : List α) (W : World), w.heap.size ≤ D → Sp pre → Ix c pre W → W.heap[D]? = some (.deferred (some [])) → c.wpIn F n P Q { a with defers := { target := .collected D, args := #[] } :: a.defers } W) :
    (Code.rangeFunc g ps assign body).wpIn F n P Q a w := by
  refine wpIn_rangeFunc fun fn hfn => ?_
  rw [hro]
  obtain ⟨rec, hrec⟩ : ∃ rec : LoopState → Option Code → Loop, rec = fun st pe => { state := st, pending := pe, fn, tmps := a.tmps, params := ps, assign, body, defers := w.heap.size } := ⟨_, rfl⟩
  obtain ⟨d, hd⟩ : ∃ d, d = w.heap.size := ⟨_, rfl⟩
  obtain ⟨W1, hW1⟩ : ∃ W1, (w.alloc (.deferred (some []))).alloc (.loop (rec .ready none)) = W1 := ⟨_, rfl⟩
  obtain ⟨Rec, hRec⟩ : ∃ Rec : LoopState → Option Code → World → Prop, Rec = fun st pe W => W.heap[d + 1]? = some (.loop (rec st pe)) ∧ W.heap[d]? = some (.deferred (some [])) := ⟨_, rfl⟩
  have hkeep : ∀ st pe A B, KeepsFrom d A B → Rec st pe A → Rec st pe B := by
    subst hRec
    exact fun st pe A B hk h => ⟨hk.same _ _ (by omega) h.1 rfl, hk.same _ _ (Nat.le_refl _) h.2 rfl⟩
  have hput : ∀ st pe st' pe' A, Rec st pe A → Rec st' pe' (A.putObj (d + 1) (.loop (rec st' pe'))) := by
    subst hRec
    exact fun st pe st' pe' A h => ⟨World.putObj_heap_same (Array.getElem?_eq_some_iff.1 h.1).1, (World.putObj_heap_other (by omega)).trans h.2⟩
  have hblk : ∀ st pe A, Rec st pe A → A.heap[d + 1]? = some (.loop (rec st pe)) := by subst hRec; exact fun _ _ _ h => h.1
  have hdef : ∀ st pe A, Rec st pe A → A.heap[d]? = some (.deferred (some [])) := by subst hRec; exact fun _ _ _ h => h.2
  have hR1 : Rec .ready none W1 := by
    subst hRec hW1 hd
    refine ⟨?_, (Below.heap_alloc _ _ _ (by simp)).trans (World.alloc_heap_new w _)⟩
    have := World.alloc_heap_new (w.alloc (.deferred (some []))) (.loop (rec .ready none))
    rwa [World.size_alloc] at this
  have hI1 : I [] W1 := by rw [← hW1]; exact hI.alloc _ (hI.alloc _ h0)
  have hb1 : Below w.heap.size w W1 := by rw [← hW1]; exact ((Below.refl _ w).alloc (Nat.le_refl _) _).alloc (by simp) _
  have hIp : ∀ s W st pe o, I s W → Rec st pe W → I s (W.putObj (d + 1) o) := fun s W st pe o hs hr => hI.putObj _ hs (by omega) (hblk _ _ _ hr) rfl
  have hIxp : ∀ c s W st pe o, Ix c s W → Rec st pe W → Ix c s (W.putObj (d + 1) o) := fun c s W st pe o hs hr => (hIx c).putObj _ hs (by omega) (hblk _ _ _ hr) rfl
  refine ⟨d + 1, [{ target := .collected d, args := #[] }], W1, { target := .fn (.func gf) lb, args := #[.func (.yield (d + 1)) #[] #[]] }, W1, gf, #[.func (.yield (d + 1)) #[] #[]] ++ lb, W1, ?_, ?_, ?_, ?_, fun _ => h1, ?_⟩
  · rw [← hW1, hrec, hd]; exact run_enterLoop_outer _ _ _ _ _
  · simp only [resolve, hg]
    simp [go_sem]
  · intro f' hf'; simp [Target.leads] at hf'; subst hf'; exact hFg
  · simp [invoke, go_sem, eg]
  · refine (hit (d + 1) (Rec .ready none) (fun c => Rec .done (some c)) W1 (by rw [← hd]; exact hkeep _ _) (fun c => by rw [← hd]; exact hkeep _ _) (fun A h => by rw [← hd]; exact (Array.getElem?_eq_some_iff.1 (hblk _ _ _ h)).1) hb1 (fun pre x W hi hr hlen => ?_) hI1 hR1).mono ?_
    ·
      have hy := run_yield (P := P) (args := encs x) (hblk _ _ _ hr) (by rw [hrec]; exact hps x)
      rw [hrec] at hy
      have hsz : w.heap.size + 1 < W.heap.size := by rw [← hd]; exact (Array.getElem?_eq_some_iff.1 (hblk _ _ _ hr)).1
      refine ⟨fn, _, assign, body, hy, roundIn_of_wpIn hfn (hassign _ pre x W _ hi hlen hsz (fun a' W' hkW has => ?_))⟩
      rw [← hd] at hkW
      have hr' := hkeep _ _ _ _ hkW hr
      have hbeg := run_beginRound (P := P) (hblk _ _ _ hr') (by rw [hrec])
      rw [show ({ rec .ready none with state := .busy } : Loop) = rec .busy none by rw [hrec]] at hbeg
      refine ⟨_, hbeg, ?_⟩
      have hr2 := hput _ _ .busy none _ hr'
      refine wpIn_mono (hbody _ pre x a' W _ ((hAs a').putObj _ has (by omega) (hblk _ _ _ hr') rfl) hlen) ?_
      have fin : ∀ (jump : Option Code) (W3 : World), Rec .busy none W3 → (Instr.endRound (d + 1) jump).run P W3 = .ok (.bool jump.isNone) (W3.putObj (d + 1) (.loop (rec (if jump.isNone then .ready else .done) jump))) := fun jump W3 h3 => by
        have := run_endRound (P := P) jump (hblk _ _ _ h3)
        rw [show ({ rec .busy none with state := if jump.isNone then .ready else .done, pending := jump } : Loop) = rec (if jump.isNone then .ready else .done) jump by rw [hrec]] at this
        exact this
      rintro e a3 W3 hp
      cases e with
      | normal =>
        obtain ⟨hk3, hkp3, hi3⟩ := hp
        rw [← hd] at hk3
        have hr3 := hkeep _ _ _ _ hk3 hr2
        exact ⟨_, _, fin none W3 hr3, .inl ⟨rfl, hIp _ _ _ _ _ hi3 hr3, hput _ _ _ _ _ hr3, hKt hkp3 (by have := hKb W3 (.loop (rec .ready none)); rw [← hd] at this; exact this)⟩⟩
      | ret =>
        obtain ⟨hk3, hi3⟩ := hp
        rw [← hd] at hk3
        have hr3 := hkeep _ _ _ _ hk3 hr2
        exact ⟨_, _, fin (some .ret) W3 hr3, .inr ⟨rfl, .ret, hIxp _ _ _ _ _ _ hi3 hr3, hput _ _ _ _ _ hr3⟩⟩
      | exit id =>
        obtain ⟨hk3, hi3⟩ := hp
        rw [← hd] at hk3
        have hr3 := hkeep _ _ _ _ hk3 hr2
        exact ⟨_, _, fin (some (.exit id)) W3 hr3, .inr ⟨rfl, .exit id, hIxp _ _ _ _ _ _ hi3 hr3, hput _ _ _ _ _ hr3⟩⟩
      | goto t =>
        obtain ⟨hk3, hi3⟩ := hp
        rw [← hd] at hk3
        have hr3 := hkeep _ _ _ _ hk3 hr2
        exact ⟨_, _, fin (some (.goto t)) W3 hr3, .inr ⟨rfl, .goto t, hIxp _ _ _ _ _ _ hi3 hr3, hput _ _ _ _ _ hr3⟩⟩
      | panic ch => exact hp.elim
      | outgrown => exact hp.elim
    ·
      have out : ∀ st pe W2, st ≠ LoopState.busy → Rec st pe W2 → (Instr.endLoop (d + 1)).run P W2 = .ok pe (W2.putObj (d + 1) (.loop (rec .exhausted pe))) := fun st pe W2 hst h2 => by
        have := run_endLoop (P := P) (hblk _ _ _ h2) (by rw [hrec]; exact hst)
        rw [show ({ rec st pe with state := .exhausted } : Loop) = rec .exhausted pe by rw [hrec], show (rec st pe).pending = pe by rw [hrec]] at this
        exact this
      rintro e W2 ⟨⟨v, rfl⟩, (⟨xs, hS, hi, hr⟩ | ⟨c, pre, hSp, hi, hr⟩)⟩
      · refine ⟨none, _, out _ _ _ (by simp) hr, ?_⟩
        rw [hd] at *
        exact hdone _ xs _ (Nat.le_refl _) hS (by have := hIp _ _ _ _ (.loop (rec .exhausted none)) hi hr; rwa [hd] at this) (by have := hdef _ _ _ (hput _ _ .exhausted none _ hr); rwa [hd] at this)
      · refine ⟨some c, _, out _ _ _ (by simp) hr, ?_⟩
        exact hstop d c pre _ (by omega) hSp (hIxp _ _ _ _ _ _ hi hr) (hdef _ _ _ (hput _ _ .exhausted (some c) _ hr))
end Go.Proofs.Ytopmjjnkolfciaa.Sq
end
section
namespace Go.Proofs.Ytopmjjnkolfciaa.Sq
open Go Go.Proofs.YtopmjjnkolfciaaW.PrintLast
set_option linter.unusedVariables false
variable {n : Nat} {P : Program} {ops : Array Oper} {Q : Exit → Act → World → Prop} {md : Region.Mode}
theorem startW {id m : Nat} {a : Act} {w : World} (l : Array Bool) (hm : P.follows .mixedOrders = true) (hn : ops.size = m) (hl : Array.replicate m false = l)
    (h : wpAnyIn Fence.wide n P .any ops Q m l a w.drew) : (Code.region id ops true).wpIn Fence.wide n P Q a w := by
  subst hn
  subst hl
  exact wpIn_region_any hm h
theorem pureW {i : Nat} {N : Option Tmp} {oi : Oper} {v : Value} {fuel : Nat} {l : Array Bool} {a : Act} {w : World} (l' : Array Bool) (hi : ops[i]? = some oi) (hN : oi.dst = N) (hc : anyB md ops l l' i = true)
    (hQ : ∀ c a w, Q (.panic c) (a.put oi.dst v) w → Q (.panic c) a w) (hy : YieldsFenced P ops oi v a) {a' : Act} (ha : a.put N v = a')
    (h : wpAnyIn Fence.wide n P md ops Q fuel l' a' w) : wpAnyIn Fence.wide n P md ops Q (fuel + 1) l a w := by
  subst ha
  subst hN
  simp only [anyB, Bool.and_eq_true, beq_iff_eq] at hc
  obtain ⟨⟨⟨h1, h2⟩, h3⟩, h6⟩ := hc
  subst h6
  exact wpAnyIn_take rfl hi h1 h2 h3 hQ hy h
theorem oneW {i : Nat} {N : Option Tmp} {oi : Oper} {fuel : Nat} {l : Array Bool} {a : Act} {w : World} (l' : Array Bool) (hi : ops[i]? = some oi) (hN : oi.dst = N) (hc : ((Region.ready md ops l == [i]) && (l.setIfInBounds i true == l')) = true)
    (h : ∀ K : Act → World → Prop, Shut (∀ a' w', wpAnyIn Fence.wide n P md ops Q fuel l' a' w' → K a' w') → if Region.wanted oi (yielded ops a.tmps) = true then Oper.wpIn Fence.wide n P oi a w K Q else (∀ f, oi.about P w a.eval = some f → Fence.wide.fn f) ∧ K (a.put N undef) w) :
    wpAnyIn Fence.wide n P md ops Q (fuel + 1) l a w := by
  subst hN
  simp only [Bool.and_eq_true, beq_iff_eq] at hc
  obtain ⟨h1, h2⟩ := hc
  subst h2
  exact wpAnyIn_ready h1 (by simp) (AllReadyIn.cons hi (fun K hK => h K hK) AllReadyIn.nil)
theorem twoW {i j : Nat} {Ni Nj : Option Tmp} {oi oj : Oper} {fuel : Nat} {l : Array Bool} {a : Act} {w : World} (li lj : Array Bool) (hi : ops[i]? = some oi) (hj : ops[j]? = some oj) (hNi : oi.dst = Ni) (hNj : oj.dst = Nj) (hc : ((Region.ready md ops l == [i, j]) && (l.setIfInBounds i true == li) && (l.setIfInBounds j true == lj)) = true)
    (h1 : ∀ K : Act → World → Prop, Shut (∀ a' w', wpAnyIn Fence.wide n P md ops Q fuel li a' w' → K a' w') → if Region.wanted oi (yielded ops a.tmps) = true then Oper.wpIn Fence.wide n P oi a w K Q else (∀ f, oi.about P w a.eval = some f → Fence.wide.fn f) ∧ K (a.put Ni undef) w)
    (h2 : ∀ K : Act → World → Prop, Shut (∀ a' w', wpAnyIn Fence.wide n P md ops Q fuel lj a' w' → K a' w') → if Region.wanted oj (yielded ops a.tmps) = true then Oper.wpIn Fence.wide n P oj a w K Q else (∀ f, oj.about P w a.eval = some f → Fence.wide.fn f) ∧ K (a.put Nj undef) w) :
    wpAnyIn Fence.wide n P md ops Q (fuel + 1) l a w := by
  subst hNi
  subst hNj
  simp only [Bool.and_eq_true, beq_iff_eq] at hc
  obtain ⟨⟨h3, h4⟩, h5⟩ := hc
  subst h4
  subst h5
  exact wpAnyIn_ready h3 (by simp) (AllReadyIn.cons hi (fun K hK => h1 K hK) (AllReadyIn.cons hj (fun K hK => h2 K hK) AllReadyIn.nil))
theorem doneW {l : Array Bool} {a : Act} {w : World} {m : Nat} (hr : (Region.ready md ops l == []) = true) (h : Q .normal a w) : wpAnyIn Fence.wide n P md ops Q m l a w := wpAnyIn_done (by simpa using hr) h m
theorem normW {fuel : Nat} {l : Array Bool} {a a' : Act} {w : World} (ha : a = a') (h : wpAnyIn Fence.wide n P md ops Q fuel l a' w) : wpAnyIn Fence.wide n P md ops Q fuel l a w := by
  subst ha
  exact h
theorem valueW {oi : Oper} {N : Option Tmp} {a : Act} {w w1 : World} {v : Value} {K : Act → World → Prop} (hw : Region.wanted oi (yielded ops a.tmps) = true) (hN : oi.dst = N) (hrun : (execOp a.eval oi).run P w = .ok (.value v) w1)
    (h : K (a.put N v) w1) : if Region.wanted oi (yielded ops a.tmps) = true then Oper.wpIn Fence.wide n P oi a w K Q else (∀ f, oi.about P w a.eval = some f → Fence.wide.fn f) ∧ K (a.put N undef) w := by
  rw [if_pos hw]
  subst hN
  refine ⟨fun _ _ => trivial, ?_⟩
  show oi.uponIn Fence.wide n P a K Q ((execOp a.eval oi).run P w)
  rw [hrun]
  exact h
theorem offW {oi : Oper} {N : Option Tmp} {a : Act} {w : World} {K : Act → World → Prop} (hw : Region.wanted oi (yielded ops a.tmps) = false) (h : K (a.put N undef) w) : if Region.wanted oi (yielded ops a.tmps) = true then Oper.wpIn Fence.wide n P oi a w K Q else (∀ f, oi.about P w a.eval = some f → Fence.wide.fn f) ∧ K (a.put N undef) w := by
  rw [hw, if_neg (by simp)]
  exact ⟨fun _ _ => trivial, h⟩
theorem goesW {oi : Oper} {N : Option Tmp} {a : Act} {w : World} {K : Act → World → Prop} {f : FuncId} {fn : Func} {as_ : Array Operand} {ts : Array TypeId} (hf : P.funcs[f]? = some fn) (hname : (fn.name == "runtime.NumGoroutine") = false) (hb : fn.body.isSome = true) (args : Array Value)
    (hw : Region.wanted oi (yielded ops a.tmps) = true) (hN : oi.dst = N) (hop : oi.op = .call { callee := .value (.func f), args := as_, argTypes := ts }) (hargs : as_.map a.eval = args)
    (h : Calls P f args w fun e w' => ∃ v, e = .returned v ∧ K (a.put N v) w') : if Region.wanted oi (yielded ops a.tmps) = true then Oper.wpIn Fence.wide n P oi a w K Q else (∀ f, oi.about P w a.eval = some f → Fence.wide.fn f) ∧ K (a.put N undef) w := by
  have he := enters_ hf hname hb args w
  have hrun : (execOp a.eval oi).run P w = .ok (.enter f args) w := by
    unfold execOp
    simp [hop, resolve, Deferred.ofValue, invoke, Act.eval, hargs, he]
  rw [if_pos hw]
  subst hN
  refine ⟨fun _ _ => trivial, ?_⟩
  show oi.uponIn Fence.wide n P a K Q ((execOp a.eval oi).run P w)
  rw [hrun, Oper.uponIn_enter]
  refine ⟨fun h => by simp [Fence.wide] at h, callsIn_wide.2 (h.mono fun e w'' hh => ?_)⟩
  obtain ⟨v, rfl, hk⟩ := hh
  exact hk
theorem yieldW {oi : Oper} {N : Option Tmp} {a : Act} {w : World} {K : Act → World → Prop} {l : Nat} {cv : Operand} {as_ : Array Operand} {ts : Array TypeId} (args : Array Value)
    (hw : Region.wanted oi (yielded ops a.tmps) = true) (hN : oi.dst = N) (hop : oi.op = .call { callee := .value cv, args := as_, argTypes := ts }) (hcv : a.eval cv = .func (.yield l) #[] #[]) (hargs : as_.map a.eval = args) {R : Ending → World → Prop}
    (hy : YieldAt Fence.wide (n - 1) P l args w R) (h : ∀ e w', R e w' → ∃ v, e = .returned v ∧ K (a.put N v) w') : if Region.wanted oi (yielded ops a.tmps) = true then Oper.wpIn Fence.wide n P oi a w K Q else (∀ f, oi.about P w a.eval = some f → Fence.wide.fn f) ∧ K (a.put N undef) w := by
  obtain ⟨fn, tmps, assign, body, hr, hR⟩ := hy
  have hrun : (execOp a.eval oi).run P w = .ok (.round l fn tmps assign body) w := by
    unfold execOp
    simp [hop, resolve, Deferred.ofValue, invoke, hcv, hargs, hr]
  rw [if_pos hw]
  subst hN
  refine ⟨fun _ _ => trivial, ?_⟩
  show oi.uponIn Fence.wide n P a K Q ((execOp a.eval oi).run P w)
  rw [hrun, Oper.uponIn_round]
  refine ⟨fun h => by simp [Fence.wide] at h, hR.mono fun e w'' hh => ?_⟩
  obtain ⟨v, rfl, hk⟩ := h e w'' hh
  exact hk
end Go.Proofs.Ytopmjjnkolfciaa.Sq
end
section
namespace Go.Proofs.Ytopmjjnkolfciaa.Pr
open Go.RowKit Go.Proofs.YtopmjjnkolfciaaW.PrintWords Go.Proofs.YtopmjjnkolfciaaW.PrintLast Go.Proofs.YtopmjjnkolfciaaW.PrintMore
attribute [local go_sem] max2_int min2_int max_two min_two max_three min_three max_four min_four
attribute [local go_sem] Go.Proofs.Ytopmjjnkolfciaa.Hl.str_geq Go.Proofs.Ytopmjjnkolfciaa.Hl.str_gtr Go.Proofs.Ytopmjjnkolfciaa.Hl.str_leq
set_option linter.unusedVariables false
set_option linter.unusedSimpArgs false
def extent_may.f (a0_0 : Int) (a0_1 : Int) (a0_2 : Int) (a0_3 : Bool) : Option (Bool) := if a0_0 ≥ 0 then (if a0_1 > 0 then (if a0_2 > 0 then (if a0_2 ≤ 256 then ((extent_end.f a0_0 a0_1 a0_2 a0_3).bind fun t104 => (if t104 ≤ 256 then (if a0_1 < 1024 then ((extent_last.f a0_0 a0_1 a0_2 a0_3).bind fun t105 => (if t105 ≤ 1024 then (some (decide (a0_0 < 256))) else (some false))) else (some false)) else (some false))) else (some false)) else (some false)) else (some false)) else (some false)
set_option maxHeartbeats 8000000 in
set_option maxRecDepth 100000 in
theorem extent_may.calls (a0_0 : Int) (a0_1 : Int) (a0_2 : Int) (a0_3 : Bool) (r : Bool) (w : World) (h : extent_may.f a0_0 a0_1 a0_2 a0_3 = some r) :
  Calls Try.prog 34 #[.agg #[.int .i64 a0_0, .int .i64 a0_1, .int .i64 a0_2, .bool a0_3]] w fun e w' => e = .returned (.bool r) ∧ Below w.heap.size w w' := by
 have hu24 := Try.underlying24
 have HB := Aside0.mk (Below.refl w.heap.size w)
 have H : (if a0_0 ≥ 0 then (if a0_1 > 0 then (if a0_2 > 0 then (if a0_2 ≤ 256 then ((extent_end.f a0_0 a0_1 a0_2 a0_3).bind fun t104 => (if t104 ≤ 256 then (if a0_1 < 1024 then ((extent_last.f a0_0 a0_1 a0_2 a0_3).bind fun t105 => (if t105 ≤ 1024 then (some (decide (a0_0 < 256))) else (some false))) else (some false)) else (some false))) else (some false)) else (some false)) else (some false)) else (some false)) = some r := h
 clear h
 by_cases c2 : a0_0 ≥ 0
 ·rw [if_pos c2] at H
  have c2b0 : decide (0 ≤ a0_0) = true := decide_eq_true c2
  clear c2
  by_cases c3 : a0_1 > 0
  ·rw [if_pos c3] at H
   have c3b0 : decide (0 < a0_1) = true := decide_eq_true c3
   clear c3
   by_cases c4 : a0_2 > 0
   ·rw [if_pos c4] at H
    have c4b0 : decide (0 < a0_2) = true := decide_eq_true c4
    clear c4
    by_cases c5 : a0_2 ≤ 256
    ·rw [if_pos c5] at H
     have c5b0 : decide (a0_2 ≤ 256) = true := decide_eq_true c5
     clear c5
     replace H := Option.bind_eq_some_iff.mp H
     obtain ⟨t104, A60, H⟩ := H
     replace H : (if t104 ≤ 256 then (if a0_1 < 1024 then ((extent_last.f a0_0 a0_1 a0_2 a0_3).bind fun t105 => (if t105 ≤ 1024 then (some (decide (a0_0 < 256))) else (some false))) else (some false)) else (some false)) = some r := H
     have A6 := Aside0.mk A60
     clear A60
     by_cases c7 : t104 ≤ 256
     ·rw [if_pos c7] at H
      have c7b0 : decide (t104 ≤ 256) = true := decide_eq_true c7
      clear c7
      by_cases c8 : a0_1 < 1024
      ·rw [if_pos c8] at H
       have c8b0 : decide (a0_1 < 1024) = true := decide_eq_true c8
       clear c8
       replace H := Option.bind_eq_some_iff.mp H
       obtain ⟨t105, A90, H⟩ := H
       replace H : (if t105 ≤ 1024 then (some (decide (a0_0 < 256))) else (some false)) = some r := H
       have A9 := Aside0.mk A90
       clear A90
       by_cases c10 : t105 ≤ 1024
       ·rw [if_pos c10] at H
        have c10b0 : decide (t105 ≤ 1024) = true := decide_eq_true c10
        clear c10;obtain rfl := Option.some.inj H
        go_enter Try.func34, Try.ntmps34
        go_wp2_with (first | ((with_reducible refine gate_dst (N := 1) rfl ?_); refine box_event ?hg (N := 1) ?hd (cs := #[.int .i64 a0_0, .int .i64 a0_1, .int .i64 a0_2, .bool a0_3]) (t := 24) ?hr ?_; (case hd => rfl); (case hg => rfl); (case hr => first | (go_simp; done) | (go_simp; rfl)); intro gb103 hg w11 hbox hb; have n0_ := Aside0.mk (below_step (by repeat (first | (with_reducible first | exact HB.out | apply below_alloc | apply pw_below_drewN | apply below_drew1) | exact HB.out)) hb); have n1_ := Aside0.mk (hbox); have n2_ := Aside0.mk ((by rw [hg]; exact (below_size (by repeat (first | (with_reducible first | exact HB.out | apply below_alloc | apply pw_below_drewN | apply below_drew1) | exact HB.out))) : w.heap.size ≤ gb103)); have n3_ := Aside0.mk ((by rw [hg]; exact (below_size (by repeat (first | (with_reducible first | exact HB.out | apply below_alloc | apply pw_below_drewN | apply below_drew1) | exact HB.out))) : w.heap.size ≤ gb103)); clear HB; have HB := n0_; have BK103 := n1_; have GW103 := n2_; have GE103 := n3_; clear n0_ n1_ n2_ n3_; clear hb hbox hg; have hcz12_0 : w11.cell? ⟨gb103, 0, none⟩ = some (.int .i64 a0_0) := (blk_cell BK103.out 0).trans rfl; have hcz12_1 : w11.cell? ⟨gb103, 1, none⟩ = some (.int .i64 a0_1) := (blk_cell BK103.out 1).trans rfl; have hcz12_2 : w11.cell? ⟨gb103, 2, none⟩ = some (.int .i64 a0_2) := (blk_cell BK103.out 2).trans rfl; have hcz12_3 : w11.cell? ⟨gb103, 3, none⟩ = some (.bool a0_3) := (blk_cell BK103.out 3).trans rfl; have hfz12_0 := blk_frozen BK103.out 0; have hfz12_1 := blk_frozen BK103.out 1; have hfz12_2 := blk_frozen BK103.out 2; have hfz12_3 := blk_frozen BK103.out 3) | (go_at_call 35; (with_reducible refine (extent_end.calls a0_0 a0_1 a0_2 a0_3 t104 _ A6.out).mono ?_); rintro e w13 ⟨rfl, hb⟩; have n0_ := Aside0.mk (blk_below (g := gb103) (o := .cells #[.int .i64 a0_0, .int .i64 a0_1, .int .i64 a0_2, .bool a0_3] 24 (0, 0)) (by (with_reducible repeat (first | refine blk_drewN ?_ _ | refine blk_drew ?_ | refine blk_alloc ?_ _)); exact BK103.out) hb); have n1_ := Aside0.mk (below_step (by repeat (first | (with_reducible first | exact HB.out | apply below_alloc | apply pw_below_drewN | apply below_drew1 | refine below_set ?_ GE103.out) | exact HB.out)) hb); clear BK103; clear HB; have BK103 := n0_; have HB := n1_; clear n0_ n1_; (try clear hb); (try clear hb2); (try clear hk); (try clear hi); have hcz14_0 : w13.cell? ⟨gb103, 0, none⟩ = some (.int .i64 a0_0) := (blk_cell BK103.out 0).trans rfl; have hcz14_1 : w13.cell? ⟨gb103, 1, none⟩ = some (.int .i64 a0_1) := (blk_cell BK103.out 1).trans rfl; have hcz14_2 : w13.cell? ⟨gb103, 2, none⟩ = some (.int .i64 a0_2) := (blk_cell BK103.out 2).trans rfl; have hcz14_3 : w13.cell? ⟨gb103, 3, none⟩ = some (.bool a0_3) := (blk_cell BK103.out 3).trans rfl; have hfz14_0 := blk_frozen BK103.out 0; have hfz14_1 := blk_frozen BK103.out 1; have hfz14_2 := blk_frozen BK103.out 2; have hfz14_3 := blk_frozen BK103.out 3) | (go_at_call 65; (with_reducible refine (extent_last.calls a0_0 a0_1 a0_2 a0_3 t105 _ A9.out).mono ?_); rintro e w15 ⟨rfl, hb⟩; have n0_ := Aside0.mk (blk_below (g := gb103) (o := .cells #[.int .i64 a0_0, .int .i64 a0_1, .int .i64 a0_2, .bool a0_3] 24 (0, 0)) (by (with_reducible repeat (first | refine blk_drewN ?_ _ | refine blk_drew ?_ | refine blk_alloc ?_ _)); exact BK103.out) hb); have n1_ := Aside0.mk (below_step (by repeat (first | (with_reducible first | exact HB.out | apply below_alloc | apply pw_below_drewN | apply below_drew1 | refine below_set ?_ GE103.out) | exact HB.out)) hb); clear BK103; clear HB; have BK103 := n0_; have HB := n1_; clear n0_ n1_; (try clear hb); (try clear hb2); (try clear hk); (try clear hi); have hcz16_0 : w15.cell? ⟨gb103, 0, none⟩ = some (.int .i64 a0_0) := (blk_cell BK103.out 0).trans rfl; have hcz16_1 : w15.cell? ⟨gb103, 1, none⟩ = some (.int .i64 a0_1) := (blk_cell BK103.out 1).trans rfl; have hcz16_2 : w15.cell? ⟨gb103, 2, none⟩ = some (.int .i64 a0_2) := (blk_cell BK103.out 2).trans rfl; have hcz16_3 : w15.cell? ⟨gb103, 3, none⟩ = some (.bool a0_3) := (blk_cell BK103.out 3).trans rfl; have hfz16_0 := blk_frozen BK103.out 0; have hfz16_1 := blk_frozen BK103.out 1; have hfz16_2 := blk_frozen BK103.out 2; have hfz16_3 := blk_frozen BK103.out 3))
        go_ret
        exact ⟨by first | rfl | (simp [errW_none, errW_some] <;> rfl) | (simp [*, errW_none, errW_some] <;> rfl), by repeat (first | (with_reducible first | exact HB.out | apply below_alloc | apply pw_below_drewN | apply below_drew1 | refine below_set ?_ GE103.out) | exact HB.out)⟩
       ·rw [if_neg c10] at H
        have c10b0 : decide (t105 ≤ 1024) = false := decide_eq_false c10
        clear c10;obtain rfl := Option.some.inj H
        go_enter Try.func34, Try.ntmps34
        go_wp2_with (first | ((with_reducible refine gate_dst (N := 1) rfl ?_); refine box_event ?hg (N := 1) ?hd (cs := #[.int .i64 a0_0, .int .i64 a0_1, .int .i64 a0_2, .bool a0_3]) (t := 24) ?hr ?_; (case hd => rfl); (case hg => rfl); (case hr => first | (go_simp; done) | (go_simp; rfl)); intro gb103 hg w17 hbox hb; have n0_ := Aside0.mk (below_step (by repeat (first | (with_reducible first | exact HB.out | apply below_alloc | apply pw_below_drewN | apply below_drew1) | exact HB.out)) hb); have n1_ := Aside0.mk (hbox); have n2_ := Aside0.mk ((by rw [hg]; exact (below_size (by repeat (first | (with_reducible first | exact HB.out | apply below_alloc | apply pw_below_drewN | apply below_drew1) | exact HB.out))) : w.heap.size ≤ gb103)); have n3_ := Aside0.mk ((by rw [hg]; exact (below_size (by repeat (first | (with_reducible first | exact HB.out | apply below_alloc | apply pw_below_drewN | apply below_drew1) | exact HB.out))) : w.heap.size ≤ gb103)); clear HB; have HB := n0_; have BK103 := n1_; have GW103 := n2_; have GE103 := n3_; clear n0_ n1_ n2_ n3_; clear hb hbox hg; have hcz18_0 : w17.cell? ⟨gb103, 0, none⟩ = some (.int .i64 a0_0) := (blk_cell BK103.out 0).trans rfl; have hcz18_1 : w17.cell? ⟨gb103, 1, none⟩ = some (.int .i64 a0_1) := (blk_cell BK103.out 1).trans rfl; have hcz18_2 : w17.cell? ⟨gb103, 2, none⟩ = some (.int .i64 a0_2) := (blk_cell BK103.out 2).trans rfl; have hcz18_3 : w17.cell? ⟨gb103, 3, none⟩ = some (.bool a0_3) := (blk_cell BK103.out 3).trans rfl; have hfz18_0 := blk_frozen BK103.out 0; have hfz18_1 := blk_frozen BK103.out 1; have hfz18_2 := blk_frozen BK103.out 2; have hfz18_3 := blk_frozen BK103.out 3) | (go_at_call 35; (with_reducible refine (extent_end.calls a0_0 a0_1 a0_2 a0_3 t104 _ A6.out).mono ?_); rintro e w19 ⟨rfl, hb⟩; have n0_ := Aside0.mk (blk_below (g := gb103) (o := .cells #[.int .i64 a0_0, .int .i64 a0_1, .int .i64 a0_2, .bool a0_3] 24 (0, 0)) (by (with_reducible repeat (first | refine blk_drewN ?_ _ | refine blk_drew ?_ | refine blk_alloc ?_ _)); exact BK103.out) hb); have n1_ := Aside0.mk (below_step (by repeat (first | (with_reducible first | exact HB.out | apply below_alloc | apply pw_below_drewN | apply below_drew1 | refine below_set ?_ GE103.out) | exact HB.out)) hb); clear BK103; clear HB; have BK103 := n0_; have HB := n1_; clear n0_ n1_; (try clear hb); (try clear hb2); (try clear hk); (try clear hi); have hcz20_0 : w19.cell? ⟨gb103, 0, none⟩ = some (.int .i64 a0_0) := (blk_cell BK103.out 0).trans rfl; have hcz20_1 : w19.cell? ⟨gb103, 1, none⟩ = some (.int .i64 a0_1) := (blk_cell BK103.out 1).trans rfl; have hcz20_2 : w19.cell? ⟨gb103, 2, none⟩ = some (.int .i64 a0_2) := (blk_cell BK103.out 2).trans rfl; have hcz20_3 : w19.cell? ⟨gb103, 3, none⟩ = some (.bool a0_3) := (blk_cell BK103.out 3).trans rfl; have hfz20_0 := blk_frozen BK103.out 0; have hfz20_1 := blk_frozen BK103.out 1; have hfz20_2 := blk_frozen BK103.out 2; have hfz20_3 := blk_frozen BK103.out 3) | (go_at_call 65; (with_reducible refine (extent_last.calls a0_0 a0_1 a0_2 a0_3 t105 _ A9.out).mono ?_); rintro e w21 ⟨rfl, hb⟩; have n0_ := Aside0.mk (blk_below (g := gb103) (o := .cells #[.int .i64 a0_0, .int .i64 a0_1, .int .i64 a0_2, .bool a0_3] 24 (0, 0)) (by (with_reducible repeat (first | refine blk_drewN ?_ _ | refine blk_drew ?_ | refine blk_alloc ?_ _)); exact BK103.out) hb); have n1_ := Aside0.mk (below_step (by repeat (first | (with_reducible first | exact HB.out | apply below_alloc | apply pw_below_drewN | apply below_drew1 | refine below_set ?_ GE103.out) | exact HB.out)) hb); clear BK103; clear HB; have BK103 := n0_; have HB := n1_; clear n0_ n1_; (try clear hb); (try clear hb2); (try clear hk); (try clear hi)))
        go_ret
        exact ⟨by first | rfl | (simp [errW_none, errW_some] <;> rfl) | (simp [*, errW_none, errW_some] <;> rfl), by repeat (first | (with_reducible first | exact HB.out | apply below_alloc | apply pw_below_drewN | apply below_drew1 | refine below_set ?_ GE103.out) | exact HB.out)⟩
      ·rw [if_neg c8] at H
       have c8b0 : decide (a0_1 < 1024) = false := decide_eq_false c8
       clear c8;obtain rfl := Option.some.inj H
       go_enter Try.func34, Try.ntmps34
       go_wp2_with (first | ((with_reducible refine gate_dst (N := 1) rfl ?_); refine box_event ?hg (N := 1) ?hd (cs := #[.int .i64 a0_0, .int .i64 a0_1, .int .i64 a0_2, .bool a0_3]) (t := 24) ?hr ?_; (case hd => rfl); (case hg => rfl); (case hr => first | (go_simp; done) | (go_simp; rfl)); intro gb103 hg w22 hbox hb; have n0_ := Aside0.mk (below_step (by repeat (first | (with_reducible first | exact HB.out | apply below_alloc | apply pw_below_drewN | apply below_drew1) | exact HB.out)) hb); have n1_ := Aside0.mk (hbox); have n2_ := Aside0.mk ((by rw [hg]; exact (below_size (by repeat (first | (with_reducible first | exact HB.out | apply below_alloc | apply pw_below_drewN | apply below_drew1) | exact HB.out))) : w.heap.size ≤ gb103)); have n3_ := Aside0.mk ((by rw [hg]; exact (below_size (by repeat (first | (with_reducible first | exact HB.out | apply below_alloc | apply pw_below_drewN | apply below_drew1) | exact HB.out))) : w.heap.size ≤ gb103)); clear HB; have HB := n0_; have BK103 := n1_; have GW103 := n2_; have GE103 := n3_; clear n0_ n1_ n2_ n3_; clear hb hbox hg; have hcz23_0 : w22.cell? ⟨gb103, 0, none⟩ = some (.int .i64 a0_0) := (blk_cell BK103.out 0).trans rfl; have hcz23_1 : w22.cell? ⟨gb103, 1, none⟩ = some (.int .i64 a0_1) := (blk_cell BK103.out 1).trans rfl; have hcz23_2 : w22.cell? ⟨gb103, 2, none⟩ = some (.int .i64 a0_2) := (blk_cell BK103.out 2).trans rfl; have hcz23_3 : w22.cell? ⟨gb103, 3, none⟩ = some (.bool a0_3) := (blk_cell BK103.out 3).trans rfl; have hfz23_0 := blk_frozen BK103.out 0; have hfz23_1 := blk_frozen BK103.out 1; have hfz23_2 := blk_frozen BK103.out 2; have hfz23_3 := blk_frozen BK103.out 3) | (go_at_call 35; (with_reducible refine (extent_end.calls a0_0 a0_1 a0_2 a0_3 t104 _ A6.out).mono ?_); rintro e w24 ⟨rfl, hb⟩; have n0_ := Aside0.mk (blk_below (g := gb103) (o := .cells #[.int .i64 a0_0, .int .i64 a0_1, .int .i64 a0_2, .bool a0_3] 24 (0, 0)) (by (with_reducible repeat (first | refine blk_drewN ?_ _ | refine blk_drew ?_ | refine blk_alloc ?_ _)); exact BK103.out) hb); have n1_ := Aside0.mk (below_step (by repeat (first | (with_reducible first | exact HB.out | apply below_alloc | apply pw_below_drewN | apply below_drew1 | refine below_set ?_ GE103.out) | exact HB.out)) hb); clear BK103; clear HB; have BK103 := n0_; have HB := n1_; clear n0_ n1_; (try clear hb); (try clear hb2); (try clear hk); (try clear hi); have hcz25_0 : w24.cell? ⟨gb103, 0, none⟩ = some (.int .i64 a0_0) := (blk_cell BK103.out 0).trans rfl; have hcz25_1 : w24.cell? ⟨gb103, 1, none⟩ = some (.int .i64 a0_1) := (blk_cell BK103.out 1).trans rfl; have hcz25_2 : w24.cell? ⟨gb103, 2, none⟩ = some (.int .i64 a0_2) := (blk_cell BK103.out 2).trans rfl; have hcz25_3 : w24.cell? ⟨gb103, 3, none⟩ = some (.bool a0_3) := (blk_cell BK103.out 3).trans rfl; have hfz25_0 := blk_frozen BK103.out 0; have hfz25_1 := blk_frozen BK103.out 1; have hfz25_2 := blk_frozen BK103.out 2; have hfz25_3 := blk_frozen BK103.out 3))
       go_ret
       exact ⟨by first | rfl | (simp [errW_none, errW_some] <;> rfl) | (simp [*, errW_none, errW_some] <;> rfl), by repeat (first | (with_reducible first | exact HB.out | apply below_alloc | apply pw_below_drewN | apply below_drew1 | refine below_set ?_ GE103.out) | exact HB.out)⟩
     ·rw [if_neg c7] at H
      have c7b0 : decide (t104 ≤ 256) = false := decide_eq_false c7
      clear c7;obtain rfl := Option.some.inj H
      go_enter Try.func34, Try.ntmps34
      go_wp2_with (first | ((with_reducible refine gate_dst (N := 1) rfl ?_); refine box_event ?hg (N := 1) ?hd (cs := #[.int .i64 a0_0, .int .i64 a0_1, .int .i64 a0_2, .bool a0_3]) (t := 24) ?hr ?_; (case hd => rfl); (case hg => rfl); (case hr => first | (go_simp; done) | (go_simp; rfl)); intro gb103 hg w26 hbox hb; have n0_ := Aside0.mk (below_step (by repeat (first | (with_reducible first | exact HB.out | apply below_alloc | apply pw_below_drewN | apply below_drew1) | exact HB.out)) hb); have n1_ := Aside0.mk (hbox); have n2_ := Aside0.mk ((by rw [hg]; exact (below_size (by repeat (first | (with_reducible first | exact HB.out | apply below_alloc | apply pw_below_drewN | apply below_drew1) | exact HB.out))) : w.heap.size ≤ gb103)); have n3_ := Aside0.mk ((by rw [hg]; exact (below_size (by repeat (first | (with_reducible first | exact HB.out | apply below_alloc | apply pw_below_drewN | apply below_drew1) | exact HB.out))) : w.heap.size ≤ gb103)); clear HB; have HB := n0_; have BK103 := n1_; have GW103 := n2_; have GE103 := n3_; clear n0_ n1_ n2_ n3_; clear hb hbox hg; have hcz27_0 : w26.cell? ⟨gb103, 0, none⟩ = some (.int .i64 a0_0) := (blk_cell BK103.out 0).trans rfl; have hcz27_1 : w26.cell? ⟨gb103, 1, none⟩ = some (.int .i64 a0_1) := (blk_cell BK103.out 1).trans rfl; have hcz27_2 : w26.cell? ⟨gb103, 2, none⟩ = some (.int .i64 a0_2) := (blk_cell BK103.out 2).trans rfl; have hcz27_3 : w26.cell? ⟨gb103, 3, none⟩ = some (.bool a0_3) := (blk_cell BK103.out 3).trans rfl; have hfz27_0 := blk_frozen BK103.out 0; have hfz27_1 := blk_frozen BK103.out 1; have hfz27_2 := blk_frozen BK103.out 2; have hfz27_3 := blk_frozen BK103.out 3) | (go_at_call 35; (with_reducible refine (extent_end.calls a0_0 a0_1 a0_2 a0_3 t104 _ A6.out).mono ?_); rintro e w28 ⟨rfl, hb⟩; have n0_ := Aside0.mk (blk_below (g := gb103) (o := .cells #[.int .i64 a0_0, .int .i64 a0_1, .int .i64 a0_2, .bool a0_3] 24 (0, 0)) (by (with_reducible repeat (first | refine blk_drewN ?_ _ | refine blk_drew ?_ | refine blk_alloc ?_ _)); exact BK103.out) hb); have n1_ := Aside0.mk (below_step (by repeat (first | (with_reducible first | exact HB.out | apply below_alloc | apply pw_below_drewN | apply below_drew1 | refine below_set ?_ GE103.out) | exact HB.out)) hb); clear BK103; clear HB; have BK103 := n0_; have HB := n1_; clear n0_ n1_; (try clear hb); (try clear hb2); (try clear hk); (try clear hi)))
      go_ret
      exact ⟨by first | rfl | (simp [errW_none, errW_some] <;> rfl) | (simp [*, errW_none, errW_some] <;> rfl), by repeat (first | (with_reducible first | exact HB.out | apply below_alloc | apply pw_below_drewN | apply below_drew1 | refine below_set ?_ GE103.out) | exact HB.out)⟩
    ·rw [if_neg c5] at H
     have c5b0 : decide (a0_2 ≤ 256) = false := decide_eq_false c5
     clear c5;obtain rfl := Option.some.inj H
     go_enter Try.func34, Try.ntmps34
     go_wp2_with (first | ((with_reducible refine gate_dst (N := 1) rfl ?_); refine box_event ?hg (N := 1) ?hd (cs := #[.int .i64 a0_0, .int .i64 a0_1, .int .i64 a0_2, .bool a0_3]) (t := 24) ?hr ?_; (case hd => rfl); (case hg => rfl); (case hr => first | (go_simp; done) | (go_simp; rfl)); intro gb103 hg w29 hbox hb; have n0_ := Aside0.mk (below_step (by repeat (first | (with_reducible first | exact HB.out | apply below_alloc | apply pw_below_drewN | apply below_drew1) | exact HB.out)) hb); have n1_ := Aside0.mk (hbox); have n2_ := Aside0.mk ((by rw [hg]; exact (below_size (by repeat (first | (with_reducible first | exact HB.out | apply below_alloc | apply pw_below_drewN | apply below_drew1) | exact HB.out))) : w.heap.size ≤ gb103)); have n3_ := Aside0.mk ((by rw [hg]; exact (below_size (by repeat (first | (with_reducible first | exact HB.out | apply below_alloc | apply pw_below_drewN | apply below_drew1) | exact HB.out))) : w.heap.size ≤ gb103)); clear HB; have HB := n0_; have BK103 := n1_; have GW103 := n2_; have GE103 := n3_; clear n0_ n1_ n2_ n3_; clear hb hbox hg; have hcz30_0 : w29.cell? ⟨gb103, 0, none⟩ = some (.int .i64 a0_0) := (blk_cell BK103.out 0).trans rfl; have hcz30_1 : w29.cell? ⟨gb103, 1, none⟩ = some (.int .i64 a0_1) := (blk_cell BK103.out 1).trans rfl; have hcz30_2 : w29.cell? ⟨gb103, 2, none⟩ = some (.int .i64 a0_2) := (blk_cell BK103.out 2).trans rfl; have hcz30_3 : w29.cell? ⟨gb103, 3, none⟩ = some (.bool a0_3) := (blk_cell BK103.out 3).trans rfl; have hfz30_0 := blk_frozen BK103.out 0; have hfz30_1 := blk_frozen BK103.out 1; have hfz30_2 := blk_frozen BK103.out 2; have hfz30_3 := blk_frozen BK103.out 3))
     go_ret
     exact ⟨by first | rfl | (simp [errW_none, errW_some] <;> rfl) | (simp [*, errW_none, errW_some] <;> rfl), by repeat (first | (with_reducible first | exact HB.out | apply below_alloc | apply pw_below_drewN | apply below_drew1 | refine below_set ?_ GE103.out) | exact HB.out)⟩
   ·rw [if_neg c4] at H
    have c4b0 : decide (0 < a0_2) = false := decide_eq_false c4
    clear c4;obtain rfl := Option.some.inj H
    go_enter Try.func34, Try.ntmps34
    go_wp2_with (first | ((with_reducible refine gate_dst (N := 1) rfl ?_); refine box_event ?hg (N := 1) ?hd (cs := #[.int .i64 a0_0, .int .i64 a0_1, .int .i64 a0_2, .bool a0_3]) (t := 24) ?hr ?_; (case hd => rfl); (case hg => rfl); (case hr => first | (go_simp; done) | (go_simp; rfl)); intro gb103 hg w31 hbox hb; have n0_ := Aside0.mk (below_step (by repeat (first | (with_reducible first | exact HB.out | apply below_alloc | apply pw_below_drewN | apply below_drew1) | exact HB.out)) hb); have n1_ := Aside0.mk (hbox); have n2_ := Aside0.mk ((by rw [hg]; exact (below_size (by repeat (first | (with_reducible first | exact HB.out | apply below_alloc | apply pw_below_drewN | apply below_drew1) | exact HB.out))) : w.heap.size ≤ gb103)); have n3_ := Aside0.mk ((by rw [hg]; exact (below_size (by repeat (first | (with_reducible first | exact HB.out | apply below_alloc | apply pw_below_drewN | apply below_drew1) | exact HB.out))) : w.heap.size ≤ gb103)); clear HB; have HB := n0_; have BK103 := n1_; have GW103 := n2_; have GE103 := n3_; clear n0_ n1_ n2_ n3_; clear hb hbox hg; have hcz32_0 : w31.cell? ⟨gb103, 0, none⟩ = some (.int .i64 a0_0) := (blk_cell BK103.out 0).trans rfl; have hcz32_1 : w31.cell? ⟨gb103, 1, none⟩ = some (.int .i64 a0_1) := (blk_cell BK103.out 1).trans rfl; have hcz32_2 : w31.cell? ⟨gb103, 2, none⟩ = some (.int .i64 a0_2) := (blk_cell BK103.out 2).trans rfl; have hcz32_3 : w31.cell? ⟨gb103, 3, none⟩ = some (.bool a0_3) := (blk_cell BK103.out 3).trans rfl; have hfz32_0 := blk_frozen BK103.out 0; have hfz32_1 := blk_frozen BK103.out 1; have hfz32_2 := blk_frozen BK103.out 2; have hfz32_3 := blk_frozen BK103.out 3))
    go_ret
    exact ⟨by first | rfl | (simp [errW_none, errW_some] <;> rfl) | (simp [*, errW_none, errW_some] <;> rfl), by repeat (first | (with_reducible first | exact HB.out | apply below_alloc | apply pw_below_drewN | apply below_drew1 | refine below_set ?_ GE103.out) | exact HB.out)⟩
  ·rw [if_neg c3] at H
   have c3b0 : decide (0 < a0_1) = false := decide_eq_false c3
   clear c3;obtain rfl := Option.some.inj H
   go_enter Try.func34, Try.ntmps34
   go_wp2_with (first | ((with_reducible refine gate_dst (N := 1) rfl ?_); refine box_event ?hg (N := 1) ?hd (cs := #[.int .i64 a0_0, .int .i64 a0_1, .int .i64 a0_2, .bool a0_3]) (t := 24) ?hr ?_; (case hd => rfl); (case hg => rfl); (case hr => first | (go_simp; done) | (go_simp; rfl)); intro gb103 hg w33 hbox hb; have n0_ := Aside0.mk (below_step (by repeat (first | (with_reducible first | exact HB.out | apply below_alloc | apply pw_below_drewN | apply below_drew1) | exact HB.out)) hb); have n1_ := Aside0.mk (hbox); have n2_ := Aside0.mk ((by rw [hg]; exact (below_size (by repeat (first | (with_reducible first | exact HB.out | apply below_alloc | apply pw_below_drewN | apply below_drew1) | exact HB.out))) : w.heap.size ≤ gb103)); have n3_ := Aside0.mk ((by rw [hg]; exact (below_size (by repeat (first | (with_reducible first | exact HB.out | apply below_alloc | apply pw_below_drewN | apply below_drew1) | exact HB.out))) : w.heap.size ≤ gb103)); clear HB; have HB := n0_; have BK103 := n1_; have GW103 := n2_; have GE103 := n3_; clear n0_ n1_ n2_ n3_; clear hb hbox hg; have hcz34_0 : w33.cell? ⟨gb103, 0, none⟩ = some (.int .i64 a0_0) := (blk_cell BK103.out 0).trans rfl; have hcz34_1 : w33.cell? ⟨gb103, 1, none⟩ = some (.int .i64 a0_1) := (blk_cell BK103.out 1).trans rfl; have hcz34_2 : w33.cell? ⟨gb103, 2, none⟩ = some (.int .i64 a0_2) := (blk_cell BK103.out 2).trans rfl; have hcz34_3 : w33.cell? ⟨gb103, 3, none⟩ = some (.bool a0_3) := (blk_cell BK103.out 3).trans rfl; have hfz34_0 := blk_frozen BK103.out 0; have hfz34_1 := blk_frozen BK103.out 1; have hfz34_2 := blk_frozen BK103.out 2; have hfz34_3 := blk_frozen BK103.out 3))
   go_ret
   exact ⟨by first | rfl | (simp [errW_none, errW_some] <;> rfl) | (simp [*, errW_none, errW_some] <;> rfl), by repeat (first | (with_reducible first | exact HB.out | apply below_alloc | apply pw_below_drewN | apply below_drew1 | refine below_set ?_ GE103.out) | exact HB.out)⟩
 ·rw [if_neg c2] at H
  have c2b0 : decide (0 ≤ a0_0) = false := decide_eq_false c2
  clear c2;obtain rfl := Option.some.inj H
  go_enter Try.func34, Try.ntmps34
  go_wp2_with (first | ((with_reducible refine gate_dst (N := 1) rfl ?_); refine box_event ?hg (N := 1) ?hd (cs := #[.int .i64 a0_0, .int .i64 a0_1, .int .i64 a0_2, .bool a0_3]) (t := 24) ?hr ?_; (case hd => rfl); (case hg => rfl); (case hr => first | (go_simp; done) | (go_simp; rfl)); intro gb103 hg w35 hbox hb; have n0_ := Aside0.mk (below_step (by repeat (first | (with_reducible first | exact HB.out | apply below_alloc | apply pw_below_drewN | apply below_drew1) | exact HB.out)) hb); have n1_ := Aside0.mk (hbox); have n2_ := Aside0.mk ((by rw [hg]; exact (below_size (by repeat (first | (with_reducible first | exact HB.out | apply below_alloc | apply pw_below_drewN | apply below_drew1) | exact HB.out))) : w.heap.size ≤ gb103)); have n3_ := Aside0.mk ((by rw [hg]; exact (below_size (by repeat (first | (with_reducible first | exact HB.out | apply below_alloc | apply pw_below_drewN | apply below_drew1) | exact HB.out))) : w.heap.size ≤ gb103)); clear HB; have HB := n0_; have BK103 := n1_; have GW103 := n2_; have GE103 := n3_; clear n0_ n1_ n2_ n3_; clear hb hbox hg; have hcz36_0 : w35.cell? ⟨gb103, 0, none⟩ = some (.int .i64 a0_0) := (blk_cell BK103.out 0).trans rfl; have hcz36_1 : w35.cell? ⟨gb103, 1, none⟩ = some (.int .i64 a0_1) := (blk_cell BK103.out 1).trans rfl; have hcz36_2 : w35.cell? ⟨gb103, 2, none⟩ = some (.int .i64 a0_2) := (blk_cell BK103.out 2).trans rfl; have hcz36_3 : w35.cell? ⟨gb103, 3, none⟩ = some (.bool a0_3) := (blk_cell BK103.out 3).trans rfl; have hfz36_0 := blk_frozen BK103.out 0; have hfz36_1 := blk_frozen BK103.out 1; have hfz36_2 := blk_frozen BK103.out 2; have hfz36_3 := blk_frozen BK103.out 3))
  go_ret
  exact ⟨by first | rfl | (simp [errW_none, errW_some] <;> rfl) | (simp [*, errW_none, errW_some] <;> rfl), by repeat (first | (with_reducible first | exact HB.out | apply below_alloc | apply pw_below_drewN | apply below_drew1 | refine below_set ?_ GE103.out) | exact HB.out)⟩
end Go.Proofs.Ytopmjjnkolfciaa.Pr
end
section
namespace Go.Proofs.Ytopmjjnkolfciaa.Pr
open Go.RowKit Go.Proofs.YtopmjjnkolfciaaW.PrintWords Go.Proofs.YtopmjjnkolfciaaW.PrintLast Go.Proofs.YtopmjjnkolfciaaW.PrintMore
attribute [local go_sem] max2_int min2_int max_two min_two max_three min_three max_four min_four
attribute [local go_sem] Go.Proofs.Ytopmjjnkolfciaa.Hl.str_geq Go.Proofs.Ytopmjjnkolfciaa.Hl.str_gtr Go.Proofs.Ytopmjjnkolfciaa.Hl.str_leq
set_option linter.unusedVariables false
set_option linter.unusedSimpArgs false
def extent_apart.f (l0 : List S24) : Option Bool := if l0.all mayD = true ∧ l0.length < 4398046511104 then some (apartL l0) else none
set_option maxHeartbeats 8000000 in
set_option maxRecDepth 100000 in
theorem extent_apart.calls (A0 : Option Addr) (c0 : Nat) (l0 : List (S24)) (r : Bool) (w : World) (hr0 : Kd.C k24 w A0 l0.length l0) (hc0 : l0.length ≤ c0) (h : extent_apart.f l0 = some r) :
  Calls Try.prog 37 #[.slice A0 l0.length c0] w fun e w' => e = .returned (.bool r) ∧ Below w.heap.size w w' := by
 unfold extent_apart.f at h
 by_cases hall : l0.all mayD = true ∧ l0.length < 4398046511104
 ·rw [if_pos hall] at h
  have HL4 := Aside0.mk hall.2
  replace hall := hall.1
  obtain rfl := Option.some.inj h
  clear h
  have hu24 := Try.underlying24
  have HR0 := Aside0.mk hr0
  have HC0 := Aside0.mk hc0
  have HM := Aside0.mk hall
  clear hr0 hc0 hall
  go_enter Try.func37, Try.ntmps37
  go_wp2
  go_loopg [9] l0.length (fun kq v9 w' => ∃ (i : Nat) (ws : List Nat), v9 = .int .i64 (i : Int) ∧ Aside0 (i + kq = l0.length) ∧ Aside0 (apartL (l0.take i) = true) ∧ Aside0 (Taken ws (fun b => ∃ e ∈ l0.take i, inD e b)) ∧ Aside0 (w'.heap[w.heap.size]? = some (.cells (wordsV ws) 92 (0, 0))) ∧ Aside0 (Below w.heap.size w w'))
  case atStart => exact ⟨0, List.replicate 16 0, rfl, ⟨by omega⟩, ⟨rfl⟩, ⟨by simpa using Taken.none⟩, ⟨blk_new w _⟩, ⟨(Below.refl _ _).alloc (Nat.le_refl _) _⟩⟩
  case round =>
   obtain ⟨i, ws, rfl, HK, HA, HT, HG, HB⟩ := hrel
   cases gk with
   | zero =>
    have ei : i = l0.length := by have := HK.out; omega
    have hlt : decide (i < l0.length) = false := decide_eq_false (by omega)
    have hr : apartL l0 = true := by have := HA.out; rwa [ei, List.take_length] at this
    have HR := Aside0.mk hr
    clear ei hr;go_wp2;go_ret
    exact ⟨by rw [HR.out]; rfl, HB.out⟩
   | succ g =>
    have hil : i < l0.length := by have := HK.out; omega
    have hlt : decide (i < l0.length) = true := decide_eq_true (by omega)
    have hmay : mayD (rd_T24 l0 (i : Int)) = true := mayD_at HM.out hil
    have hi0 : (0 : Int) ≤ (i : Int) := by omega
    have hi1 : (i : Int) < (l0.length : Int) := by omega
    obtain ⟨ad, ead, hca, hcb, hcc, hcd⟩ := at_T24 HR0.out (i : Int) hi0 hi1
    cases ead
    simp only [Int.toNat_natCast] at hca hcb hcc hcd
    replace hca := (HB.out.cell (World.block_lt_of_cell? w _ hca)).trans hca
    replace hcb := (HB.out.cell (World.block_lt_of_cell? w _ hcb)).trans hcb
    replace hcc := (HB.out.cell (World.block_lt_of_cell? w _ hcc)).trans hcc
    replace hcd := (HB.out.cell (World.block_lt_of_cell? w _ hcd)).trans hcd
    obtain ⟨e, he⟩ : ∃ e, e = rd_T24 l0 (i : Int) := ⟨_, rfl⟩
    rw [← he] at hca hcb hcc hcd
    rw [← he] at hmay
    have HE := Aside0.mk he
    obtain ⟨hm1, hm2, hm3⟩ := of_decide_eq_true hmay
    have HM1 := Aside0.mk hm1
    have HM2 := Aside0.mk hm2
    have HM3 := Aside0.mk hm3
    clear he hmay hm1 hm2 hm3;go_wp2
    obtain ⟨lo, hlo⟩ : ∃ lo : Nat, e.f1 = (lo : Int) := ⟨e.f1.toNat, by have := HM1.out; omega⟩
    obtain ⟨hi, hhi⟩ : ∃ hi : Nat, e.f1 + e.f2 = (hi : Int) := ⟨(e.f1 + e.f2).toNat, by have := HM1.out; have := HM2.out; omega⟩
    have HG1 := Aside0.mk (blk_alloc HG.out (.cells #[.int .i64 e.f0, .int .i64 e.f1, .int .i64 e.f2, .bool e.f3] 24))
    have HE1 := Aside0.mk (blk_new wr (.cells #[.int .i64 e.f0, .int .i64 e.f1, .int .i64 e.f2, .bool e.f3] 24))
    have HB1 := Aside0.mk (HB.out.alloc HB.out.size (.cells #[.int .i64 e.f0, .int .i64 e.f1, .int .i64 e.f2, .bool e.f3] 24))
    have HNE := Aside0.mk (show w.heap.size ≠ wr.heap.size from fun h => by have := blk_lt HG.out; omega)
    have HLO := Aside0.mk (⟨hlo, hhi⟩ : e.f1 = (lo : Int) ∧ e.f1 + e.f2 = (hi : Int))
    have HHI := Aside0.mk (show lo < hi ∧ hi ≤ 1024 by have := HM2.out; have := HM3.out; omega)
    clear hca hcb hcc hcd HG HB hlo hhi
    generalize hW : wr.alloc (.cells #[.int .i64 e.f0, .int .i64 e.f1, .int .i64 e.f2, .bool e.f3] 24) = W1 at HG1 HE1 HB1 ⊢
    generalize hEB : wr.heap.size = eb at HE1 HNE ⊢
    clear hW hEB
    have hst : e.f1 = (lo : Int) := HLO.out.1
    go_loopg [6] (hi - lo) (fun kq v6 w' => ∃ (b : Nat) (us : List Nat), v6 = .int .i64 (b : Int) ∧ Aside0 (b + kq = hi) ∧ Aside0 (lo ≤ b) ∧ Aside0 (∀ x : Int, lo ≤ x → x < b → ¬ ∃ e ∈ l0.take i, inD e x) ∧ Aside0 (Taken us (fun x => (∃ e ∈ l0.take i, inD e x) ∨ ((lo : Int) ≤ x ∧ x < b))) ∧ Aside0 (w'.heap[w.heap.size]? = some (.cells (wordsV us) 92 (0, 0))) ∧ Aside0 (w'.heap[eb]? = some (.cells #[.int .i64 e.f0, .int .i64 e.f1, .int .i64 e.f2, .bool e.f3] 24 (0, 0))) ∧ Aside0 (Below w.heap.size w w'))
    case atStart => exact ⟨lo, ws, by rw [hst], ⟨by have := HHI.out; omega⟩, ⟨Nat.le_refl _⟩, ⟨fun x h1 h2 => by omega⟩, ⟨by
     have := HT.out
     have e0 : (fun x : Int => (∃ e ∈ l0.take i, inD e x) ∨ ((lo : Int) ≤ x ∧ x < lo)) = (fun x => ∃ e ∈ l0.take i, inD e x) := funext fun x => propext ⟨fun h => h.elim id (fun h => by omega), Or.inl⟩
     rw [e0]; exact this⟩, HG1, HE1, HB1⟩
    case round =>
     obtain ⟨b, us, rfl, HK2, HLB, HNO, HT2, HG2, HE2, HB2⟩ := hrel
     have hc0 := (blk_cell HE2.out 0).trans rfl
     have hc1 := (blk_cell HE2.out 1).trans rfl
     have hc2 := (blk_cell HE2.out 2).trans rfl
     have hc3 := (blk_cell HE2.out 3).trans rfl
     have hlast : extent_last.f e.f0 e.f1 e.f2 e.f3 = some (hi : Int) := by
      unfold extent_last.f
      have h1 := HLO.out.2
      have h2 := HHI.out.2
      have : wrap64 (e.f1 + e.f2) = (hi : Int) := by rw [h1]; unfold wrap64; omega
      rw [this]
     have HLA := Aside0.mk hlast
     clear hlast hst
     cases gk with
     | zero =>
      have hbh : decide (b < hi) = false := decide_eq_false (by have := HK2.out; omega)
      go_wp2_with (go_at_call 65; refine (extent_last.calls e.f0 e.f1 e.f2 e.f3 (hi : Int) _ HLA.out).mono ?_; rintro e3 w3 ⟨rfl, hb3⟩; have HG3 := Aside0.mk (blk_below HG2.out hb3); have HB3 := Aside0.mk (HB2.out.trans (hb3.mono HB2.out.size)); clear hb3)
      have hw1 : wrap64 ((i : Int) + 1) = ((i + 1 : Nat) : Int) := by have := HL4.out; have := HK.out; unfold wrap64; omega
      go_roundg g
      case measure => omega
      case rel =>
       have eb0 : b = hi := by have := HK2.out; omega
       have htk : l0.take (i + 1) = l0.take i ++ [e] := by rw [List.take_succ_eq_append_getElem hil, HE.out, rd_in hil]
       refine ⟨i + 1, us, by rw [hw1], ⟨by have := HK.out; omega⟩, ⟨?_⟩, ⟨?_⟩, HG3, HB3⟩
       ·rw [htk, apartL_snoc, HA.out, Bool.true_and]
        refine List.all_eq_true.2 fun x hx => disj_of (List.all_eq_true.1 HM.out x (List.mem_of_mem_take hx)) HM2.out fun y h1 h2 h3 => ?_
        exact HNO.out y (by have := HLO.out.1; omega) (by have := HLO.out.2; omega) ⟨x, hx, h3⟩
       ·have h9 := HT2.out
        have e0 : (fun x : Int => (∃ e ∈ l0.take i, inD e x) ∨ ((lo : Int) ≤ x ∧ x < b)) = (fun x => ∃ e ∈ l0.take (i + 1), inD e x) := funext fun x => propext ⟨fun h => by
         rcases h with ⟨y, h1, h2⟩ | h
         ·exact ⟨y, by rw [htk]; exact List.mem_append_left _ h1, h2⟩
         ·exact ⟨e, by rw [htk]; exact List.mem_append_right _ (by simp), by have := HLO.out.1; omega, by have := HLO.out.2; omega⟩, fun h => by
         obtain ⟨y, h1, h2, h3⟩ := h
         rw [htk] at h1
         rcases List.mem_append.1 h1 with h1 | h1
         ·exact Or.inl ⟨y, h1, h2, h3⟩
         ·rw [List.mem_singleton.1 h1] at h2 h3
          exact Or.inr (by have := HLO.out.1; have := HLO.out.2; omega)⟩
        rw [← e0]
        exact h9
     | succ g2 =>
      have hbh : decide (b < hi) = true := decide_eq_true (by have := HK2.out; omega)
      have htn : ((b : Int) / 64).toNat = b / 64 := by omega
      have hb16 : (0 : Int) ≤ (b : Int) / 64 ∧ (b : Int) / 64 < 16 := by have := HK2.out; have := HHI.out; omega
      obtain ⟨n, hn⟩ : ∃ n, us.getD (b / 64) 0 = n := ⟨_, rfl⟩
      have HN := Aside0.mk hn
      have hbl : b / 64 < us.length := by have := HT2.out.len; have := HK2.out; have := HHI.out; omega
      have HW := Aside0.mk (wordsV_get hbl)
      rw [hn] at HW
      have hn64 : n < 18446744073709551616 := by rw [← hn]; exact HT2.out.lt _
      have hb1024 : b < 1024 := by have := HK2.out; have := HHI.out; omega
      obtain ⟨c, hc⟩ : ∃ c, b % 64 = c := ⟨_, rfl⟩
      have hcl : c ≤ 64 := by omega
      have hand : bits .and .i64 (b : Int) 63 = (c : Int) := by rw [and63 b hb1024, hc]
      obtain ⟨m, hm⟩ : ∃ m, n / 2 ^ c = m := ⟨_, rfl⟩
      have hdiv : (n : Int) / 2 ^ c = (m : Int) := by rw [← hm]; push_cast; rfl
      have hm64 : m < 18446744073709551616 := by rw [← hm]; exact Nat.lt_of_le_of_lt (Nat.div_le_self _ _) hn64
      have htb : n.testBit c = decide (m % 2 = 1) := by rw [← hm, Nat.testBit_eq_decide_div_mod_eq]
      have hbit := HT2.out.bit b hb1024
      rw [hn, hc, htb, decide_eq_true_eq] at hbit
      have HC := Aside0.mk hc
      have HBIT := Aside0.mk hbit
      have HN64 := Aside0.mk hn64
      clear hn hbl hc hm htb hbit
      by_cases hq : m % 2 = 1
      ·have hone : bits .and .u64 (m : Int) 1 = 1 := by rw [bit1 m hm64, hq]; rfl
       have HRES := Aside0.mk (show apartL l0 = false by
        obtain ⟨x, hx, hxb⟩ := (HBIT.out.1 hq).elim id (fun h => absurd h.2 (by omega))
        have hsp : l0 = l0.take (i + 1) ++ l0.drop (i + 1) := (List.take_append_drop _ _).symm
        rw [hsp]
        refine apartL_app _ _ ?_
        rw [List.take_succ_eq_append_getElem hil, apartL_snoc]
        have he : l0[i] = e := by rw [HE.out, rd_in hil]
        rw [he]
        have hf : (l0.take i).all (fun x => disjD x e) = false := by
         refine Bool.eq_false_iff.2 fun h => ?_
         have h1 := List.all_eq_true.1 h x hx
         rw [disj_not hxb ⟨by have := HLO.out.1; have := HLB.out; omega, by have := HLO.out.2; have := HK2.out; omega⟩] at h1
         cases h1
        rw [hf, Bool.and_false])
       clear hq hm64 hb1024
       go_wp2_with (go_at_call 65; refine (extent_last.calls e.f0 e.f1 e.f2 e.f3 (hi : Int) _ HLA.out).mono ?_; rintro e3 w3 ⟨rfl, hb3⟩; have HG3 := Aside0.mk (blk_below HG2.out hb3); have HE3 := Aside0.mk (blk_below HE2.out hb3); have hc3w := (blk_cell HG3.out (b / 64)).trans HW.out; have HB3 := Aside0.mk (HB2.out.trans (hb3.mono HB2.out.size)); clear hb3)
       go_ret
       exact ⟨by rw [HRES.out]; rfl, HB3.out⟩
      ·have hone : bits .and .u64 (m : Int) 1 = 0 := by rw [bit1 m hm64, show m % 2 = 0 by omega]; rfl
       obtain ⟨p, hp⟩ : ∃ p : Nat, 2 ^ c = p := ⟨_, rfl⟩
       have hp64 : p < 18446744073709551616 := by rw [← hp]; exact Nat.pow_lt_pow_right (by decide) (show c < 64 by have := HC.out; omega)
       have hpw : IntKind.u64.wrap ((2 : Int) ^ c) = (p : Int) := by
        have : ((2 : Int) ^ c) = ((2 ^ c : Nat) : Int) := by push_cast; rfl
        rw [this, hp, u64_nat p hp64]
       obtain ⟨o, ho⟩ : ∃ o : Nat, n ||| p = o := ⟨_, rfl⟩
       have hor : bits .or .u64 (n : Int) (p : Int) = (o : Int) := by rw [or64 n p HN64.out hp64, ho]
       have HO := Aside0.mk (show n ||| 2 ^ c = o by rw [hp]; exact ho)
       have HNB := Aside0.mk (show ¬ ∃ e ∈ l0.take i, inD e (b : Int) from fun h => hq (HBIT.out.2 (Or.inl h)))
       have HB10 := Aside0.mk hb1024
       clear hq hm64 hb1024 hp hp64 ho
       go_wp2_with (go_at_call 65; refine (extent_last.calls e.f0 e.f1 e.f2 e.f3 (hi : Int) _ HLA.out).mono ?_; rintro e3 w3 ⟨rfl, hb3⟩; have HG3 := Aside0.mk (blk_below HG2.out hb3); have HE3 := Aside0.mk (blk_below HE2.out hb3); have hc3w := (blk_cell HG3.out (b / 64)).trans HW.out; have HB3 := Aside0.mk (HB2.out.trans (hb3.mono HB2.out.size)); clear hb3)
       have hf3 := blk_frozen HG3.out (b / 64)
       refine start_ (n := 10) (S := fun w' => w'.cell? ⟨w.heap.size, b / 64, none⟩ = some (.int .u64 (n : Int))) (ds := [9]) #[false, false, false, false, false, false, false, false, false, false] (by kernel_rfl) rfl rfl (hc3w) (fun hHeld => ?_)
       refine pure_ (i := 0) (N := some 30) (v := ?_) (a' := ?_) #[true, false, false, false, false, false, false, false, false, false] rfl rfl (by kernel_rfl) (fun _ _ _ h => h) (Or.inl ⟨by rfl, ?_⟩) ?_ ?_;rotate_left;(intro w';go_simp;with_reducible rfl);rotate_left;(simp only [Act.put, sIb, sC0, sCs, i64_w, i32_w];rfl);refine pure_ (i := 1) (N := some 31) (v := ?_) (a' := ?_) #[true, true, false, false, false, false, false, false, false, false] rfl rfl (by kernel_rfl) (fun _ _ _ h => h) (Or.inl ⟨by rfl, ?_⟩) ?_ ?_;rotate_left;(intro w';go_simp;with_reducible rfl);rotate_left;(simp only [Act.put, sIb, sC0, sCs, i64_w, i32_w];rfl);refine pure_ (i := 2) (N := some 32) (v := ?_) (a' := ?_) #[true, true, true, false, false, false, false, false, false, false] rfl rfl (by kernel_rfl) (fun _ _ _ h => h) (Or.inl ⟨by rfl, ?_⟩) ?_ ?_;rotate_left;(intro w';go_simp;with_reducible rfl);rotate_left;(simp only [Act.put, sIb, sC0, sCs, i64_w, i32_w];rfl);refine pure_ (i := 4) (N := some 34) (v := ?_) (a' := ?_) #[true, true, true, false, true, false, false, false, false, false] rfl rfl (by kernel_rfl) (fun _ _ _ h => h) (Or.inl ⟨by rfl, ?_⟩) ?_ ?_;rotate_left;(intro w';go_simp;with_reducible rfl);rotate_left;(simp only [Act.put, sIb, sC0, sCs, i64_w, i32_w];rfl);refine pure_ (i := 5) (N := some 35) (v := ?_) (a' := ?_) #[true, true, true, false, true, true, false, false, false, false] rfl rfl (by kernel_rfl) (fun _ _ _ h => h) (Or.inl ⟨by rfl, ?_⟩) ?_ ?_;rotate_left;(intro w';go_simp;with_reducible rfl);rotate_left;(simp only [Act.put, sIb, sC0, sCs, i64_w, i32_w];rfl);refine pure_ (i := 6) (N := some 36) (v := ?_) (a' := ?_) #[true, true, true, false, true, true, true, false, false, false] rfl rfl (by kernel_rfl) (fun _ _ _ h => h) (Or.inl ⟨by rfl, ?_⟩) ?_ ?_;rotate_left;(intro w';go_simp;with_reducible rfl);rotate_left;(simp only [Act.put, sIb, sC0, sCs, i64_w, i32_w];rfl);refine take_ (i := 3) (N := some 33) (v := ?_) (a' := ?_) #[true, true, true, true, true, true, true, false, false, false] rfl rfl (by kernel_rfl) (fun _ _ _ h => h) (Or.inl ⟨by rfl, ?_⟩) hHeld ?_ ?_;rotate_left
       ·intro w' s0
        go_simp;with_reducible rfl
       rotate_left;(simp only [Act.put, sIb, sC0, sCs, i64_w, i32_w];rfl);refine pure_ (i := 7) (N := some 37) (v := ?_) (a' := ?_) #[true, true, true, true, true, true, true, true, false, false] rfl rfl (by kernel_rfl) (fun _ _ _ h => h) (Or.inl ⟨by rfl, ?_⟩) ?_ ?_;rotate_left;(intro w';go_simp;with_reducible rfl);rotate_left;(simp only [Act.put, sIb, sC0, sCs, i64_w, i32_w];rfl);refine pure_ (i := 8) (N := some 38) (v := ?_) (a' := ?_) #[true, true, true, true, true, true, true, true, true, false] rfl rfl (by kernel_rfl) (fun _ _ _ h => h) (Or.inl ⟨by rfl, ?_⟩) ?_ ?_;rotate_left;(intro w';go_simp;with_reducible rfl);rotate_left;(simp only [Act.put, sIb, sC0, sCs, i64_w, i32_w];rfl)
       refine last_ (i := 9) (N := none) #[true, true, true, true, true, true, true, true, true, true] rfl rfl (by kernel_rfl) (by decide) (fun K hK => ?_)
       refine skip_ (w1 := ?_) (by rfl) rfl ?_ ?_
       rotate_left;(go_simp;rfl);refine hK.out _ _ ?_;clear hK K
       refine done_ (by kernel_rfl) ?_
       clear hf3 hc3w htn hb16 hand hdiv hone hpw hor;go_wp2
       have hw1 : wrap64 ((b : Int) + 1) = ((b + 1 : Nat) : Int) := by have := HK2.out; have := HHI.out; unfold wrap64; omega
       go_roundg g2
       case measure => omega
       case rel =>
        refine ⟨b + 1, us.set (b / 64) o, by rw [hw1], ⟨by have := HK2.out; omega⟩, ⟨by have := HLB.out; omega⟩, ⟨fun x h1 h2 => ?_⟩, ⟨?_⟩, ⟨?_⟩, ⟨?_⟩, ⟨?_⟩⟩
        ·by_cases hxb : x < b
         ·exact HNO.out x h1 hxb
         ·obtain rfl : x = b := by omega
          exact HNB.out
        ·have h9 := HT2.out.more HB10.out
         rw [HC.out, HN.out, HO.out] at h9
         have e0 : (fun x : Int => ((∃ e ∈ l0.take i, inD e x) ∨ ((lo : Int) ≤ x ∧ x < b)) ∨ x = b) = (fun x => (∃ e ∈ l0.take i, inD e x) ∨ ((lo : Int) ≤ x ∧ x < ((b + 1 : Nat) : Int))) := funext fun x => propext ⟨fun h => by
          rcases h with (h | h) | h
          ·exact Or.inl h
          ·exact Or.inr (by omega)
          ·exact Or.inr (by have := HLB.out; omega), fun h => by
          rcases h with h | h
          ·exact Or.inl (Or.inl h)
          ·by_cases hxb : x < b
           ·exact Or.inl (Or.inr ⟨h.1, hxb⟩)
           ·exact Or.inr (by omega)⟩
         rw [← e0]
         exact h9
        ·exact blk_drew (blk_put HG3.out (b / 64) (.int .u64 (o : Int)) (wordsV_set us (b / 64) o))
        ·exact blk_drew (blk_far HE3.out (p := ⟨w.heap.size, b / 64, none⟩) (fun h => HNE.out h.symm) _)
        ·exact below_drew1 (Hl.below_set_ HB3.out (Nat.le_refl _))
 ·rw [if_neg hall] at h
  cases h
end Go.Proofs.Ytopmjjnkolfciaa.Pr
end
section
namespace Go.Proofs.Ytopmjjnkolfciaa.Pr
open Go.RowKit Go.Proofs.YtopmjjnkolfciaaW.PrintWords Go.Proofs.YtopmjjnkolfciaaW.PrintLast Go.Proofs.YtopmjjnkolfciaaW.PrintMore
attribute [local go_sem] max2_int min2_int max_two min_two max_three min_three max_four min_four
attribute [local go_sem] Go.Proofs.Ytopmjjnkolfciaa.Hl.str_geq Go.Proofs.Ytopmjjnkolfciaa.Hl.str_gtr Go.Proofs.Ytopmjjnkolfciaa.Hl.str_leq
set_option linter.unusedVariables false
set_option linter.unusedSimpArgs false
def extent_Check.l0 : Nat → List (S24) → List (S24) → Int → Int → Option (Int)
 | 0, _, _, _, _ => none
 | k + 1, x0, x8, x9, x10 => if x10 < x9 then (if 0 ≤ x10 then (if x10 < (x8.length : Int) then ((extent_may.f ((rd_T24 x8 x10).f0) ((rd_T24 x8 x10).f1) ((rd_T24 x8 x10).f2) ((rd_T24 x8 x10).f3)).bind fun t113 => (if t113 = true then (if x10 > 0 then (if 0 ≤ (wrap64 (x10 - 1)) then (if (wrap64 (x10 - 1)) < (x0.length : Int) then ((extent_end.f ((rd_T24 x0 (wrap64 (x10 - 1))).f0) ((rd_T24 x0 (wrap64 (x10 - 1))).f1) ((rd_T24 x0 (wrap64 (x10 - 1))).f2) ((rd_T24 x0 (wrap64 (x10 - 1))).f3)).bind fun t115 => (if ((rd_T24 x8 x10).f0) < t115 then (some 1) else ((extent_goes.f ((rd_T24 x0 (wrap64 (x10 - 1))).f0) ((rd_T24 x0 (wrap64 (x10 - 1))).f1) ((rd_T24 x0 (wrap64 (x10 - 1))).f2) ((rd_T24 x0 (wrap64 (x10 - 1))).f3) ((rd_T24 x8 x10).f0) ((rd_T24 x8 x10).f1) ((rd_T24 x8 x10).f2) ((rd_T24 x8 x10).f3)).bind fun t117 => (if t117 = true then (some 1) else (extent_Check.l0 k x0 x8 x9 (wrap64 (x10 + 1))))))) else (none)) else (none)) else (extent_Check.l0 k x0 x8 x9 (wrap64 (x10 + 1)))) else (some 1))) else (none)) else (none)) else ((extent_apart.f x0).bind fun t110 => (if t110 = true then (some 0) else (some 1)))
def extent_Check.f (k : Nat) (l0 : List (S24)) : Option (Int) := if (l0.length : Int) > 60 then (some 1) else (extent_Check.l0 k l0 l0 (l0.length : Int) 0)
def extent_Check.T6 : Bool × List (List Nat × List Nat) := (true, [([], []), ([0], [0]), ([1], [1]), ([2, 1], [2]), ([3], [3]), ([4, 3], [3, 4]), ([5, 3, 3], [3, 5]), ([6], [6]), ([7, 6], [6, 7]), ([6], [6]), ([6], [6]), ([10, 6], [6, 10]), ([9, 11, 6], [6, 9, 11]), ([12, 6], [6, 12]), ([13, 6, 6], [6, 13]), ([8, 14, 6], [6, 8, 14]), ([15, 14, 6], [6, 15]), ([16], [16]), ([16], [16]), ([18, 16], [16, 18]), ([17, 19, 16], [16, 17, 19]), ([20, 16], [16, 20]), ([16], [16]), ([21, 22, 16, 16], [16, 21, 22]), ([16, 23, 6], [6, 16, 23]), ([6, 24, 3], [3, 6, 24]), ([3, 25], [3, 25])])
def extent_Check.B6 : List Nat := [0, 1, 3, 7, 15, 31, 63, 127, 255, 127, 127, 1151, 3711, 7807, 15999, 32767, 65535, 131071, 131071, 393215, 1048575, 2097151, 131071, 8388607, 16777215, 33554431, 67108863]
theorem extent_Check.tab6 : rtab .any (opsOf Try.f12 6) = extent_Check.T6 := by kernel_rfl
theorem extent_Check.bits6 : waitsOk extent_Check.T6.2 extent_Check.B6 = true := by kernel_rfl
set_option maxHeartbeats 8000000 in
set_option maxRecDepth 100000 in
theorem extent_Check.calls (k : Nat) (A0 : Option Addr) (c0 : Nat) (l0 : List (S24)) (r : Int) (w : World) (hr0 : Kd.C k24 w A0 l0.length l0) (hc0 : l0.length ≤ c0) (h : extent_Check.f k l0 = some r) :
  Calls Try.prog 12 #[.slice A0 l0.length c0] w fun e w' => e = .returned (.int .i64 r) ∧ Below w.heap.size w w' := by
 have hu24 := Try.underlying24
 have HR0 := Aside0.mk hr0
 have HC0 := Aside0.mk hc0
 clear hr0 hc0
 have HB := Aside0.mk (Below.refl w.heap.size w)
 have H : (if (l0.length : Int) > 60 then (some 1) else (extent_Check.l0 k l0 l0 (l0.length : Int) 0)) = some r := h
 clear h
 by_cases c2 : (l0.length : Int) > 60
 ·rw [if_pos c2] at H
  have c2b0 : decide (60 < (l0.length : Int)) = true := decide_eq_true c2
  have c2b1 : decide (60 < l0.length) = true := decide_eq_true (by omega)
  clear c2;obtain rfl := Option.some.inj H
  go_enter Try.func12, Try.ntmps12
  go_wp2;go_ret
  exact ⟨by first | rfl | (simp [errW_none, errW_some] <;> rfl) | (simp [*, errW_none, errW_some] <;> rfl), by repeat (first | (with_reducible first | exact HB.out | apply below_alloc | apply pw_below_drewN | apply below_drew1) | exact HB.out)⟩
 ·rw [if_neg c2] at H
  have c2b0 : decide (60 < (l0.length : Int)) = false := decide_eq_false c2
  have c2b1 : decide (60 < l0.length) = false := decide_eq_false (by omega)
  clear c2
  have H' := Aside0.mk H
  clear H
  go_enter Try.func12, Try.ntmps12
  go_wp2
  go_loopg [10] k (fun kq v10 w' => ∃ (x10_1 : Int), v10 = .int .i64 x10_1 ∧ Aside0 (extent_Check.l0 kq l0 l0 (l0.length : Int) x10_1 = some r) ∧ Aside0 (kq ≤ k) ∧ Aside0 (Below w.heap.size w w'))
  case atStart => exact ⟨(0), (by first | rfl | (simp; done) | (simp [*]; done)), H', ⟨Nat.le_refl _⟩, ⟨by repeat (first | (with_reducible first | exact HB.out | apply below_alloc | apply pw_below_drewN | apply below_drew1) | exact HB.out)⟩⟩
  case round =>
   clear H'
   try clear c1
   try clear c2
   try clear c2b0
   try clear c2b1
   try clear p2
   obtain ⟨x10_1, rfl, HA, HK1, HB⟩ := hrel
   cases gk with
   | zero => exact absurd HA.out (by intro h_; cases h_)
   | succ k1 =>
    have H := HA.out
    clear HA
    simp only [extent_Check.l0] at H
    by_cases c3 : x10_1 < (l0.length : Int)
    ·rw [if_pos c3] at H
     have c3b0 : decide (x10_1 < (l0.length : Int)) = true := decide_eq_true c3
     clear c3
     by_cases c4 : 0 ≤ x10_1
     ·rw [if_pos c4] at H
      have c4b0 : decide (0 ≤ x10_1) = true := decide_eq_true c4
      clear c4
      by_cases c5 : x10_1 < (l0.length : Int)
      ·rw [if_pos c5] at H
       have c5b0 : decide (x10_1 < (l0.length : Int)) = true := decide_eq_true c5
       clear c5
       replace H := Option.bind_eq_some_iff.mp H
       obtain ⟨t113, A60, H⟩ := H
       replace H : (if t113 = true then (if x10_1 > 0 then (if 0 ≤ (wrap64 (x10_1 - 1)) then (if (wrap64 (x10_1 - 1)) < (l0.length : Int) then ((extent_end.f ((rd_T24 l0 (wrap64 (x10_1 - 1))).f0) ((rd_T24 l0 (wrap64 (x10_1 - 1))).f1) ((rd_T24 l0 (wrap64 (x10_1 - 1))).f2) ((rd_T24 l0 (wrap64 (x10_1 - 1))).f3)).bind fun t115 => (if ((rd_T24 l0 x10_1).f0) < t115 then (some 1) else ((extent_goes.f ((rd_T24 l0 (wrap64 (x10_1 - 1))).f0) ((rd_T24 l0 (wrap64 (x10_1 - 1))).f1) ((rd_T24 l0 (wrap64 (x10_1 - 1))).f2) ((rd_T24 l0 (wrap64 (x10_1 - 1))).f3) ((rd_T24 l0 x10_1).f0) ((rd_T24 l0 x10_1).f1) ((rd_T24 l0 x10_1).f2) ((rd_T24 l0 x10_1).f3)).bind fun t117 => (if t117 = true then (some 1) else (extent_Check.l0 k1 l0 l0 (l0.length : Int) (wrap64 (x10_1 + 1))))))) else (none)) else (none)) else (extent_Check.l0 k1 l0 l0 (l0.length : Int) (wrap64 (x10_1 + 1)))) else (some 1)) = some r := H
       have A6 := Aside0.mk A60
       clear A60
       by_cases c7 : t113 = true
       ·subst c7
        have H1 : (if x10_1 > 0 then (if 0 ≤ (wrap64 (x10_1 - 1)) then (if (wrap64 (x10_1 - 1)) < (l0.length : Int) then ((extent_end.f ((rd_T24 l0 (wrap64 (x10_1 - 1))).f0) ((rd_T24 l0 (wrap64 (x10_1 - 1))).f1) ((rd_T24 l0 (wrap64 (x10_1 - 1))).f2) ((rd_T24 l0 (wrap64 (x10_1 - 1))).f3)).bind fun t115 => (if ((rd_T24 l0 x10_1).f0) < t115 then (some 1) else ((extent_goes.f ((rd_T24 l0 (wrap64 (x10_1 - 1))).f0) ((rd_T24 l0 (wrap64 (x10_1 - 1))).f1) ((rd_T24 l0 (wrap64 (x10_1 - 1))).f2) ((rd_T24 l0 (wrap64 (x10_1 - 1))).f3) ((rd_T24 l0 x10_1).f0) ((rd_T24 l0 x10_1).f1) ((rd_T24 l0 x10_1).f2) ((rd_T24 l0 x10_1).f3)).bind fun t117 => (if t117 = true then (some 1) else (extent_Check.l0 k1 l0 l0 (l0.length : Int) (wrap64 (x10_1 + 1))))))) else (none)) else (none)) else (extent_Check.l0 k1 l0 l0 (l0.length : Int) (wrap64 (x10_1 + 1)))) = some r := by rw [if_pos rfl] at H; exact H
        clear H;have H := H1;clear H1
        by_cases c8 : x10_1 > 0
        ·rw [if_pos c8] at H
         have c8b0 : decide (0 < x10_1) = true := decide_eq_true c8
         clear c8
         obtain ⟨ji9, hji9⟩ : ∃ j_ : Int, (wrap64 (x10_1 - 1)) = j_ := ⟨_, rfl⟩
         replace H : (if 0 ≤ (ji9) then (if (ji9) < (l0.length : Int) then ((extent_end.f ((rd_T24 l0 (ji9)).f0) ((rd_T24 l0 (ji9)).f1) ((rd_T24 l0 (ji9)).f2) ((rd_T24 l0 (ji9)).f3)).bind fun t115 => (if ((rd_T24 l0 x10_1).f0) < t115 then (some 1) else ((extent_goes.f ((rd_T24 l0 (ji9)).f0) ((rd_T24 l0 (ji9)).f1) ((rd_T24 l0 (ji9)).f2) ((rd_T24 l0 (ji9)).f3) ((rd_T24 l0 x10_1).f0) ((rd_T24 l0 x10_1).f1) ((rd_T24 l0 x10_1).f2) ((rd_T24 l0 x10_1).f3)).bind fun t117 => (if t117 = true then (some 1) else (extent_Check.l0 k1 l0 l0 (l0.length : Int) (wrap64 (x10_1 + 1))))))) else (none)) else (none)) = some r := by first | (rw [hji9] at H; exact H) | (simp only [hji9] at H ⊢; exact H)
         (try rw [hji9] at A6)
         have hji9w : (IntKind.i64.wrap (x10_1 - 1)) = ji9 := (i64_w _).trans hji9
         (try rw [hji9] at c2b0)
         (try rw [hji9] at c2b1)
         (try rw [hji9] at c3b0)
         (try rw [hji9] at c4b0)
         (try rw [hji9] at c5b0)
         (try rw [hji9] at c8b0)
         by_cases c10 : 0 ≤ (ji9)
         ·rw [if_pos c10] at H
          have c10b0 : decide (0 ≤ (ji9)) = true := decide_eq_true c10
          clear c10
          by_cases c11 : (ji9) < (l0.length : Int)
          ·rw [if_pos c11] at H
           have c11b0 : decide ((ji9) < (l0.length : Int)) = true := decide_eq_true c11
           clear c11
           replace H := Option.bind_eq_some_iff.mp H
           obtain ⟨t115, A120, H⟩ := H
           replace H : (if ((rd_T24 l0 x10_1).f0) < t115 then (some 1) else ((extent_goes.f ((rd_T24 l0 (ji9)).f0) ((rd_T24 l0 (ji9)).f1) ((rd_T24 l0 (ji9)).f2) ((rd_T24 l0 (ji9)).f3) ((rd_T24 l0 x10_1).f0) ((rd_T24 l0 x10_1).f1) ((rd_T24 l0 x10_1).f2) ((rd_T24 l0 x10_1).f3)).bind fun t117 => (if t117 = true then (some 1) else (extent_Check.l0 k1 l0 l0 (l0.length : Int) (wrap64 (x10_1 + 1)))))) = some r := H
           have A12 := Aside0.mk A120
           clear A120
           by_cases c13 : ((rd_T24 l0 x10_1).f0) < t115
           ·rw [if_pos c13] at H
            have c13b0 : decide (((rd_T24 l0 x10_1).f0) < t115) = true := decide_eq_true c13
            clear c13;obtain rfl := Option.some.inj H
            have p111 : 0 ≤ (x10_1 : Int) := of_decide_eq_true (by first | (with_reducible assumption) | assumption)
            have q111 : x10_1 < (l0.length : Int) := of_decide_eq_true (by first | (with_reducible assumption) | assumption)
            obtain ⟨ad111, e111, hx111_0, hx111_1, hx111_2, hx111_3⟩ := at_T24 HR0.out x10_1 p111 q111
            cases e111
            replace hx111_0 := (HB.out.cell (World.block_lt_of_cell? w _ hx111_0)).trans hx111_0
            replace hx111_1 := (HB.out.cell (World.block_lt_of_cell? w _ hx111_1)).trans hx111_1
            replace hx111_2 := (HB.out.cell (World.block_lt_of_cell? w _ hx111_2)).trans hx111_2
            replace hx111_3 := (HB.out.cell (World.block_lt_of_cell? w _ hx111_3)).trans hx111_3
            replace p111 := eq_true p111;replace q111 := eq_true q111
            try go_wp2_with (first | ((with_reducible refine gate_dst (N := 4) rfl ?_); refine box_event ?hg (N := 4) ?hd (cs := #[.int .i64 0, .int .i64 0, .int .i64 0, .bool false]) (t := 24) ?hr ?_; (case hd => rfl); (case hg => rfl); (case hr => first | (go_simp; done) | (go_simp; rfl)); intro gb112 hg w14 hbox hb; have n0_ := Aside0.mk (below_step (by repeat (first | (with_reducible first | exact HB.out | apply below_alloc | apply pw_below_drewN | apply below_drew1) | exact HB.out)) hb); have n1_ := Aside0.mk (hbox); have n2_ := Aside0.mk ((by rw [hg]; exact (below_size (by repeat (first | (with_reducible first | exact HB.out | apply below_alloc | apply pw_below_drewN | apply below_drew1) | exact HB.out))) : w.heap.size ≤ gb112)); have n3_ := Aside0.mk ((by rw [hg]; exact (below_size (by repeat (first | (with_reducible first | exact HB.out | apply below_alloc | apply pw_below_drewN | apply below_drew1) | exact HB.out))) : w.heap.size ≤ gb112)); clear HB; have HB := n0_; have BK112 := n1_; have GW112 := n2_; have GE112 := n3_; clear n0_ n1_ n2_ n3_; clear hb hbox hg; have hcz15_0 : w14.cell? ⟨gb112, 0, none⟩ = some (.int .i64 0) := (blk_cell BK112.out 0).trans rfl; have hcz15_1 : w14.cell? ⟨gb112, 1, none⟩ = some (.int .i64 0) := (blk_cell BK112.out 1).trans rfl; have hcz15_2 : w14.cell? ⟨gb112, 2, none⟩ = some (.int .i64 0) := (blk_cell BK112.out 2).trans rfl; have hcz15_3 : w14.cell? ⟨gb112, 3, none⟩ = some (.bool false) := (blk_cell BK112.out 3).trans rfl; have hfz15_0 := blk_frozen BK112.out 0; have hfz15_1 := blk_frozen BK112.out 1; have hfz15_2 := blk_frozen BK112.out 2; have hfz15_3 := blk_frozen BK112.out 3))
            have n0_ : Aside0 (((((w14.setCell ⟨gb112, 0, none⟩ (.int .i64 ((rd_T24 l0 x10_1).f0))).setCell ⟨gb112, 1, none⟩ (.int .i64 ((rd_T24 l0 x10_1).f1))).setCell ⟨gb112, 2, none⟩ (.int .i64 ((rd_T24 l0 x10_1).f2))).setCell ⟨gb112, 3, none⟩ (.bool ((rd_T24 l0 x10_1).f3))).heap[gb112]? = some (.cells #[.int .i64 ((rd_T24 l0 x10_1).f0), .int .i64 ((rd_T24 l0 x10_1).f1), .int .i64 ((rd_T24 l0 x10_1).f2), .bool ((rd_T24 l0 x10_1).f3)] 24 (0, 0))) := ⟨by (with_reducible repeat (first | refine blk_drewN ?_ _ | refine blk_drew ?_ | refine blk_alloc ?_ _)); refine blk_put (cs := #[.int .i64 ((rd_T24 l0 x10_1).f0), .int .i64 ((rd_T24 l0 x10_1).f1), .int .i64 ((rd_T24 l0 x10_1).f2), .bool false]) ?_ 3 _ rfl; (with_reducible repeat (first | refine blk_drewN ?_ _ | refine blk_drew ?_ | refine blk_alloc ?_ _)); refine blk_put (cs := #[.int .i64 ((rd_T24 l0 x10_1).f0), .int .i64 ((rd_T24 l0 x10_1).f1), .int .i64 0, .bool false]) ?_ 2 _ rfl; (with_reducible repeat (first | refine blk_drewN ?_ _ | refine blk_drew ?_ | refine blk_alloc ?_ _)); refine blk_put (cs := #[.int .i64 ((rd_T24 l0 x10_1).f0), .int .i64 0, .int .i64 0, .bool false]) ?_ 1 _ rfl; (with_reducible repeat (first | refine blk_drewN ?_ _ | refine blk_drew ?_ | refine blk_alloc ?_ _)); refine blk_put (cs := #[.int .i64 0, .int .i64 0, .int .i64 0, .bool false]) ?_ 0 _ rfl; (with_reducible repeat (first | refine blk_drewN ?_ _ | refine blk_drew ?_ | refine blk_alloc ?_ _)); exact BK112.out⟩
            have n1_ : Aside0 (Below w.heap.size w ((((w14.setCell ⟨gb112, 0, none⟩ (.int .i64 ((rd_T24 l0 x10_1).f0))).setCell ⟨gb112, 1, none⟩ (.int .i64 ((rd_T24 l0 x10_1).f1))).setCell ⟨gb112, 2, none⟩ (.int .i64 ((rd_T24 l0 x10_1).f2))).setCell ⟨gb112, 3, none⟩ (.bool ((rd_T24 l0 x10_1).f3)))) := ⟨by repeat (first | (with_reducible first | exact HB.out | apply below_alloc | apply pw_below_drewN | apply below_drew1 | refine below_set ?_ GE112.out) | exact HB.out)⟩
            (try clear BK112)
            (try clear HB)
            generalize ((((w14.setCell ⟨gb112, 0, none⟩ (.int .i64 ((rd_T24 l0 x10_1).f0))).setCell ⟨gb112, 1, none⟩ (.int .i64 ((rd_T24 l0 x10_1).f1))).setCell ⟨gb112, 2, none⟩ (.int .i64 ((rd_T24 l0 x10_1).f2))).setCell ⟨gb112, 3, none⟩ (.bool ((rd_T24 l0 x10_1).f3))) = w16 at n0_ n1_ ⊢
            have BK112 := n0_;have HB := n1_;clear n0_ n1_
            have n0_ := Aside0.mk (blk_drew BK112.out)
            have n1_ := Aside0.mk (below_drew1 HB.out)
            clear BK112;clear HB;have BK112 := n0_;have HB := n1_;clear n0_ n1_
            have p114 : 0 ≤ ((ji9) : Int) := of_decide_eq_true (by first | (with_reducible assumption) | assumption)
            have q114 : (ji9) < (l0.length : Int) := of_decide_eq_true (by first | (with_reducible assumption) | assumption)
            obtain ⟨ad114, e114, hx114_0, hx114_1, hx114_2, hx114_3⟩ := at_T24 HR0.out (ji9) p114 q114
            have hw114_3 := hx114_3;have hw114_2 := hx114_2;have hw114_1 := hx114_1;have hw114_0 := hx114_0
            obtain rfl : ad111 = ad114 := (by injection e114)
            replace hx114_0 := (HB.out.cell (World.block_lt_of_cell? w _ hx114_0)).trans hx114_0
            replace hx114_1 := (HB.out.cell (World.block_lt_of_cell? w _ hx114_1)).trans hx114_1
            replace hx114_2 := (HB.out.cell (World.block_lt_of_cell? w _ hx114_2)).trans hx114_2
            replace hx114_3 := (HB.out.cell (World.block_lt_of_cell? w _ hx114_3)).trans hx114_3
            replace p114 := eq_true p114;replace q114 := eq_true q114
            refine start_ (n := 27) (S := fun w' => w'.cell? ⟨gb112, 0, none⟩ = some (.int .i64 ((rd_T24 l0 x10_1).f0)) ∧ w'.cell? ⟨gb112, 1, none⟩ = some (.int .i64 ((rd_T24 l0 x10_1).f1)) ∧ w'.cell? ⟨gb112, 2, none⟩ = some (.int .i64 ((rd_T24 l0 x10_1).f2)) ∧ w'.cell? ⟨gb112, 3, none⟩ = some (.bool ((rd_T24 l0 x10_1).f3)) ∧ w'.cell? (ad111.add (((ji9)).toNat * 4)) = some (.int .i64 ((rd_T24 l0 (ji9)).f0)) ∧ w'.cell? ⟨(ad111.add (((ji9)).toNat * 4)).block, (ad111.add (((ji9)).toNat * 4)).off + 1, none⟩ = some (.int .i64 ((rd_T24 l0 (ji9)).f1)) ∧ w'.cell? ⟨(ad111.add (((ji9)).toNat * 4)).block, (ad111.add (((ji9)).toNat * 4)).off + 2, none⟩ = some (.int .i64 ((rd_T24 l0 (ji9)).f2)) ∧ w'.cell? ⟨(ad111.add (((ji9)).toNat * 4)).block, (ad111.add (((ji9)).toNat * 4)).off + 3, none⟩ = some (.bool ((rd_T24 l0 (ji9)).f3))) (ds := []) #[false, false, false, false, false, false, false, false, false, false, false, false, false, false, false, false, false, false, false, false, false, false, false, false, false, false, false] (by kernel_rfl) rfl rfl ⟨(blk_cell BK112.out 0).trans rfl, (blk_cell BK112.out 1).trans rfl, (blk_cell BK112.out 2).trans rfl, (blk_cell BK112.out 3).trans rfl, ((HB.out.cell (World.block_lt_of_cell? w _ hw114_0)).trans hw114_0), ((HB.out.cell (World.block_lt_of_cell? w _ hw114_1)).trans hw114_1), ((HB.out.cell (World.block_lt_of_cell? w _ hw114_2)).trans hw114_2), ((HB.out.cell (World.block_lt_of_cell? w _ hw114_3)).trans hw114_3)⟩ (fun hHeld => ?_); refine with_tabW extent_Check.tab6 extent_Check.bits6 (fun HT_ HW_ => ?_)
            generalize w16.drew = w17 at BK112 HB hx114_0 hx114_1 hx114_2 hx114_3 hHeld ⊢
            refine take_ (i := 0) (N := some 15) (v := ?_) (a' := ?_) #[true, false, false, false, false, false, false, false, false, false, false, false, false, false, false, false, false, false, false, false, false, false, false, false, false, false, false] rfl rfl (take_ofW HT_.out HW_.out (by kernel_rfl)) (fun _ _ _ h => h) (Or.inl ⟨by rfl, ?_⟩) hHeld ?_ ?_;rotate_left
            ·rintro w' ⟨s0, s1, s2, s3, s4, s5, s6, s7⟩
             go_simp;with_reducible rfl
            rotate_left;(simp only [Act.put, sIb, sC0, sCs, i64_w, i32_w];rfl)
            refine one_ (i := 1) (N := some 16) #[true, true, false, false, false, false, false, false, false, false, false, false, false, false, false, false, false, false, false, false, false, false, false, false, false, false, false] rfl rfl (one_of HT_.out (by kernel_rfl)) (by decide) (fun K hK => ?_)
            refine goes_ Try.func34 (by kernel_rfl) rfl #[.agg #[.int .i64 ((rd_T24 l0 x10_1).f0), .int .i64 ((rd_T24 l0 x10_1).f1), .int .i64 ((rd_T24 l0 x10_1).f2), .bool ((rd_T24 l0 x10_1).f3)]] (by rfl) rfl rfl (by (try simp only [List.map_toArray, List.map_cons, List.map_nil]); first | done | rfl | (simp only [List.length_drop, List.length_take]; rfl)) ?_
            with_reducible refine (extent_may.calls ((rd_T24 l0 x10_1).f0) ((rd_T24 l0 x10_1).f1) ((rd_T24 l0 x10_1).f2) ((rd_T24 l0 x10_1).f3) true _ A6.out).mono ?_
            rintro e w18 ⟨rfl, hb⟩
            refine ⟨_, rfl, ?_⟩
            have n0_ := Aside0.mk (blk_below (g := gb112) (o := .cells #[.int .i64 ((rd_T24 l0 x10_1).f0), .int .i64 ((rd_T24 l0 x10_1).f1), .int .i64 ((rd_T24 l0 x10_1).f2), .bool ((rd_T24 l0 x10_1).f3)] 24 (0, 0)) (by (with_reducible repeat (first | refine blk_drewN ?_ _ | refine blk_drew ?_ | refine blk_alloc ?_ _)); exact BK112.out) hb)
            have n1_ := Aside0.mk (below_step (by repeat (first | (with_reducible first | exact HB.out | apply below_alloc | apply pw_below_drewN | apply below_drew1 | refine below_set ?_ GE112.out) | exact HB.out)) hb)
            clear BK112;clear HB;have BK112 := n0_;have HB := n1_;clear n0_ n1_
            (try clear hb)
            (try clear hb2)
            (try clear hk)
            (try clear hi)
            refine hK.out _ _ ⟨(blk_cell BK112.out 0).trans rfl, (blk_cell BK112.out 1).trans rfl, (blk_cell BK112.out 2).trans rfl, (blk_cell BK112.out 3).trans rfl, ((HB.out.cell (World.block_lt_of_cell? w _ hw114_0)).trans hw114_0), ((HB.out.cell (World.block_lt_of_cell? w _ hw114_1)).trans hw114_1), ((HB.out.cell (World.block_lt_of_cell? w _ hw114_2)).trans hw114_2), ((HB.out.cell (World.block_lt_of_cell? w _ hw114_3)).trans hw114_3)⟩ (fun hHeld => ?_)
            clear hK K;refine norm_ (a' := ?_) ?_ ?_;rotate_left
            ·show Act.put _ (some 16) _ = _
             simp only [Act.put, sIb, sC0, sCs, i64_w, i32_w];rfl
            refine pure_ (i := 2) (N := some 17) (v := ?_) (a' := ?_) #[true, true, true, false, false, false, false, false, false, false, false, false, false, false, false, false, false, false, false, false, false, false, false, false, false, false, false] rfl rfl (any_of HT_.out (by kernel_rfl)) (fun _ _ _ h => h) (Or.inl ⟨by rfl, ?_⟩) ?_ ?_;rotate_left;(intro w';go_simp;with_reducible rfl);rotate_left;(simp only [Act.put, sIb, sC0, sCs, i64_w, i32_w];rfl);refine pure_ (i := 3) (N := some 18) (v := ?_) (a' := ?_) #[true, true, true, true, false, false, false, false, false, false, false, false, false, false, false, false, false, false, false, false, false, false, false, false, false, false, false] rfl rfl (any_of HT_.out (by kernel_rfl)) (fun _ _ _ h => h) (Or.inl ⟨by rfl, ?_⟩) ?_ ?_;rotate_left;(intro w';go_simp;with_reducible rfl);rotate_left;(simp only [Act.put, sIb, sC0, sCs, i64_w, i32_w];rfl);refine pure_ (i := 4) (N := some 19) (v := ?_) (a' := ?_) #[true, true, true, true, true, false, false, false, false, false, false, false, false, false, false, false, false, false, false, false, false, false, false, false, false, false, false] rfl rfl (any_of HT_.out (by kernel_rfl)) (fun _ _ _ h => h) (Or.inl ⟨by rfl, ?_⟩) ?_ ?_;rotate_left;(intro w';go_simp;with_reducible rfl);rotate_left;(simp only [Act.put, sIb, sC0, sCs, i64_w, i32_w];rfl);refine pure_ (i := 5) (N := some 20) (v := ?_) (a' := ?_) #[true, true, true, true, true, true, false, false, false, false, false, false, false, false, false, false, false, false, false, false, false, false, false, false, false, false, false] rfl rfl (any_of HT_.out (by kernel_rfl)) (fun _ _ _ h => h) (Or.inl ⟨by rfl, ?_⟩) ?_ ?_;rotate_left;(intro w';go_simp;with_reducible rfl);rotate_left;(simp only [Act.put, sIb, sC0, sCs, i64_w, i32_w];rfl);refine pure_ (i := 6) (N := some 21) (v := ?_) (a' := ?_) #[true, true, true, true, true, true, true, false, false, false, false, false, false, false, false, false, false, false, false, false, false, false, false, false, false, false, false] rfl rfl (any_of HT_.out (by kernel_rfl)) (fun _ _ _ h => h) (Or.inl ⟨by rfl, ?_⟩) ?_ ?_;rotate_left;(intro w';go_simp;with_reducible rfl);rotate_left;(simp only [Act.put, sIb, sC0, sCs, i64_w, i32_w];rfl);refine pure_ (i := 7) (N := some 22) (v := ?_) (a' := ?_) #[true, true, true, true, true, true, true, true, false, false, false, false, false, false, false, false, false, false, false, false, false, false, false, false, false, false, false] rfl rfl (any_of HT_.out (by kernel_rfl)) (fun _ _ _ h => h) (Or.inl ⟨by rfl, ?_⟩) ?_ ?_;rotate_left;(intro w';go_simp;with_reducible rfl);rotate_left;(simp only [Act.put, sIb, sC0, sCs, i64_w, i32_w];rfl);refine pure_ (i := 9) (N := some 24) (v := ?_) (a' := ?_) #[true, true, true, true, true, true, true, true, false, true, false, false, false, false, false, false, false, false, false, false, false, false, false, false, false, false, false] rfl rfl (any_of HT_.out (by kernel_rfl)) (fun _ _ _ h => h) (Or.inl ⟨by rfl, ?_⟩) ?_ ?_;rotate_left;(intro w';go_simp;with_reducible rfl);rotate_left;(simp only [Act.put, sIb, sC0, sCs, i64_w, i32_w];rfl);refine pure_ (i := 10) (N := some 25) (v := ?_) (a' := ?_) #[true, true, true, true, true, true, true, true, false, true, true, false, false, false, false, false, false, false, false, false, false, false, false, false, false, false, false] rfl rfl (any_of HT_.out (by kernel_rfl)) (fun _ _ _ h => h) (Or.inl ⟨by rfl, ?_⟩) ?_ ?_;rotate_left;(intro w';go_simp;with_reducible rfl);rotate_left;(simp only [Act.put, sIb, sC0, sCs, i64_w, i32_w];rfl);refine pure_ (i := 11) (N := some 26) (v := ?_) (a' := ?_) #[true, true, true, true, true, true, true, true, false, true, true, true, false, false, false, false, false, false, false, false, false, false, false, false, false, false, false] rfl rfl (any_of HT_.out (by kernel_rfl)) (fun _ _ _ h => h) (Or.inl ⟨by rfl, ?_⟩) ?_ ?_;rotate_left;(intro w';go_simp;with_reducible rfl);rotate_left;(simp only [Act.put, sIb, sC0, sCs, i64_w, i32_w];rfl);refine pure_ (i := 12) (N := some 27) (v := ?_) (a' := ?_) #[true, true, true, true, true, true, true, true, false, true, true, true, true, false, false, false, false, false, false, false, false, false, false, false, false, false, false] rfl rfl (any_of HT_.out (by kernel_rfl)) (fun _ _ _ h => h) (Or.inl ⟨by rfl, ?_⟩) ?_ ?_;rotate_left;(intro w';go_simp;with_reducible rfl);rotate_left;(simp only [Act.put, sIb, sC0, sCs, i64_w, i32_w];rfl);refine take_ (i := 8) (N := some 23) (v := ?_) (a' := ?_) #[true, true, true, true, true, true, true, true, true, true, true, true, true, false, false, false, false, false, false, false, false, false, false, false, false, false, false] rfl rfl (take_ofW HT_.out HW_.out (by kernel_rfl)) (fun _ _ _ h => h) (Or.inl ⟨by rfl, ?_⟩) hHeld ?_ ?_;rotate_left
            ·rintro w' ⟨s0, s1, s2, s3, s4, s5, s6, s7⟩
             go_simp;with_reducible rfl
            rotate_left;(simp only [Act.put, sIb, sC0, sCs, i64_w, i32_w];rfl);refine take_ (i := 13) (N := some 28) (v := ?_) (a' := ?_) #[true, true, true, true, true, true, true, true, true, true, true, true, true, true, false, false, false, false, false, false, false, false, false, false, false, false, false] rfl rfl (take_ofW HT_.out HW_.out (by kernel_rfl)) (fun _ _ _ h => h) (Or.inl ⟨by rfl, ?_⟩) hHeld ?_ ?_;rotate_left
            ·rintro w' ⟨s0, s1, s2, s3, s4, s5, s6, s7⟩
             go_simp;with_reducible rfl
            rotate_left;(simp only [Act.put, sIb, sC0, sCs, i64_w, i32_w];rfl)
            refine one_ (i := 14) (N := some 29) #[true, true, true, true, true, true, true, true, true, true, true, true, true, true, true, false, false, false, false, false, false, false, false, false, false, false, false] rfl rfl (one_of HT_.out (by kernel_rfl)) (by decide) (fun K hK => ?_)
            refine goes_ Try.func35 (by kernel_rfl) rfl #[.agg #[.int .i64 ((rd_T24 l0 (ji9)).f0), .int .i64 ((rd_T24 l0 (ji9)).f1), .int .i64 ((rd_T24 l0 (ji9)).f2), .bool ((rd_T24 l0 (ji9)).f3)]] (by rfl) rfl rfl (by (try simp only [List.map_toArray, List.map_cons, List.map_nil]); first | done | (simp only [hji9]; rfl) | rfl | (simp only [List.length_drop, List.length_take]; rfl)) ?_
            with_reducible refine (extent_end.calls ((rd_T24 l0 (ji9)).f0) ((rd_T24 l0 (ji9)).f1) ((rd_T24 l0 (ji9)).f2) ((rd_T24 l0 (ji9)).f3) t115 _ A12.out).mono ?_
            rintro e w19 ⟨rfl, hb⟩
            refine ⟨_, rfl, ?_⟩
            have n0_ := Aside0.mk (blk_below (g := gb112) (o := .cells #[.int .i64 ((rd_T24 l0 x10_1).f0), .int .i64 ((rd_T24 l0 x10_1).f1), .int .i64 ((rd_T24 l0 x10_1).f2), .bool ((rd_T24 l0 x10_1).f3)] 24 (0, 0)) (by (with_reducible repeat (first | refine blk_drewN ?_ _ | refine blk_drew ?_ | refine blk_alloc ?_ _)); exact BK112.out) hb)
            have n1_ := Aside0.mk (below_step (by repeat (first | (with_reducible first | exact HB.out | apply below_alloc | apply pw_below_drewN | apply below_drew1 | refine below_set ?_ GE112.out) | exact HB.out)) hb)
            clear BK112;clear HB;have BK112 := n0_;have HB := n1_;clear n0_ n1_
            (try clear hb)
            (try clear hb2)
            (try clear hk)
            (try clear hi)
            refine hK.out _ _ ⟨(blk_cell BK112.out 0).trans rfl, (blk_cell BK112.out 1).trans rfl, (blk_cell BK112.out 2).trans rfl, (blk_cell BK112.out 3).trans rfl, ((HB.out.cell (World.block_lt_of_cell? w _ hw114_0)).trans hw114_0), ((HB.out.cell (World.block_lt_of_cell? w _ hw114_1)).trans hw114_1), ((HB.out.cell (World.block_lt_of_cell? w _ hw114_2)).trans hw114_2), ((HB.out.cell (World.block_lt_of_cell? w _ hw114_3)).trans hw114_3)⟩ (fun hHeld => ?_)
            clear hK K;refine norm_ (a' := ?_) ?_ ?_;rotate_left
            ·show Act.put _ (some 29) _ = _
             simp only [Act.put, sIb, sC0, sCs, i64_w, i32_w];rfl
            refine pure_ (i := 15) (N := some 30) (v := ?_) (a' := ?_) #[true, true, true, true, true, true, true, true, true, true, true, true, true, true, true, true, false, false, false, false, false, false, false, false, false, false, false] rfl rfl (any_of HT_.out (by kernel_rfl)) (fun _ _ _ h => h) (Or.inl ⟨by rfl, ?_⟩) ?_ ?_;rotate_left;(intro w';go_simp;with_reducible rfl);rotate_left;(simp only [Act.put, sIb, sC0, sCs, i64_w, i32_w];rfl);refine pure_ (i := 16) (N := some 31) (v := ?_) (a' := ?_) #[true, true, true, true, true, true, true, true, true, true, true, true, true, true, true, true, true, false, false, false, false, false, false, false, false, false, false] rfl rfl (any_of HT_.out (by kernel_rfl)) (fun _ _ _ h => h) (Or.inl ⟨by rfl, ?_⟩) ?_ ?_;rotate_left;(intro w';go_simp;with_reducible rfl);rotate_left;(simp only [Act.put, sIb, sC0, sCs, i64_w, i32_w];rfl);refine pure_ (i := 17) (N := some 32) (v := undef) (a' := ?_) #[true, true, true, true, true, true, true, true, true, true, true, true, true, true, true, true, true, true, false, false, false, false, false, false, false, false, false] rfl rfl (any_of HT_.out (by kernel_rfl)) (fun _ _ _ h => h) (Or.inr ⟨by rfl, rfl⟩) ?_ ?_;rotate_left;(simp only [Act.put, sIb, sC0, sCs, i64_w, i32_w];rfl);refine pure_ (i := 18) (N := some 33) (v := undef) (a' := ?_) #[true, true, true, true, true, true, true, true, true, true, true, true, true, true, true, true, true, true, true, false, false, false, false, false, false, false, false] rfl rfl (any_of HT_.out (by kernel_rfl)) (fun _ _ _ h => h) (Or.inr ⟨by rfl, rfl⟩) ?_ ?_;rotate_left;(simp only [Act.put, sIb, sC0, sCs, i64_w, i32_w];rfl);refine pure_ (i := 19) (N := some 34) (v := undef) (a' := ?_) #[true, true, true, true, true, true, true, true, true, true, true, true, true, true, true, true, true, true, true, true, false, false, false, false, false, false, false] rfl rfl (any_of HT_.out (by kernel_rfl)) (fun _ _ _ h => h) (Or.inr ⟨by rfl, rfl⟩) ?_ ?_;rotate_left;(simp only [Act.put, sIb, sC0, sCs, i64_w, i32_w];rfl);refine pure_ (i := 20) (N := some 35) (v := undef) (a' := ?_) #[true, true, true, true, true, true, true, true, true, true, true, true, true, true, true, true, true, true, true, true, true, false, false, false, false, false, false] rfl rfl (any_of HT_.out (by kernel_rfl)) (fun _ _ _ h => h) (Or.inr ⟨by rfl, rfl⟩) ?_ ?_;rotate_left;(simp only [Act.put, sIb, sC0, sCs, i64_w, i32_w];rfl);refine pure_ (i := 21) (N := some 36) (v := undef) (a' := ?_) #[true, true, true, true, true, true, true, true, true, true, true, true, true, true, true, true, true, true, true, true, true, true, false, false, false, false, false] rfl rfl (any_of HT_.out (by kernel_rfl)) (fun _ _ _ h => h) (Or.inr ⟨by rfl, rfl⟩) ?_ ?_;rotate_left;(simp only [Act.put, sIb, sC0, sCs, i64_w, i32_w];rfl);refine pure_ (i := 22) (N := some 37) (v := undef) (a' := ?_) #[true, true, true, true, true, true, true, true, true, true, true, true, true, true, true, true, true, true, true, true, true, true, true, false, false, false, false] rfl rfl (any_of HT_.out (by kernel_rfl)) (fun _ _ _ h => h) (Or.inr ⟨by rfl, rfl⟩) ?_ ?_;rotate_left;(simp only [Act.put, sIb, sC0, sCs, i64_w, i32_w];rfl);refine pure_ (i := 23) (N := some 38) (v := undef) (a' := ?_) #[true, true, true, true, true, true, true, true, true, true, true, true, true, true, true, true, true, true, true, true, true, true, true, true, false, false, false] rfl rfl (any_of HT_.out (by kernel_rfl)) (fun _ _ _ h => h) (Or.inr ⟨by rfl, rfl⟩) ?_ ?_;rotate_left;(simp only [Act.put, sIb, sC0, sCs, i64_w, i32_w];rfl);refine pure_ (i := 24) (N := some 39) (v := ?_) (a' := ?_) #[true, true, true, true, true, true, true, true, true, true, true, true, true, true, true, true, true, true, true, true, true, true, true, true, true, false, false] rfl rfl (any_of HT_.out (by kernel_rfl)) (fun _ _ _ h => h) (Or.inl ⟨by rfl, ?_⟩) ?_ ?_;rotate_left;(intro w';go_simp;with_reducible rfl);rotate_left;(simp only [Act.put, sIb, sC0, sCs, i64_w, i32_w];rfl);refine pure_ (i := 25) (N := some 40) (v := ?_) (a' := ?_) #[true, true, true, true, true, true, true, true, true, true, true, true, true, true, true, true, true, true, true, true, true, true, true, true, true, true, false] rfl rfl (any_of HT_.out (by kernel_rfl)) (fun _ _ _ h => h) (Or.inl ⟨by rfl, ?_⟩) ?_ ?_;rotate_left;(intro w';go_simp;with_reducible rfl);rotate_left;(simp only [Act.put, sIb, sC0, sCs, i64_w, i32_w];rfl);refine pure_ (i := 26) (N := some 41) (v := ?_) (a' := ?_) #[true, true, true, true, true, true, true, true, true, true, true, true, true, true, true, true, true, true, true, true, true, true, true, true, true, true, true] rfl rfl (any_of HT_.out (by kernel_rfl)) (fun _ _ _ h => h) (Or.inl ⟨by rfl, ?_⟩) ?_ ?_;rotate_left;(intro w';go_simp;with_reducible rfl);rotate_left;(simp only [Act.put, sIb, sC0, sCs, i64_w, i32_w];rfl)
            refine done_ (done_of HT_.out (by kernel_rfl)) ?_
            try go_wp2
            go_ret
            exact ⟨by first | rfl | (simp [errW_none, errW_some] <;> rfl) | (simp only [← hji9]; first | rfl | (simp [errW_none, errW_some] <;> rfl)) | (simp [*, errW_none, errW_some] <;> rfl), by repeat (first | (with_reducible first | exact HB.out | apply below_alloc | apply pw_below_drewN | apply below_drew1 | refine below_set ?_ GE112.out) | exact HB.out)⟩
           ·rw [if_neg c13] at H
            have c13b0 : decide (((rd_T24 l0 x10_1).f0) < t115) = false := decide_eq_false c13
            clear c13
            replace H := Option.bind_eq_some_iff.mp H
            obtain ⟨t117, A200, H⟩ := H
            replace H : (if t117 = true then (some 1) else (extent_Check.l0 k1 l0 l0 (l0.length : Int) (wrap64 (x10_1 + 1)))) = some r := H
            have A20 := Aside0.mk A200
            clear A200
            by_cases c21 : t117 = true
            ·subst c21
             have H1 : (some 1) = some r := by rw [if_pos rfl] at H; exact H
             clear H;have H := H1;clear H1;obtain rfl := Option.some.inj H
             have p111 : 0 ≤ (x10_1 : Int) := of_decide_eq_true (by first | (with_reducible assumption) | assumption)
             have q111 : x10_1 < (l0.length : Int) := of_decide_eq_true (by first | (with_reducible assumption) | assumption)
             obtain ⟨ad111, e111, hx111_0, hx111_1, hx111_2, hx111_3⟩ := at_T24 HR0.out x10_1 p111 q111
             cases e111
             replace hx111_0 := (HB.out.cell (World.block_lt_of_cell? w _ hx111_0)).trans hx111_0
             replace hx111_1 := (HB.out.cell (World.block_lt_of_cell? w _ hx111_1)).trans hx111_1
             replace hx111_2 := (HB.out.cell (World.block_lt_of_cell? w _ hx111_2)).trans hx111_2
             replace hx111_3 := (HB.out.cell (World.block_lt_of_cell? w _ hx111_3)).trans hx111_3
             replace p111 := eq_true p111;replace q111 := eq_true q111
             try go_wp2_with (first | ((with_reducible refine gate_dst (N := 4) rfl ?_); refine box_event ?hg (N := 4) ?hd (cs := #[.int .i64 0, .int .i64 0, .int .i64 0, .bool false]) (t := 24) ?hr ?_; (case hd => rfl); (case hg => rfl); (case hr => first | (go_simp; done) | (go_simp; rfl)); intro gb112 hg w22 hbox hb; have n0_ := Aside0.mk (below_step (by repeat (first | (with_reducible first | exact HB.out | apply below_alloc | apply pw_below_drewN | apply below_drew1) | exact HB.out)) hb); have n1_ := Aside0.mk (hbox); have n2_ := Aside0.mk ((by rw [hg]; exact (below_size (by repeat (first | (with_reducible first | exact HB.out | apply below_alloc | apply pw_below_drewN | apply below_drew1) | exact HB.out))) : w.heap.size ≤ gb112)); have n3_ := Aside0.mk ((by rw [hg]; exact (below_size (by repeat (first | (with_reducible first | exact HB.out | apply below_alloc | apply pw_below_drewN | apply below_drew1) | exact HB.out))) : w.heap.size ≤ gb112)); clear HB; have HB := n0_; have BK112 := n1_; have GW112 := n2_; have GE112 := n3_; clear n0_ n1_ n2_ n3_; clear hb hbox hg; have hcz23_0 : w22.cell? ⟨gb112, 0, none⟩ = some (.int .i64 0) := (blk_cell BK112.out 0).trans rfl; have hcz23_1 : w22.cell? ⟨gb112, 1, none⟩ = some (.int .i64 0) := (blk_cell BK112.out 1).trans rfl; have hcz23_2 : w22.cell? ⟨gb112, 2, none⟩ = some (.int .i64 0) := (blk_cell BK112.out 2).trans rfl; have hcz23_3 : w22.cell? ⟨gb112, 3, none⟩ = some (.bool false) := (blk_cell BK112.out 3).trans rfl; have hfz23_0 := blk_frozen BK112.out 0; have hfz23_1 := blk_frozen BK112.out 1; have hfz23_2 := blk_frozen BK112.out 2; have hfz23_3 := blk_frozen BK112.out 3))
             have n0_ : Aside0 (((((w22.setCell ⟨gb112, 0, none⟩ (.int .i64 ((rd_T24 l0 x10_1).f0))).setCell ⟨gb112, 1, none⟩ (.int .i64 ((rd_T24 l0 x10_1).f1))).setCell ⟨gb112, 2, none⟩ (.int .i64 ((rd_T24 l0 x10_1).f2))).setCell ⟨gb112, 3, none⟩ (.bool ((rd_T24 l0 x10_1).f3))).heap[gb112]? = some (.cells #[.int .i64 ((rd_T24 l0 x10_1).f0), .int .i64 ((rd_T24 l0 x10_1).f1), .int .i64 ((rd_T24 l0 x10_1).f2), .bool ((rd_T24 l0 x10_1).f3)] 24 (0, 0))) := ⟨by (with_reducible repeat (first | refine blk_drewN ?_ _ | refine blk_drew ?_ | refine blk_alloc ?_ _)); refine blk_put (cs := #[.int .i64 ((rd_T24 l0 x10_1).f0), .int .i64 ((rd_T24 l0 x10_1).f1), .int .i64 ((rd_T24 l0 x10_1).f2), .bool false]) ?_ 3 _ rfl; (with_reducible repeat (first | refine blk_drewN ?_ _ | refine blk_drew ?_ | refine blk_alloc ?_ _)); refine blk_put (cs := #[.int .i64 ((rd_T24 l0 x10_1).f0), .int .i64 ((rd_T24 l0 x10_1).f1), .int .i64 0, .bool false]) ?_ 2 _ rfl; (with_reducible repeat (first | refine blk_drewN ?_ _ | refine blk_drew ?_ | refine blk_alloc ?_ _)); refine blk_put (cs := #[.int .i64 ((rd_T24 l0 x10_1).f0), .int .i64 0, .int .i64 0, .bool false]) ?_ 1 _ rfl; (with_reducible repeat (first | refine blk_drewN ?_ _ | refine blk_drew ?_ | refine blk_alloc ?_ _)); refine blk_put (cs := #[.int .i64 0, .int .i64 0, .int .i64 0, .bool false]) ?_ 0 _ rfl; (with_reducible repeat (first | refine blk_drewN ?_ _ | refine blk_drew ?_ | refine blk_alloc ?_ _)); exact BK112.out⟩
             have n1_ : Aside0 (Below w.heap.size w ((((w22.setCell ⟨gb112, 0, none⟩ (.int .i64 ((rd_T24 l0 x10_1).f0))).setCell ⟨gb112, 1, none⟩ (.int .i64 ((rd_T24 l0 x10_1).f1))).setCell ⟨gb112, 2, none⟩ (.int .i64 ((rd_T24 l0 x10_1).f2))).setCell ⟨gb112, 3, none⟩ (.bool ((rd_T24 l0 x10_1).f3)))) := ⟨by repeat (first | (with_reducible first | exact HB.out | apply below_alloc | apply pw_below_drewN | apply below_drew1 | refine below_set ?_ GE112.out) | exact HB.out)⟩
             (try clear BK112)
             (try clear HB)
             generalize ((((w22.setCell ⟨gb112, 0, none⟩ (.int .i64 ((rd_T24 l0 x10_1).f0))).setCell ⟨gb112, 1, none⟩ (.int .i64 ((rd_T24 l0 x10_1).f1))).setCell ⟨gb112, 2, none⟩ (.int .i64 ((rd_T24 l0 x10_1).f2))).setCell ⟨gb112, 3, none⟩ (.bool ((rd_T24 l0 x10_1).f3))) = w24 at n0_ n1_ ⊢
             have BK112 := n0_;have HB := n1_;clear n0_ n1_
             have n0_ := Aside0.mk (blk_drew BK112.out)
             have n1_ := Aside0.mk (below_drew1 HB.out)
             clear BK112;clear HB;have BK112 := n0_;have HB := n1_;clear n0_ n1_
             have p114 : 0 ≤ ((ji9) : Int) := of_decide_eq_true (by first | (with_reducible assumption) | assumption)
             have q114 : (ji9) < (l0.length : Int) := of_decide_eq_true (by first | (with_reducible assumption) | assumption)
             obtain ⟨ad114, e114, hx114_0, hx114_1, hx114_2, hx114_3⟩ := at_T24 HR0.out (ji9) p114 q114
             have hw114_3 := hx114_3;have hw114_2 := hx114_2;have hw114_1 := hx114_1;have hw114_0 := hx114_0
             obtain rfl : ad111 = ad114 := (by injection e114)
             replace hx114_0 := (HB.out.cell (World.block_lt_of_cell? w _ hx114_0)).trans hx114_0
             replace hx114_1 := (HB.out.cell (World.block_lt_of_cell? w _ hx114_1)).trans hx114_1
             replace hx114_2 := (HB.out.cell (World.block_lt_of_cell? w _ hx114_2)).trans hx114_2
             replace hx114_3 := (HB.out.cell (World.block_lt_of_cell? w _ hx114_3)).trans hx114_3
             replace p114 := eq_true p114;replace q114 := eq_true q114
             have p116 : 0 ≤ ((ji9) : Int) := of_decide_eq_true (by first | (with_reducible assumption) | assumption)
             have q116 : (ji9) < (l0.length : Int) := of_decide_eq_true (by first | (with_reducible assumption) | assumption)
             obtain ⟨ad116, e116, hx116_0, hx116_1, hx116_2, hx116_3⟩ := at_T24 HR0.out (ji9) p116 q116
             have hw116_3 := hx116_3;have hw116_2 := hx116_2;have hw116_1 := hx116_1;have hw116_0 := hx116_0
             obtain rfl : ad111 = ad116 := (by injection e116)
             replace hx116_0 := (HB.out.cell (World.block_lt_of_cell? w _ hx116_0)).trans hx116_0
             replace hx116_1 := (HB.out.cell (World.block_lt_of_cell? w _ hx116_1)).trans hx116_1
             replace hx116_2 := (HB.out.cell (World.block_lt_of_cell? w _ hx116_2)).trans hx116_2
             replace hx116_3 := (HB.out.cell (World.block_lt_of_cell? w _ hx116_3)).trans hx116_3
             replace p116 := eq_true p116;replace q116 := eq_true q116
             refine start_ (n := 27) (S := fun w' => w'.cell? ⟨gb112, 0, none⟩ = some (.int .i64 ((rd_T24 l0 x10_1).f0)) ∧ w'.cell? ⟨gb112, 1, none⟩ = some (.int .i64 ((rd_T24 l0 x10_1).f1)) ∧ w'.cell? ⟨gb112, 2, none⟩ = some (.int .i64 ((rd_T24 l0 x10_1).f2)) ∧ w'.cell? ⟨gb112, 3, none⟩ = some (.bool ((rd_T24 l0 x10_1).f3)) ∧ w'.cell? (ad111.add (((ji9)).toNat * 4)) = some (.int .i64 ((rd_T24 l0 (ji9)).f0)) ∧ w'.cell? ⟨(ad111.add (((ji9)).toNat * 4)).block, (ad111.add (((ji9)).toNat * 4)).off + 1, none⟩ = some (.int .i64 ((rd_T24 l0 (ji9)).f1)) ∧ w'.cell? ⟨(ad111.add (((ji9)).toNat * 4)).block, (ad111.add (((ji9)).toNat * 4)).off + 2, none⟩ = some (.int .i64 ((rd_T24 l0 (ji9)).f2)) ∧ w'.cell? ⟨(ad111.add (((ji9)).toNat * 4)).block, (ad111.add (((ji9)).toNat * 4)).off + 3, none⟩ = some (.bool ((rd_T24 l0 (ji9)).f3)) ∧ w'.cell? (ad111.add (((ji9)).toNat * 4)) = some (.int .i64 ((rd_T24 l0 (ji9)).f0)) ∧ w'.cell? ⟨(ad111.add (((ji9)).toNat * 4)).block, (ad111.add (((ji9)).toNat * 4)).off + 1, none⟩ = some (.int .i64 ((rd_T24 l0 (ji9)).f1)) ∧ w'.cell? ⟨(ad111.add (((ji9)).toNat * 4)).block, (ad111.add (((ji9)).toNat * 4)).off + 2, none⟩ = some (.int .i64 ((rd_T24 l0 (ji9)).f2)) ∧ w'.cell? ⟨(ad111.add (((ji9)).toNat * 4)).block, (ad111.add (((ji9)).toNat * 4)).off + 3, none⟩ = some (.bool ((rd_T24 l0 (ji9)).f3))) (ds := []) #[false, false, false, false, false, false, false, false, false, false, false, false, false, false, false, false, false, false, false, false, false, false, false, false, false, false, false] (by kernel_rfl) rfl rfl ⟨(blk_cell BK112.out 0).trans rfl, (blk_cell BK112.out 1).trans rfl, (blk_cell BK112.out 2).trans rfl, (blk_cell BK112.out 3).trans rfl, ((HB.out.cell (World.block_lt_of_cell? w _ hw114_0)).trans hw114_0), ((HB.out.cell (World.block_lt_of_cell? w _ hw114_1)).trans hw114_1), ((HB.out.cell (World.block_lt_of_cell? w _ hw114_2)).trans hw114_2), ((HB.out.cell (World.block_lt_of_cell? w _ hw114_3)).trans hw114_3), ((HB.out.cell (World.block_lt_of_cell? w _ hw116_0)).trans hw116_0), ((HB.out.cell (World.block_lt_of_cell? w _ hw116_1)).trans hw116_1), ((HB.out.cell (World.block_lt_of_cell? w _ hw116_2)).trans hw116_2), ((HB.out.cell (World.block_lt_of_cell? w _ hw116_3)).trans hw116_3)⟩ (fun hHeld => ?_); refine with_tabW extent_Check.tab6 extent_Check.bits6 (fun HT_ HW_ => ?_)
             generalize w24.drew = w25 at BK112 HB hx114_0 hx114_1 hx114_2 hx114_3 hx116_0 hx116_1 hx116_2 hx116_3 hHeld ⊢
             refine take_ (i := 0) (N := some 15) (v := ?_) (a' := ?_) #[true, false, false, false, false, false, false, false, false, false, false, false, false, false, false, false, false, false, false, false, false, false, false, false, false, false, false] rfl rfl (take_ofW HT_.out HW_.out (by kernel_rfl)) (fun _ _ _ h => h) (Or.inl ⟨by rfl, ?_⟩) hHeld ?_ ?_;rotate_left
             ·rintro w' ⟨s0, s1, s2, s3, s4, s5, s6, s7, s8, s9, s10, s11⟩
              go_simp;with_reducible rfl
             rotate_left;(simp only [Act.put, sIb, sC0, sCs, i64_w, i32_w];rfl)
             refine one_ (i := 1) (N := some 16) #[true, true, false, false, false, false, false, false, false, false, false, false, false, false, false, false, false, false, false, false, false, false, false, false, false, false, false] rfl rfl (one_of HT_.out (by kernel_rfl)) (by decide) (fun K hK => ?_)
             refine goes_ Try.func34 (by kernel_rfl) rfl #[.agg #[.int .i64 ((rd_T24 l0 x10_1).f0), .int .i64 ((rd_T24 l0 x10_1).f1), .int .i64 ((rd_T24 l0 x10_1).f2), .bool ((rd_T24 l0 x10_1).f3)]] (by rfl) rfl rfl (by (try simp only [List.map_toArray, List.map_cons, List.map_nil]); first | done | rfl | (simp only [List.length_drop, List.length_take]; rfl)) ?_
             with_reducible refine (extent_may.calls ((rd_T24 l0 x10_1).f0) ((rd_T24 l0 x10_1).f1) ((rd_T24 l0 x10_1).f2) ((rd_T24 l0 x10_1).f3) true _ A6.out).mono ?_
             rintro e w26 ⟨rfl, hb⟩
             refine ⟨_, rfl, ?_⟩
             have n0_ := Aside0.mk (blk_below (g := gb112) (o := .cells #[.int .i64 ((rd_T24 l0 x10_1).f0), .int .i64 ((rd_T24 l0 x10_1).f1), .int .i64 ((rd_T24 l0 x10_1).f2), .bool ((rd_T24 l0 x10_1).f3)] 24 (0, 0)) (by (with_reducible repeat (first | refine blk_drewN ?_ _ | refine blk_drew ?_ | refine blk_alloc ?_ _)); exact BK112.out) hb)
             have n1_ := Aside0.mk (below_step (by repeat (first | (with_reducible first | exact HB.out | apply below_alloc | apply pw_below_drewN | apply below_drew1 | refine below_set ?_ GE112.out) | exact HB.out)) hb)
             clear BK112;clear HB;have BK112 := n0_;have HB := n1_;clear n0_ n1_
             (try clear hb)
             (try clear hb2)
             (try clear hk)
             (try clear hi)
             refine hK.out _ _ ⟨(blk_cell BK112.out 0).trans rfl, (blk_cell BK112.out 1).trans rfl, (blk_cell BK112.out 2).trans rfl, (blk_cell BK112.out 3).trans rfl, ((HB.out.cell (World.block_lt_of_cell? w _ hw114_0)).trans hw114_0), ((HB.out.cell (World.block_lt_of_cell? w _ hw114_1)).trans hw114_1), ((HB.out.cell (World.block_lt_of_cell? w _ hw114_2)).trans hw114_2), ((HB.out.cell (World.block_lt_of_cell? w _ hw114_3)).trans hw114_3), ((HB.out.cell (World.block_lt_of_cell? w _ hw116_0)).trans hw116_0), ((HB.out.cell (World.block_lt_of_cell? w _ hw116_1)).trans hw116_1), ((HB.out.cell (World.block_lt_of_cell? w _ hw116_2)).trans hw116_2), ((HB.out.cell (World.block_lt_of_cell? w _ hw116_3)).trans hw116_3)⟩ (fun hHeld => ?_)
             clear hK K;refine norm_ (a' := ?_) ?_ ?_;rotate_left
             ·show Act.put _ (some 16) _ = _
              simp only [Act.put, sIb, sC0, sCs, i64_w, i32_w];rfl
             refine pure_ (i := 2) (N := some 17) (v := ?_) (a' := ?_) #[true, true, true, false, false, false, false, false, false, false, false, false, false, false, false, false, false, false, false, false, false, false, false, false, false, false, false] rfl rfl (any_of HT_.out (by kernel_rfl)) (fun _ _ _ h => h) (Or.inl ⟨by rfl, ?_⟩) ?_ ?_;rotate_left;(intro w';go_simp;with_reducible rfl);rotate_left;(simp only [Act.put, sIb, sC0, sCs, i64_w, i32_w];rfl);refine pure_ (i := 3) (N := some 18) (v := ?_) (a' := ?_) #[true, true, true, true, false, false, false, false, false, false, false, false, false, false, false, false, false, false, false, false, false, false, false, false, false, false, false] rfl rfl (any_of HT_.out (by kernel_rfl)) (fun _ _ _ h => h) (Or.inl ⟨by rfl, ?_⟩) ?_ ?_;rotate_left;(intro w';go_simp;with_reducible rfl);rotate_left;(simp only [Act.put, sIb, sC0, sCs, i64_w, i32_w];rfl);refine pure_ (i := 4) (N := some 19) (v := ?_) (a' := ?_) #[true, true, true, true, true, false, false, false, false, false, false, false, false, false, false, false, false, false, false, false, false, false, false, false, false, false, false] rfl rfl (any_of HT_.out (by kernel_rfl)) (fun _ _ _ h => h) (Or.inl ⟨by rfl, ?_⟩) ?_ ?_;rotate_left;(intro w';go_simp;with_reducible rfl);rotate_left;(simp only [Act.put, sIb, sC0, sCs, i64_w, i32_w];rfl);refine pure_ (i := 5) (N := some 20) (v := ?_) (a' := ?_) #[true, true, true, true, true, true, false, false, false, false, false, false, false, false, false, false, false, false, false, false, false, false, false, false, false, false, false] rfl rfl (any_of HT_.out (by kernel_rfl)) (fun _ _ _ h => h) (Or.inl ⟨by rfl, ?_⟩) ?_ ?_;rotate_left;(intro w';go_simp;with_reducible rfl);rotate_left;(simp only [Act.put, sIb, sC0, sCs, i64_w, i32_w];rfl);refine pure_ (i := 6) (N := some 21) (v := ?_) (a' := ?_) #[true, true, true, true, true, true, true, false, false, false, false, false, false, false, false, false, false, false, false, false, false, false, false, false, false, false, false] rfl rfl (any_of HT_.out (by kernel_rfl)) (fun _ _ _ h => h) (Or.inl ⟨by rfl, ?_⟩) ?_ ?_;rotate_left;(intro w';go_simp;with_reducible rfl);rotate_left;(simp only [Act.put, sIb, sC0, sCs, i64_w, i32_w];rfl);refine pure_ (i := 7) (N := some 22) (v := ?_) (a' := ?_) #[true, true, true, true, true, true, true, true, false, false, false, false, false, false, false, false, false, false, false, false, false, false, false, false, false, false, false] rfl rfl (any_of HT_.out (by kernel_rfl)) (fun _ _ _ h => h) (Or.inl ⟨by rfl, ?_⟩) ?_ ?_;rotate_left;(intro w';go_simp;with_reducible rfl);rotate_left;(simp only [Act.put, sIb, sC0, sCs, i64_w, i32_w];rfl);refine pure_ (i := 9) (N := some 24) (v := ?_) (a' := ?_) #[true, true, true, true, true, true, true, true, false, true, false, false, false, false, false, false, false, false, false, false, false, false, false, false, false, false, false] rfl rfl (any_of HT_.out (by kernel_rfl)) (fun _ _ _ h => h) (Or.inl ⟨by rfl, ?_⟩) ?_ ?_;rotate_left;(intro w';go_simp;with_reducible rfl);rotate_left;(simp only [Act.put, sIb, sC0, sCs, i64_w, i32_w];rfl);refine pure_ (i := 10) (N := some 25) (v := ?_) (a' := ?_) #[true, true, true, true, true, true, true, true, false, true, true, false, false, false, false, false, false, false, false, false, false, false, false, false, false, false, false] rfl rfl (any_of HT_.out (by kernel_rfl)) (fun _ _ _ h => h) (Or.inl ⟨by rfl, ?_⟩) ?_ ?_;rotate_left;(intro w';go_simp;with_reducible rfl);rotate_left;(simp only [Act.put, sIb, sC0, sCs, i64_w, i32_w];rfl);refine pure_ (i := 11) (N := some 26) (v := ?_) (a' := ?_) #[true, true, true, true, true, true, true, true, false, true, true, true, false, false, false, false, false, false, false, false, false, false, false, false, false, false, false] rfl rfl (any_of HT_.out (by kernel_rfl)) (fun _ _ _ h => h) (Or.inl ⟨by rfl, ?_⟩) ?_ ?_;rotate_left;(intro w';go_simp;with_reducible rfl);rotate_left;(simp only [Act.put, sIb, sC0, sCs, i64_w, i32_w];rfl);refine pure_ (i := 12) (N := some 27) (v := ?_) (a' := ?_) #[true, true, true, true, true, true, true, true, false, true, true, true, true, false, false, false, false, false, false, false, false, false, false, false, false, false, false] rfl rfl (any_of HT_.out (by kernel_rfl)) (fun _ _ _ h => h) (Or.inl ⟨by rfl, ?_⟩) ?_ ?_;rotate_left;(intro w';go_simp;with_reducible rfl);rotate_left;(simp only [Act.put, sIb, sC0, sCs, i64_w, i32_w];rfl);refine take_ (i := 8) (N := some 23) (v := ?_) (a' := ?_) #[true, true, true, true, true, true, true, true, true, true, true, true, true, false, false, false, false, false, false, false, false, false, false, false, false, false, false] rfl rfl (take_ofW HT_.out HW_.out (by kernel_rfl)) (fun _ _ _ h => h) (Or.inl ⟨by rfl, ?_⟩) hHeld ?_ ?_;rotate_left
             ·rintro w' ⟨s0, s1, s2, s3, s4, s5, s6, s7, s8, s9, s10, s11⟩
              go_simp;with_reducible rfl
             rotate_left;(simp only [Act.put, sIb, sC0, sCs, i64_w, i32_w];rfl);refine take_ (i := 13) (N := some 28) (v := ?_) (a' := ?_) #[true, true, true, true, true, true, true, true, true, true, true, true, true, true, false, false, false, false, false, false, false, false, false, false, false, false, false] rfl rfl (take_ofW HT_.out HW_.out (by kernel_rfl)) (fun _ _ _ h => h) (Or.inl ⟨by rfl, ?_⟩) hHeld ?_ ?_;rotate_left
             ·rintro w' ⟨s0, s1, s2, s3, s4, s5, s6, s7, s8, s9, s10, s11⟩
              go_simp;with_reducible rfl
             rotate_left;(simp only [Act.put, sIb, sC0, sCs, i64_w, i32_w];rfl)
             refine one_ (i := 14) (N := some 29) #[true, true, true, true, true, true, true, true, true, true, true, true, true, true, true, false, false, false, false, false, false, false, false, false, false, false, false] rfl rfl (one_of HT_.out (by kernel_rfl)) (by decide) (fun K hK => ?_)
             refine goes_ Try.func35 (by kernel_rfl) rfl #[.agg #[.int .i64 ((rd_T24 l0 (ji9)).f0), .int .i64 ((rd_T24 l0 (ji9)).f1), .int .i64 ((rd_T24 l0 (ji9)).f2), .bool ((rd_T24 l0 (ji9)).f3)]] (by rfl) rfl rfl (by (try simp only [List.map_toArray, List.map_cons, List.map_nil]); first | done | (simp only [hji9]; rfl) | rfl | (simp only [List.length_drop, List.length_take]; rfl)) ?_
             with_reducible refine (extent_end.calls ((rd_T24 l0 (ji9)).f0) ((rd_T24 l0 (ji9)).f1) ((rd_T24 l0 (ji9)).f2) ((rd_T24 l0 (ji9)).f3) t115 _ A12.out).mono ?_
             rintro e w27 ⟨rfl, hb⟩
             refine ⟨_, rfl, ?_⟩
             have n0_ := Aside0.mk (blk_below (g := gb112) (o := .cells #[.int .i64 ((rd_T24 l0 x10_1).f0), .int .i64 ((rd_T24 l0 x10_1).f1), .int .i64 ((rd_T24 l0 x10_1).f2), .bool ((rd_T24 l0 x10_1).f3)] 24 (0, 0)) (by (with_reducible repeat (first | refine blk_drewN ?_ _ | refine blk_drew ?_ | refine blk_alloc ?_ _)); exact BK112.out) hb)
             have n1_ := Aside0.mk (below_step (by repeat (first | (with_reducible first | exact HB.out | apply below_alloc | apply pw_below_drewN | apply below_drew1 | refine below_set ?_ GE112.out) | exact HB.out)) hb)
             clear BK112;clear HB;have BK112 := n0_;have HB := n1_;clear n0_ n1_
             (try clear hb)
             (try clear hb2)
             (try clear hk)
             (try clear hi)
             refine hK.out _ _ ⟨(blk_cell BK112.out 0).trans rfl, (blk_cell BK112.out 1).trans rfl, (blk_cell BK112.out 2).trans rfl, (blk_cell BK112.out 3).trans rfl, ((HB.out.cell (World.block_lt_of_cell? w _ hw114_0)).trans hw114_0), ((HB.out.cell (World.block_lt_of_cell? w _ hw114_1)).trans hw114_1), ((HB.out.cell (World.block_lt_of_cell? w _ hw114_2)).trans hw114_2), ((HB.out.cell (World.block_lt_of_cell? w _ hw114_3)).trans hw114_3), ((HB.out.cell (World.block_lt_of_cell? w _ hw116_0)).trans hw116_0), ((HB.out.cell (World.block_lt_of_cell? w _ hw116_1)).trans hw116_1), ((HB.out.cell (World.block_lt_of_cell? w _ hw116_2)).trans hw116_2), ((HB.out.cell (World.block_lt_of_cell? w _ hw116_3)).trans hw116_3)⟩ (fun hHeld => ?_)
             clear hK K;refine norm_ (a' := ?_) ?_ ?_;rotate_left
             ·show Act.put _ (some 29) _ = _
              simp only [Act.put, sIb, sC0, sCs, i64_w, i32_w];rfl
             refine pure_ (i := 15) (N := some 30) (v := ?_) (a' := ?_) #[true, true, true, true, true, true, true, true, true, true, true, true, true, true, true, true, false, false, false, false, false, false, false, false, false, false, false] rfl rfl (any_of HT_.out (by kernel_rfl)) (fun _ _ _ h => h) (Or.inl ⟨by rfl, ?_⟩) ?_ ?_;rotate_left;(intro w';go_simp;with_reducible rfl);rotate_left;(simp only [Act.put, sIb, sC0, sCs, i64_w, i32_w];rfl);refine pure_ (i := 16) (N := some 31) (v := ?_) (a' := ?_) #[true, true, true, true, true, true, true, true, true, true, true, true, true, true, true, true, true, false, false, false, false, false, false, false, false, false, false] rfl rfl (any_of HT_.out (by kernel_rfl)) (fun _ _ _ h => h) (Or.inl ⟨by rfl, ?_⟩) ?_ ?_;rotate_left;(intro w';go_simp;with_reducible rfl);rotate_left;(simp only [Act.put, sIb, sC0, sCs, i64_w, i32_w];rfl);refine pure_ (i := 17) (N := some 32) (v := ?_) (a' := ?_) #[true, true, true, true, true, true, true, true, true, true, true, true, true, true, true, true, true, true, false, false, false, false, false, false, false, false, false] rfl rfl (any_of HT_.out (by kernel_rfl)) (fun _ _ _ h => h) (Or.inl ⟨by rfl, ?_⟩) ?_ ?_;rotate_left;(intro w';go_simp;with_reducible rfl);rotate_left;(simp only [Act.put, sIb, sC0, sCs, i64_w, i32_w];rfl);refine pure_ (i := 18) (N := some 33) (v := ?_) (a' := ?_) #[true, true, true, true, true, true, true, true, true, true, true, true, true, true, true, true, true, true, true, false, false, false, false, false, false, false, false] rfl rfl (any_of HT_.out (by kernel_rfl)) (fun _ _ _ h => h) (Or.inl ⟨by rfl, ?_⟩) ?_ ?_;rotate_left;(intro w';go_simp;with_reducible rfl);rotate_left;(simp only [Act.put, sIb, sC0, sCs, i64_w, i32_w];rfl);refine pure_ (i := 19) (N := some 34) (v := ?_) (a' := ?_) #[true, true, true, true, true, true, true, true, true, true, true, true, true, true, true, true, true, true, true, true, false, false, false, false, false, false, false] rfl rfl (any_of HT_.out (by kernel_rfl)) (fun _ _ _ h => h) (Or.inl ⟨by rfl, ?_⟩) ?_ ?_;rotate_left;(intro w';go_simp;with_reducible rfl);rotate_left;(simp only [Act.put, sIb, sC0, sCs, i64_w, i32_w];rfl);refine pure_ (i := 20) (N := some 35) (v := ?_) (a' := ?_) #[true, true, true, true, true, true, true, true, true, true, true, true, true, true, true, true, true, true, true, true, true, false, false, false, false, false, false] rfl rfl (any_of HT_.out (by kernel_rfl)) (fun _ _ _ h => h) (Or.inl ⟨by rfl, ?_⟩) ?_ ?_;rotate_left;(intro w';go_simp;with_reducible rfl);rotate_left;(simp only [Act.put, sIb, sC0, sCs, i64_w, i32_w];rfl);refine take_ (i := 21) (N := some 36) (v := ?_) (a' := ?_) #[true, true, true, true, true, true, true, true, true, true, true, true, true, true, true, true, true, true, true, true, true, true, false, false, false, false, false] rfl rfl (take_ofW HT_.out HW_.out (by kernel_rfl)) (fun _ _ _ h => h) (Or.inl ⟨by rfl, ?_⟩) hHeld ?_ ?_;rotate_left
             ·rintro w' ⟨s0, s1, s2, s3, s4, s5, s6, s7, s8, s9, s10, s11⟩
              go_simp;with_reducible rfl
             rotate_left;(simp only [Act.put, sIb, sC0, sCs, i64_w, i32_w];rfl);refine take_ (i := 22) (N := some 37) (v := ?_) (a' := ?_) #[true, true, true, true, true, true, true, true, true, true, true, true, true, true, true, true, true, true, true, true, true, true, true, false, false, false, false] rfl rfl (take_ofW HT_.out HW_.out (by kernel_rfl)) (fun _ _ _ h => h) (Or.inl ⟨by rfl, ?_⟩) hHeld ?_ ?_;rotate_left
             ·rintro w' ⟨s0, s1, s2, s3, s4, s5, s6, s7, s8, s9, s10, s11⟩
              go_simp;with_reducible rfl
             rotate_left;(simp only [Act.put, sIb, sC0, sCs, i64_w, i32_w];rfl)
             refine one_ (i := 23) (N := some 38) #[true, true, true, true, true, true, true, true, true, true, true, true, true, true, true, true, true, true, true, true, true, true, true, true, false, false, false] rfl rfl (one_of HT_.out (by kernel_rfl)) (by decide) (fun K hK => ?_)
             refine goes_ Try.func36 (by kernel_rfl) rfl #[.agg #[.int .i64 ((rd_T24 l0 (ji9)).f0), .int .i64 ((rd_T24 l0 (ji9)).f1), .int .i64 ((rd_T24 l0 (ji9)).f2), .bool ((rd_T24 l0 (ji9)).f3)], .agg #[.int .i64 ((rd_T24 l0 x10_1).f0), .int .i64 ((rd_T24 l0 x10_1).f1), .int .i64 ((rd_T24 l0 x10_1).f2), .bool ((rd_T24 l0 x10_1).f3)]] (by rfl) rfl rfl (by (try simp only [List.map_toArray, List.map_cons, List.map_nil]); first | done | (simp only [hji9]; rfl) | rfl | (simp only [List.length_drop, List.length_take]; rfl)) ?_
             with_reducible refine (extent_goes.calls ((rd_T24 l0 (ji9)).f0) ((rd_T24 l0 (ji9)).f1) ((rd_T24 l0 (ji9)).f2) ((rd_T24 l0 (ji9)).f3) ((rd_T24 l0 x10_1).f0) ((rd_T24 l0 x10_1).f1) ((rd_T24 l0 x10_1).f2) ((rd_T24 l0 x10_1).f3) true _ A20.out).mono ?_
             rintro e w28 ⟨rfl, hb⟩
             refine ⟨_, rfl, ?_⟩
             have n0_ := Aside0.mk (blk_below (g := gb112) (o := .cells #[.int .i64 ((rd_T24 l0 x10_1).f0), .int .i64 ((rd_T24 l0 x10_1).f1), .int .i64 ((rd_T24 l0 x10_1).f2), .bool ((rd_T24 l0 x10_1).f3)] 24 (0, 0)) (by (with_reducible repeat (first | refine blk_drewN ?_ _ | refine blk_drew ?_ | refine blk_alloc ?_ _)); exact BK112.out) hb)
             have n1_ := Aside0.mk (below_step (by repeat (first | (with_reducible first | exact HB.out | apply below_alloc | apply pw_below_drewN | apply below_drew1 | refine below_set ?_ GE112.out) | exact HB.out)) hb)
             clear BK112;clear HB;have BK112 := n0_;have HB := n1_;clear n0_ n1_
             (try clear hb)
             (try clear hb2)
             (try clear hk)
             (try clear hi)
             refine hK.out _ _ ⟨(blk_cell BK112.out 0).trans rfl, (blk_cell BK112.out 1).trans rfl, (blk_cell BK112.out 2).trans rfl, (blk_cell BK112.out 3).trans rfl, ((HB.out.cell (World.block_lt_of_cell? w _ hw114_0)).trans hw114_0), ((HB.out.cell (World.block_lt_of_cell? w _ hw114_1)).trans hw114_1), ((HB.out.cell (World.block_lt_of_cell? w _ hw114_2)).trans hw114_2), ((HB.out.cell (World.block_lt_of_cell? w _ hw114_3)).trans hw114_3), ((HB.out.cell (World.block_lt_of_cell? w _ hw116_0)).trans hw116_0), ((HB.out.cell (World.block_lt_of_cell? w _ hw116_1)).trans hw116_1), ((HB.out.cell (World.block_lt_of_cell? w _ hw116_2)).trans hw116_2), ((HB.out.cell (World.block_lt_of_cell? w _ hw116_3)).trans hw116_3)⟩ (fun hHeld => ?_)
             clear hK K;refine norm_ (a' := ?_) ?_ ?_;rotate_left
             ·show Act.put _ (some 38) _ = _
              simp only [Act.put, sIb, sC0, sCs, i64_w, i32_w];rfl
             refine pure_ (i := 24) (N := some 39) (v := ?_) (a' := ?_) #[true, true, true, true, true, true, true, true, true, true, true, true, true, true, true, true, true, true, true, true, true, true, true, true, true, false, false] rfl rfl (any_of HT_.out (by kernel_rfl)) (fun _ _ _ h => h) (Or.inl ⟨by rfl, ?_⟩) ?_ ?_;rotate_left;(intro w';go_simp;with_reducible rfl);rotate_left;(simp only [Act.put, sIb, sC0, sCs, i64_w, i32_w];rfl);refine pure_ (i := 25) (N := some 40) (v := ?_) (a' := ?_) #[true, true, true, true, true, true, true, true, true, true, true, true, true, true, true, true, true, true, true, true, true, true, true, true, true, true, false] rfl rfl (any_of HT_.out (by kernel_rfl)) (fun _ _ _ h => h) (Or.inl ⟨by rfl, ?_⟩) ?_ ?_;rotate_left;(intro w';go_simp;with_reducible rfl);rotate_left;(simp only [Act.put, sIb, sC0, sCs, i64_w, i32_w];rfl);refine pure_ (i := 26) (N := some 41) (v := ?_) (a' := ?_) #[true, true, true, true, true, true, true, true, true, true, true, true, true, true, true, true, true, true, true, true, true, true, true, true, true, true, true] rfl rfl (any_of HT_.out (by kernel_rfl)) (fun _ _ _ h => h) (Or.inl ⟨by rfl, ?_⟩) ?_ ?_;rotate_left;(intro w';go_simp;with_reducible rfl);rotate_left;(simp only [Act.put, sIb, sC0, sCs, i64_w, i32_w];rfl)
             refine done_ (done_of HT_.out (by kernel_rfl)) ?_
             try go_wp2
             go_ret
             exact ⟨by first | rfl | (simp [errW_none, errW_some] <;> rfl) | (simp only [← hji9]; first | rfl | (simp [errW_none, errW_some] <;> rfl)) | (simp [*, errW_none, errW_some] <;> rfl), by repeat (first | (with_reducible first | exact HB.out | apply below_alloc | apply pw_below_drewN | apply below_drew1 | refine below_set ?_ GE112.out) | exact HB.out)⟩
            ·replace c21 := Bool.eq_false_iff.mpr c21
             subst c21
             have H1 : (extent_Check.l0 k1 l0 l0 (l0.length : Int) (wrap64 (x10_1 + 1))) = some r := by rw [if_neg (show ¬ (false = true) by decide)] at H; exact H
             clear H;have H := H1;clear H1
             have H' := Aside0.mk H
             clear H
             have p111 : 0 ≤ (x10_1 : Int) := of_decide_eq_true (by first | (with_reducible assumption) | assumption)
             have q111 : x10_1 < (l0.length : Int) := of_decide_eq_true (by first | (with_reducible assumption) | assumption)
             obtain ⟨ad111, e111, hx111_0, hx111_1, hx111_2, hx111_3⟩ := at_T24 HR0.out x10_1 p111 q111
             cases e111
             replace hx111_0 := (HB.out.cell (World.block_lt_of_cell? w _ hx111_0)).trans hx111_0
             replace hx111_1 := (HB.out.cell (World.block_lt_of_cell? w _ hx111_1)).trans hx111_1
             replace hx111_2 := (HB.out.cell (World.block_lt_of_cell? w _ hx111_2)).trans hx111_2
             replace hx111_3 := (HB.out.cell (World.block_lt_of_cell? w _ hx111_3)).trans hx111_3
             replace p111 := eq_true p111;replace q111 := eq_true q111
             try go_wp2_with (first | ((with_reducible refine gate_dst (N := 4) rfl ?_); refine box_event ?hg (N := 4) ?hd (cs := #[.int .i64 0, .int .i64 0, .int .i64 0, .bool false]) (t := 24) ?hr ?_; (case hd => rfl); (case hg => rfl); (case hr => first | (go_simp; done) | (go_simp; rfl)); intro gb112 hg w29 hbox hb; have n0_ := Aside0.mk (below_step (by repeat (first | (with_reducible first | exact HB.out | apply below_alloc | apply pw_below_drewN | apply below_drew1) | exact HB.out)) hb); have n1_ := Aside0.mk (hbox); have n2_ := Aside0.mk ((by rw [hg]; exact (below_size (by repeat (first | (with_reducible first | exact HB.out | apply below_alloc | apply pw_below_drewN | apply below_drew1) | exact HB.out))) : w.heap.size ≤ gb112)); have n3_ := Aside0.mk ((by rw [hg]; exact (below_size (by repeat (first | (with_reducible first | exact HB.out | apply below_alloc | apply pw_below_drewN | apply below_drew1) | exact HB.out))) : w.heap.size ≤ gb112)); clear HB; have HB := n0_; have BK112 := n1_; have GW112 := n2_; have GE112 := n3_; clear n0_ n1_ n2_ n3_; clear hb hbox hg; have hcz30_0 : w29.cell? ⟨gb112, 0, none⟩ = some (.int .i64 0) := (blk_cell BK112.out 0).trans rfl; have hcz30_1 : w29.cell? ⟨gb112, 1, none⟩ = some (.int .i64 0) := (blk_cell BK112.out 1).trans rfl; have hcz30_2 : w29.cell? ⟨gb112, 2, none⟩ = some (.int .i64 0) := (blk_cell BK112.out 2).trans rfl; have hcz30_3 : w29.cell? ⟨gb112, 3, none⟩ = some (.bool false) := (blk_cell BK112.out 3).trans rfl; have hfz30_0 := blk_frozen BK112.out 0; have hfz30_1 := blk_frozen BK112.out 1; have hfz30_2 := blk_frozen BK112.out 2; have hfz30_3 := blk_frozen BK112.out 3))
             have n0_ : Aside0 (((((w29.setCell ⟨gb112, 0, none⟩ (.int .i64 ((rd_T24 l0 x10_1).f0))).setCell ⟨gb112, 1, none⟩ (.int .i64 ((rd_T24 l0 x10_1).f1))).setCell ⟨gb112, 2, none⟩ (.int .i64 ((rd_T24 l0 x10_1).f2))).setCell ⟨gb112, 3, none⟩ (.bool ((rd_T24 l0 x10_1).f3))).heap[gb112]? = some (.cells #[.int .i64 ((rd_T24 l0 x10_1).f0), .int .i64 ((rd_T24 l0 x10_1).f1), .int .i64 ((rd_T24 l0 x10_1).f2), .bool ((rd_T24 l0 x10_1).f3)] 24 (0, 0))) := ⟨by (with_reducible repeat (first | refine blk_drewN ?_ _ | refine blk_drew ?_ | refine blk_alloc ?_ _)); refine blk_put (cs := #[.int .i64 ((rd_T24 l0 x10_1).f0), .int .i64 ((rd_T24 l0 x10_1).f1), .int .i64 ((rd_T24 l0 x10_1).f2), .bool false]) ?_ 3 _ rfl; (with_reducible repeat (first | refine blk_drewN ?_ _ | refine blk_drew ?_ | refine blk_alloc ?_ _)); refine blk_put (cs := #[.int .i64 ((rd_T24 l0 x10_1).f0), .int .i64 ((rd_T24 l0 x10_1).f1), .int .i64 0, .bool false]) ?_ 2 _ rfl; (with_reducible repeat (first | refine blk_drewN ?_ _ | refine blk_drew ?_ | refine blk_alloc ?_ _)); refine blk_put (cs := #[.int .i64 ((rd_T24 l0 x10_1).f0), .int .i64 0, .int .i64 0, .bool false]) ?_ 1 _ rfl; (with_reducible repeat (first | refine blk_drewN ?_ _ | refine blk_drew ?_ | refine blk_alloc ?_ _)); refine blk_put (cs := #[.int .i64 0, .int .i64 0, .int .i64 0, .bool false]) ?_ 0 _ rfl; (with_reducible repeat (first | refine blk_drewN ?_ _ | refine blk_drew ?_ | refine blk_alloc ?_ _)); exact BK112.out⟩
             have n1_ : Aside0 (Below w.heap.size w ((((w29.setCell ⟨gb112, 0, none⟩ (.int .i64 ((rd_T24 l0 x10_1).f0))).setCell ⟨gb112, 1, none⟩ (.int .i64 ((rd_T24 l0 x10_1).f1))).setCell ⟨gb112, 2, none⟩ (.int .i64 ((rd_T24 l0 x10_1).f2))).setCell ⟨gb112, 3, none⟩ (.bool ((rd_T24 l0 x10_1).f3)))) := ⟨by repeat (first | (with_reducible first | exact HB.out | apply below_alloc | apply pw_below_drewN | apply below_drew1 | refine below_set ?_ GE112.out) | exact HB.out)⟩
             (try clear BK112)
             (try clear HB)
             generalize ((((w29.setCell ⟨gb112, 0, none⟩ (.int .i64 ((rd_T24 l0 x10_1).f0))).setCell ⟨gb112, 1, none⟩ (.int .i64 ((rd_T24 l0 x10_1).f1))).setCell ⟨gb112, 2, none⟩ (.int .i64 ((rd_T24 l0 x10_1).f2))).setCell ⟨gb112, 3, none⟩ (.bool ((rd_T24 l0 x10_1).f3))) = w31 at n0_ n1_ ⊢
             have BK112 := n0_;have HB := n1_;clear n0_ n1_
             have n0_ := Aside0.mk (blk_drew BK112.out)
             have n1_ := Aside0.mk (below_drew1 HB.out)
             clear BK112;clear HB;have BK112 := n0_;have HB := n1_;clear n0_ n1_
             have p114 : 0 ≤ ((ji9) : Int) := of_decide_eq_true (by first | (with_reducible assumption) | assumption)
             have q114 : (ji9) < (l0.length : Int) := of_decide_eq_true (by first | (with_reducible assumption) | assumption)
             obtain ⟨ad114, e114, hx114_0, hx114_1, hx114_2, hx114_3⟩ := at_T24 HR0.out (ji9) p114 q114
             have hw114_3 := hx114_3;have hw114_2 := hx114_2;have hw114_1 := hx114_1;have hw114_0 := hx114_0
             obtain rfl : ad111 = ad114 := (by injection e114)
             replace hx114_0 := (HB.out.cell (World.block_lt_of_cell? w _ hx114_0)).trans hx114_0
             replace hx114_1 := (HB.out.cell (World.block_lt_of_cell? w _ hx114_1)).trans hx114_1
             replace hx114_2 := (HB.out.cell (World.block_lt_of_cell? w _ hx114_2)).trans hx114_2
             replace hx114_3 := (HB.out.cell (World.block_lt_of_cell? w _ hx114_3)).trans hx114_3
             replace p114 := eq_true p114;replace q114 := eq_true q114
             have p116 : 0 ≤ ((ji9) : Int) := of_decide_eq_true (by first | (with_reducible assumption) | assumption)
             have q116 : (ji9) < (l0.length : Int) := of_decide_eq_true (by first | (with_reducible assumption) | assumption)
             obtain ⟨ad116, e116, hx116_0, hx116_1, hx116_2, hx116_3⟩ := at_T24 HR0.out (ji9) p116 q116
             have hw116_3 := hx116_3;have hw116_2 := hx116_2;have hw116_1 := hx116_1;have hw116_0 := hx116_0
             obtain rfl : ad111 = ad116 := (by injection e116)
             replace hx116_0 := (HB.out.cell (World.block_lt_of_cell? w _ hx116_0)).trans hx116_0
             replace hx116_1 := (HB.out.cell (World.block_lt_of_cell? w _ hx116_1)).trans hx116_1
             replace hx116_2 := (HB.out.cell (World.block_lt_of_cell? w _ hx116_2)).trans hx116_2
             replace hx116_3 := (HB.out.cell (World.block_lt_of_cell? w _ hx116_3)).trans hx116_3
             replace p116 := eq_true p116;replace q116 := eq_true q116
             refine start_ (n := 27) (S := fun w' => w'.cell? ⟨gb112, 0, none⟩ = some (.int .i64 ((rd_T24 l0 x10_1).f0)) ∧ w'.cell? ⟨gb112, 1, none⟩ = some (.int .i64 ((rd_T24 l0 x10_1).f1)) ∧ w'.cell? ⟨gb112, 2, none⟩ = some (.int .i64 ((rd_T24 l0 x10_1).f2)) ∧ w'.cell? ⟨gb112, 3, none⟩ = some (.bool ((rd_T24 l0 x10_1).f3)) ∧ w'.cell? (ad111.add (((ji9)).toNat * 4)) = some (.int .i64 ((rd_T24 l0 (ji9)).f0)) ∧ w'.cell? ⟨(ad111.add (((ji9)).toNat * 4)).block, (ad111.add (((ji9)).toNat * 4)).off + 1, none⟩ = some (.int .i64 ((rd_T24 l0 (ji9)).f1)) ∧ w'.cell? ⟨(ad111.add (((ji9)).toNat * 4)).block, (ad111.add (((ji9)).toNat * 4)).off + 2, none⟩ = some (.int .i64 ((rd_T24 l0 (ji9)).f2)) ∧ w'.cell? ⟨(ad111.add (((ji9)).toNat * 4)).block, (ad111.add (((ji9)).toNat * 4)).off + 3, none⟩ = some (.bool ((rd_T24 l0 (ji9)).f3)) ∧ w'.cell? (ad111.add (((ji9)).toNat * 4)) = some (.int .i64 ((rd_T24 l0 (ji9)).f0)) ∧ w'.cell? ⟨(ad111.add (((ji9)).toNat * 4)).block, (ad111.add (((ji9)).toNat * 4)).off + 1, none⟩ = some (.int .i64 ((rd_T24 l0 (ji9)).f1)) ∧ w'.cell? ⟨(ad111.add (((ji9)).toNat * 4)).block, (ad111.add (((ji9)).toNat * 4)).off + 2, none⟩ = some (.int .i64 ((rd_T24 l0 (ji9)).f2)) ∧ w'.cell? ⟨(ad111.add (((ji9)).toNat * 4)).block, (ad111.add (((ji9)).toNat * 4)).off + 3, none⟩ = some (.bool ((rd_T24 l0 (ji9)).f3))) (ds := []) #[false, false, false, false, false, false, false, false, false, false, false, false, false, false, false, false, false, false, false, false, false, false, false, false, false, false, false] (by kernel_rfl) rfl rfl ⟨(blk_cell BK112.out 0).trans rfl, (blk_cell BK112.out 1).trans rfl, (blk_cell BK112.out 2).trans rfl, (blk_cell BK112.out 3).trans rfl, ((HB.out.cell (World.block_lt_of_cell? w _ hw114_0)).trans hw114_0), ((HB.out.cell (World.block_lt_of_cell? w _ hw114_1)).trans hw114_1), ((HB.out.cell (World.block_lt_of_cell? w _ hw114_2)).trans hw114_2), ((HB.out.cell (World.block_lt_of_cell? w _ hw114_3)).trans hw114_3), ((HB.out.cell (World.block_lt_of_cell? w _ hw116_0)).trans hw116_0), ((HB.out.cell (World.block_lt_of_cell? w _ hw116_1)).trans hw116_1), ((HB.out.cell (World.block_lt_of_cell? w _ hw116_2)).trans hw116_2), ((HB.out.cell (World.block_lt_of_cell? w _ hw116_3)).trans hw116_3)⟩ (fun hHeld => ?_); refine with_tabW extent_Check.tab6 extent_Check.bits6 (fun HT_ HW_ => ?_)
             generalize w31.drew = w32 at BK112 HB hx114_0 hx114_1 hx114_2 hx114_3 hx116_0 hx116_1 hx116_2 hx116_3 hHeld ⊢
             refine take_ (i := 0) (N := some 15) (v := ?_) (a' := ?_) #[true, false, false, false, false, false, false, false, false, false, false, false, false, false, false, false, false, false, false, false, false, false, false, false, false, false, false] rfl rfl (take_ofW HT_.out HW_.out (by kernel_rfl)) (fun _ _ _ h => h) (Or.inl ⟨by rfl, ?_⟩) hHeld ?_ ?_;rotate_left
             ·rintro w' ⟨s0, s1, s2, s3, s4, s5, s6, s7, s8, s9, s10, s11⟩
              go_simp;with_reducible rfl
             rotate_left;(simp only [Act.put, sIb, sC0, sCs, i64_w, i32_w];rfl)
             refine one_ (i := 1) (N := some 16) #[true, true, false, false, false, false, false, false, false, false, false, false, false, false, false, false, false, false, false, false, false, false, false, false, false, false, false] rfl rfl (one_of HT_.out (by kernel_rfl)) (by decide) (fun K hK => ?_)
             refine goes_ Try.func34 (by kernel_rfl) rfl #[.agg #[.int .i64 ((rd_T24 l0 x10_1).f0), .int .i64 ((rd_T24 l0 x10_1).f1), .int .i64 ((rd_T24 l0 x10_1).f2), .bool ((rd_T24 l0 x10_1).f3)]] (by rfl) rfl rfl (by (try simp only [List.map_toArray, List.map_cons, List.map_nil]); first | done | rfl | (simp only [List.length_drop, List.length_take]; rfl)) ?_
             with_reducible refine (extent_may.calls ((rd_T24 l0 x10_1).f0) ((rd_T24 l0 x10_1).f1) ((rd_T24 l0 x10_1).f2) ((rd_T24 l0 x10_1).f3) true _ A6.out).mono ?_
             rintro e w33 ⟨rfl, hb⟩
             refine ⟨_, rfl, ?_⟩
             have n0_ := Aside0.mk (blk_below (g := gb112) (o := .cells #[.int .i64 ((rd_T24 l0 x10_1).f0), .int .i64 ((rd_T24 l0 x10_1).f1), .int .i64 ((rd_T24 l0 x10_1).f2), .bool ((rd_T24 l0 x10_1).f3)] 24 (0, 0)) (by (with_reducible repeat (first | refine blk_drewN ?_ _ | refine blk_drew ?_ | refine blk_alloc ?_ _)); exact BK112.out) hb)
             have n1_ := Aside0.mk (below_step (by repeat (first | (with_reducible first | exact HB.out | apply below_alloc | apply pw_below_drewN | apply below_drew1 | refine below_set ?_ GE112.out) | exact HB.out)) hb)
             clear BK112;clear HB;have BK112 := n0_;have HB := n1_;clear n0_ n1_
             (try clear hb)
             (try clear hb2)
             (try clear hk)
             (try clear hi)
             refine hK.out _ _ ⟨(blk_cell BK112.out 0).trans rfl, (blk_cell BK112.out 1).trans rfl, (blk_cell BK112.out 2).trans rfl, (blk_cell BK112.out 3).trans rfl, ((HB.out.cell (World.block_lt_of_cell? w _ hw114_0)).trans hw114_0), ((HB.out.cell (World.block_lt_of_cell? w _ hw114_1)).trans hw114_1), ((HB.out.cell (World.block_lt_of_cell? w _ hw114_2)).trans hw114_2), ((HB.out.cell (World.block_lt_of_cell? w _ hw114_3)).trans hw114_3), ((HB.out.cell (World.block_lt_of_cell? w _ hw116_0)).trans hw116_0), ((HB.out.cell (World.block_lt_of_cell? w _ hw116_1)).trans hw116_1), ((HB.out.cell (World.block_lt_of_cell? w _ hw116_2)).trans hw116_2), ((HB.out.cell (World.block_lt_of_cell? w _ hw116_3)).trans hw116_3)⟩ (fun hHeld => ?_)
             clear hK K;refine norm_ (a' := ?_) ?_ ?_;rotate_left
             ·show Act.put _ (some 16) _ = _
              simp only [Act.put, sIb, sC0, sCs, i64_w, i32_w];rfl
             refine pure_ (i := 2) (N := some 17) (v := ?_) (a' := ?_) #[true, true, true, false, false, false, false, false, false, false, false, false, false, false, false, false, false, false, false, false, false, false, false, false, false, false, false] rfl rfl (any_of HT_.out (by kernel_rfl)) (fun _ _ _ h => h) (Or.inl ⟨by rfl, ?_⟩) ?_ ?_;rotate_left;(intro w';go_simp;with_reducible rfl);rotate_left;(simp only [Act.put, sIb, sC0, sCs, i64_w, i32_w];rfl);refine pure_ (i := 3) (N := some 18) (v := ?_) (a' := ?_) #[true, true, true, true, false, false, false, false, false, false, false, false, false, false, false, false, false, false, false, false, false, false, false, false, false, false, false] rfl rfl (any_of HT_.out (by kernel_rfl)) (fun _ _ _ h => h) (Or.inl ⟨by rfl, ?_⟩) ?_ ?_;rotate_left;(intro w';go_simp;with_reducible rfl);rotate_left;(simp only [Act.put, sIb, sC0, sCs, i64_w, i32_w];rfl);refine pure_ (i := 4) (N := some 19) (v := ?_) (a' := ?_) #[true, true, true, true, true, false, false, false, false, false, false, false, false, false, false, false, false, false, false, false, false, false, false, false, false, false, false] rfl rfl (any_of HT_.out (by kernel_rfl)) (fun _ _ _ h => h) (Or.inl ⟨by rfl, ?_⟩) ?_ ?_;rotate_left;(intro w';go_simp;with_reducible rfl);rotate_left;(simp only [Act.put, sIb, sC0, sCs, i64_w, i32_w];rfl);refine pure_ (i := 5) (N := some 20) (v := ?_) (a' := ?_) #[true, true, true, true, true, true, false, false, false, false, false, false, false, false, false, false, false, false, false, false, false, false, false, false, false, false, false] rfl rfl (any_of HT_.out (by kernel_rfl)) (fun _ _ _ h => h) (Or.inl ⟨by rfl, ?_⟩) ?_ ?_;rotate_left;(intro w';go_simp;with_reducible rfl);rotate_left;(simp only [Act.put, sIb, sC0, sCs, i64_w, i32_w];rfl);refine pure_ (i := 6) (N := some 21) (v := ?_) (a' := ?_) #[true, true, true, true, true, true, true, false, false, false, false, false, false, false, false, false, false, false, false, false, false, false, false, false, false, false, false] rfl rfl (any_of HT_.out (by kernel_rfl)) (fun _ _ _ h => h) (Or.inl ⟨by rfl, ?_⟩) ?_ ?_;rotate_left;(intro w';go_simp;with_reducible rfl);rotate_left;(simp only [Act.put, sIb, sC0, sCs, i64_w, i32_w];rfl);refine pure_ (i := 7) (N := some 22) (v := ?_) (a' := ?_) #[true, true, true, true, true, true, true, true, false, false, false, false, false, false, false, false, false, false, false, false, false, false, false, false, false, false, false] rfl rfl (any_of HT_.out (by kernel_rfl)) (fun _ _ _ h => h) (Or.inl ⟨by rfl, ?_⟩) ?_ ?_;rotate_left;(intro w';go_simp;with_reducible rfl);rotate_left;(simp only [Act.put, sIb, sC0, sCs, i64_w, i32_w];rfl);refine pure_ (i := 9) (N := some 24) (v := ?_) (a' := ?_) #[true, true, true, true, true, true, true, true, false, true, false, false, false, false, false, false, false, false, false, false, false, false, false, false, false, false, false] rfl rfl (any_of HT_.out (by kernel_rfl)) (fun _ _ _ h => h) (Or.inl ⟨by rfl, ?_⟩) ?_ ?_;rotate_left;(intro w';go_simp;with_reducible rfl);rotate_left;(simp only [Act.put, sIb, sC0, sCs, i64_w, i32_w];rfl);refine pure_ (i := 10) (N := some 25) (v := ?_) (a' := ?_) #[true, true, true, true, true, true, true, true, false, true, true, false, false, false, false, false, false, false, false, false, false, false, false, false, false, false, false] rfl rfl (any_of HT_.out (by kernel_rfl)) (fun _ _ _ h => h) (Or.inl ⟨by rfl, ?_⟩) ?_ ?_;rotate_left;(intro w';go_simp;with_reducible rfl);rotate_left;(simp only [Act.put, sIb, sC0, sCs, i64_w, i32_w];rfl);refine pure_ (i := 11) (N := some 26) (v := ?_) (a' := ?_) #[true, true, true, true, true, true, true, true, false, true, true, true, false, false, false, false, false, false, false, false, false, false, false, false, false, false, false] rfl rfl (any_of HT_.out (by kernel_rfl)) (fun _ _ _ h => h) (Or.inl ⟨by rfl, ?_⟩) ?_ ?_;rotate_left;(intro w';go_simp;with_reducible rfl);rotate_left;(simp only [Act.put, sIb, sC0, sCs, i64_w, i32_w];rfl);refine pure_ (i := 12) (N := some 27) (v := ?_) (a' := ?_) #[true, true, true, true, true, true, true, true, false, true, true, true, true, false, false, false, false, false, false, false, false, false, false, false, false, false, false] rfl rfl (any_of HT_.out (by kernel_rfl)) (fun _ _ _ h => h) (Or.inl ⟨by rfl, ?_⟩) ?_ ?_;rotate_left;(intro w';go_simp;with_reducible rfl);rotate_left;(simp only [Act.put, sIb, sC0, sCs, i64_w, i32_w];rfl);refine take_ (i := 8) (N := some 23) (v := ?_) (a' := ?_) #[true, true, true, true, true, true, true, true, true, true, true, true, true, false, false, false, false, false, false, false, false, false, false, false, false, false, false] rfl rfl (take_ofW HT_.out HW_.out (by kernel_rfl)) (fun _ _ _ h => h) (Or.inl ⟨by rfl, ?_⟩) hHeld ?_ ?_;rotate_left
             ·rintro w' ⟨s0, s1, s2, s3, s4, s5, s6, s7, s8, s9, s10, s11⟩
              go_simp;with_reducible rfl
             rotate_left;(simp only [Act.put, sIb, sC0, sCs, i64_w, i32_w];rfl);refine take_ (i := 13) (N := some 28) (v := ?_) (a' := ?_) #[true, true, true, true, true, true, true, true, true, true, true, true, true, true, false, false, false, false, false, false, false, false, false, false, false, false, false] rfl rfl (take_ofW HT_.out HW_.out (by kernel_rfl)) (fun _ _ _ h => h) (Or.inl ⟨by rfl, ?_⟩) hHeld ?_ ?_;rotate_left
             ·rintro w' ⟨s0, s1, s2, s3, s4, s5, s6, s7, s8, s9, s10, s11⟩
              go_simp;with_reducible rfl
             rotate_left;(simp only [Act.put, sIb, sC0, sCs, i64_w, i32_w];rfl)
             refine one_ (i := 14) (N := some 29) #[true, true, true, true, true, true, true, true, true, true, true, true, true, true, true, false, false, false, false, false, false, false, false, false, false, false, false] rfl rfl (one_of HT_.out (by kernel_rfl)) (by decide) (fun K hK => ?_)
             refine goes_ Try.func35 (by kernel_rfl) rfl #[.agg #[.int .i64 ((rd_T24 l0 (ji9)).f0), .int .i64 ((rd_T24 l0 (ji9)).f1), .int .i64 ((rd_T24 l0 (ji9)).f2), .bool ((rd_T24 l0 (ji9)).f3)]] (by rfl) rfl rfl (by (try simp only [List.map_toArray, List.map_cons, List.map_nil]); first | done | (simp only [hji9]; rfl) | rfl | (simp only [List.length_drop, List.length_take]; rfl)) ?_
             with_reducible refine (extent_end.calls ((rd_T24 l0 (ji9)).f0) ((rd_T24 l0 (ji9)).f1) ((rd_T24 l0 (ji9)).f2) ((rd_T24 l0 (ji9)).f3) t115 _ A12.out).mono ?_
             rintro e w34 ⟨rfl, hb⟩
             refine ⟨_, rfl, ?_⟩
             have n0_ := Aside0.mk (blk_below (g := gb112) (o := .cells #[.int .i64 ((rd_T24 l0 x10_1).f0), .int .i64 ((rd_T24 l0 x10_1).f1), .int .i64 ((rd_T24 l0 x10_1).f2), .bool ((rd_T24 l0 x10_1).f3)] 24 (0, 0)) (by (with_reducible repeat (first | refine blk_drewN ?_ _ | refine blk_drew ?_ | refine blk_alloc ?_ _)); exact BK112.out) hb)
             have n1_ := Aside0.mk (below_step (by repeat (first | (with_reducible first | exact HB.out | apply below_alloc | apply pw_below_drewN | apply below_drew1 | refine below_set ?_ GE112.out) | exact HB.out)) hb)
             clear BK112;clear HB;have BK112 := n0_;have HB := n1_;clear n0_ n1_
             (try clear hb)
             (try clear hb2)
             (try clear hk)
             (try clear hi)
             refine hK.out _ _ ⟨(blk_cell BK112.out 0).trans rfl, (blk_cell BK112.out 1).trans rfl, (blk_cell BK112.out 2).trans rfl, (blk_cell BK112.out 3).trans rfl, ((HB.out.cell (World.block_lt_of_cell? w _ hw114_0)).trans hw114_0), ((HB.out.cell (World.block_lt_of_cell? w _ hw114_1)).trans hw114_1), ((HB.out.cell (World.block_lt_of_cell? w _ hw114_2)).trans hw114_2), ((HB.out.cell (World.block_lt_of_cell? w _ hw114_3)).trans hw114_3), ((HB.out.cell (World.block_lt_of_cell? w _ hw116_0)).trans hw116_0), ((HB.out.cell (World.block_lt_of_cell? w _ hw116_1)).trans hw116_1), ((HB.out.cell (World.block_lt_of_cell? w _ hw116_2)).trans hw116_2), ((HB.out.cell (World.block_lt_of_cell? w _ hw116_3)).trans hw116_3)⟩ (fun hHeld => ?_)
             clear hK K;refine norm_ (a' := ?_) ?_ ?_;rotate_left
             ·show Act.put _ (some 29) _ = _
              simp only [Act.put, sIb, sC0, sCs, i64_w, i32_w];rfl
             refine pure_ (i := 15) (N := some 30) (v := ?_) (a' := ?_) #[true, true, true, true, true, true, true, true, true, true, true, true, true, true, true, true, false, false, false, false, false, false, false, false, false, false, false] rfl rfl (any_of HT_.out (by kernel_rfl)) (fun _ _ _ h => h) (Or.inl ⟨by rfl, ?_⟩) ?_ ?_;rotate_left;(intro w';go_simp;with_reducible rfl);rotate_left;(simp only [Act.put, sIb, sC0, sCs, i64_w, i32_w];rfl);refine pure_ (i := 16) (N := some 31) (v := ?_) (a' := ?_) #[true, true, true, true, true, true, true, true, true, true, true, true, true, true, true, true, true, false, false, false, false, false, false, false, false, false, false] rfl rfl (any_of HT_.out (by kernel_rfl)) (fun _ _ _ h => h) (Or.inl ⟨by rfl, ?_⟩) ?_ ?_;rotate_left;(intro w';go_simp;with_reducible rfl);rotate_left;(simp only [Act.put, sIb, sC0, sCs, i64_w, i32_w];rfl);refine pure_ (i := 17) (N := some 32) (v := ?_) (a' := ?_) #[true, true, true, true, true, true, true, true, true, true, true, true, true, true, true, true, true, true, false, false, false, false, false, false, false, false, false] rfl rfl (any_of HT_.out (by kernel_rfl)) (fun _ _ _ h => h) (Or.inl ⟨by rfl, ?_⟩) ?_ ?_;rotate_left;(intro w';go_simp;with_reducible rfl);rotate_left;(simp only [Act.put, sIb, sC0, sCs, i64_w, i32_w];rfl);refine pure_ (i := 18) (N := some 33) (v := ?_) (a' := ?_) #[true, true, true, true, true, true, true, true, true, true, true, true, true, true, true, true, true, true, true, false, false, false, false, false, false, false, false] rfl rfl (any_of HT_.out (by kernel_rfl)) (fun _ _ _ h => h) (Or.inl ⟨by rfl, ?_⟩) ?_ ?_;rotate_left;(intro w';go_simp;with_reducible rfl);rotate_left;(simp only [Act.put, sIb, sC0, sCs, i64_w, i32_w];rfl);refine pure_ (i := 19) (N := some 34) (v := ?_) (a' := ?_) #[true, true, true, true, true, true, true, true, true, true, true, true, true, true, true, true, true, true, true, true, false, false, false, false, false, false, false] rfl rfl (any_of HT_.out (by kernel_rfl)) (fun _ _ _ h => h) (Or.inl ⟨by rfl, ?_⟩) ?_ ?_;rotate_left;(intro w';go_simp;with_reducible rfl);rotate_left;(simp only [Act.put, sIb, sC0, sCs, i64_w, i32_w];rfl);refine pure_ (i := 20) (N := some 35) (v := ?_) (a' := ?_) #[true, true, true, true, true, true, true, true, true, true, true, true, true, true, true, true, true, true, true, true, true, false, false, false, false, false, false] rfl rfl (any_of HT_.out (by kernel_rfl)) (fun _ _ _ h => h) (Or.inl ⟨by rfl, ?_⟩) ?_ ?_;rotate_left;(intro w';go_simp;with_reducible rfl);rotate_left;(simp only [Act.put, sIb, sC0, sCs, i64_w, i32_w];rfl);refine take_ (i := 21) (N := some 36) (v := ?_) (a' := ?_) #[true, true, true, true, true, true, true, true, true, true, true, true, true, true, true, true, true, true, true, true, true, true, false, false, false, false, false] rfl rfl (take_ofW HT_.out HW_.out (by kernel_rfl)) (fun _ _ _ h => h) (Or.inl ⟨by rfl, ?_⟩) hHeld ?_ ?_;rotate_left
             ·rintro w' ⟨s0, s1, s2, s3, s4, s5, s6, s7, s8, s9, s10, s11⟩
              go_simp;with_reducible rfl
             rotate_left;(simp only [Act.put, sIb, sC0, sCs, i64_w, i32_w];rfl);refine take_ (i := 22) (N := some 37) (v := ?_) (a' := ?_) #[true, true, true, true, true, true, true, true, true, true, true, true, true, true, true, true, true, true, true, true, true, true, true, false, false, false, false] rfl rfl (take_ofW HT_.out HW_.out (by kernel_rfl)) (fun _ _ _ h => h) (Or.inl ⟨by rfl, ?_⟩) hHeld ?_ ?_;rotate_left
             ·rintro w' ⟨s0, s1, s2, s3, s4, s5, s6, s7, s8, s9, s10, s11⟩
              go_simp;with_reducible rfl
             rotate_left;(simp only [Act.put, sIb, sC0, sCs, i64_w, i32_w];rfl)
             refine one_ (i := 23) (N := some 38) #[true, true, true, true, true, true, true, true, true, true, true, true, true, true, true, true, true, true, true, true, true, true, true, true, false, false, false] rfl rfl (one_of HT_.out (by kernel_rfl)) (by decide) (fun K hK => ?_)
             refine goes_ Try.func36 (by kernel_rfl) rfl #[.agg #[.int .i64 ((rd_T24 l0 (ji9)).f0), .int .i64 ((rd_T24 l0 (ji9)).f1), .int .i64 ((rd_T24 l0 (ji9)).f2), .bool ((rd_T24 l0 (ji9)).f3)], .agg #[.int .i64 ((rd_T24 l0 x10_1).f0), .int .i64 ((rd_T24 l0 x10_1).f1), .int .i64 ((rd_T24 l0 x10_1).f2), .bool ((rd_T24 l0 x10_1).f3)]] (by rfl) rfl rfl (by (try simp only [List.map_toArray, List.map_cons, List.map_nil]); first | done | (simp only [hji9]; rfl) | rfl | (simp only [List.length_drop, List.length_take]; rfl)) ?_
             with_reducible refine (extent_goes.calls ((rd_T24 l0 (ji9)).f0) ((rd_T24 l0 (ji9)).f1) ((rd_T24 l0 (ji9)).f2) ((rd_T24 l0 (ji9)).f3) ((rd_T24 l0 x10_1).f0) ((rd_T24 l0 x10_1).f1) ((rd_T24 l0 x10_1).f2) ((rd_T24 l0 x10_1).f3) false _ A20.out).mono ?_
             rintro e w35 ⟨rfl, hb⟩
             refine ⟨_, rfl, ?_⟩
             have n0_ := Aside0.mk (blk_below (g := gb112) (o := .cells #[.int .i64 ((rd_T24 l0 x10_1).f0), .int .i64 ((rd_T24 l0 x10_1).f1), .int .i64 ((rd_T24 l0 x10_1).f2), .bool ((rd_T24 l0 x10_1).f3)] 24 (0, 0)) (by (with_reducible repeat (first | refine blk_drewN ?_ _ | refine blk_drew ?_ | refine blk_alloc ?_ _)); exact BK112.out) hb)
             have n1_ := Aside0.mk (below_step (by repeat (first | (with_reducible first | exact HB.out | apply below_alloc | apply pw_below_drewN | apply below_drew1 | refine below_set ?_ GE112.out) | exact HB.out)) hb)
             clear BK112;clear HB;have BK112 := n0_;have HB := n1_;clear n0_ n1_
             (try clear hb)
             (try clear hb2)
             (try clear hk)
             (try clear hi)
             refine hK.out _ _ ⟨(blk_cell BK112.out 0).trans rfl, (blk_cell BK112.out 1).trans rfl, (blk_cell BK112.out 2).trans rfl, (blk_cell BK112.out 3).trans rfl, ((HB.out.cell (World.block_lt_of_cell? w _ hw114_0)).trans hw114_0), ((HB.out.cell (World.block_lt_of_cell? w _ hw114_1)).trans hw114_1), ((HB.out.cell (World.block_lt_of_cell? w _ hw114_2)).trans hw114_2), ((HB.out.cell (World.block_lt_of_cell? w _ hw114_3)).trans hw114_3), ((HB.out.cell (World.block_lt_of_cell? w _ hw116_0)).trans hw116_0), ((HB.out.cell (World.block_lt_of_cell? w _ hw116_1)).trans hw116_1), ((HB.out.cell (World.block_lt_of_cell? w _ hw116_2)).trans hw116_2), ((HB.out.cell (World.block_lt_of_cell? w _ hw116_3)).trans hw116_3)⟩ (fun hHeld => ?_)
             clear hK K;refine norm_ (a' := ?_) ?_ ?_;rotate_left
             ·show Act.put _ (some 38) _ = _
              simp only [Act.put, sIb, sC0, sCs, i64_w, i32_w];rfl
             refine pure_ (i := 24) (N := some 39) (v := ?_) (a' := ?_) #[true, true, true, true, true, true, true, true, true, true, true, true, true, true, true, true, true, true, true, true, true, true, true, true, true, false, false] rfl rfl (any_of HT_.out (by kernel_rfl)) (fun _ _ _ h => h) (Or.inl ⟨by rfl, ?_⟩) ?_ ?_;rotate_left;(intro w';go_simp;with_reducible rfl);rotate_left;(simp only [Act.put, sIb, sC0, sCs, i64_w, i32_w];rfl);refine pure_ (i := 25) (N := some 40) (v := ?_) (a' := ?_) #[true, true, true, true, true, true, true, true, true, true, true, true, true, true, true, true, true, true, true, true, true, true, true, true, true, true, false] rfl rfl (any_of HT_.out (by kernel_rfl)) (fun _ _ _ h => h) (Or.inl ⟨by rfl, ?_⟩) ?_ ?_;rotate_left;(intro w';go_simp;with_reducible rfl);rotate_left;(simp only [Act.put, sIb, sC0, sCs, i64_w, i32_w];rfl);refine pure_ (i := 26) (N := some 41) (v := ?_) (a' := ?_) #[true, true, true, true, true, true, true, true, true, true, true, true, true, true, true, true, true, true, true, true, true, true, true, true, true, true, true] rfl rfl (any_of HT_.out (by kernel_rfl)) (fun _ _ _ h => h) (Or.inl ⟨by rfl, ?_⟩) ?_ ?_;rotate_left;(intro w';go_simp;with_reducible rfl);rotate_left;(simp only [Act.put, sIb, sC0, sCs, i64_w, i32_w];rfl)
             refine done_ (done_of HT_.out (by kernel_rfl)) ?_
             try go_wp2
             go_roundg k1
             case measure => have := HK1.out; omega
             case rel => exact ⟨(wrap64 (x10_1 + 1)), (by first | rfl | (simp; done) | (simp [*]; done)), H', ⟨by have := HK1.out; omega⟩, ⟨by repeat (first | (with_reducible first | exact HB.out | apply below_alloc | apply pw_below_drewN | apply below_drew1 | refine below_set ?_ GE112.out) | exact HB.out)⟩⟩
          ·rw [if_neg c11] at H
           exact absurd H (by simp)
         ·rw [if_neg c10] at H
          exact absurd H (by simp)
        ·rw [if_neg c8] at H
         have c8b0 : decide (0 < x10_1) = false := decide_eq_false c8
         clear c8
         have H' := Aside0.mk H
         clear H
         have p111 : 0 ≤ (x10_1 : Int) := of_decide_eq_true (by first | (with_reducible assumption) | assumption)
         have q111 : x10_1 < (l0.length : Int) := of_decide_eq_true (by first | (with_reducible assumption) | assumption)
         obtain ⟨ad111, e111, hx111_0, hx111_1, hx111_2, hx111_3⟩ := at_T24 HR0.out x10_1 p111 q111
         cases e111
         replace hx111_0 := (HB.out.cell (World.block_lt_of_cell? w _ hx111_0)).trans hx111_0
         replace hx111_1 := (HB.out.cell (World.block_lt_of_cell? w _ hx111_1)).trans hx111_1
         replace hx111_2 := (HB.out.cell (World.block_lt_of_cell? w _ hx111_2)).trans hx111_2
         replace hx111_3 := (HB.out.cell (World.block_lt_of_cell? w _ hx111_3)).trans hx111_3
         replace p111 := eq_true p111;replace q111 := eq_true q111
         try go_wp2_with (first | ((with_reducible refine gate_dst (N := 4) rfl ?_); refine box_event ?hg (N := 4) ?hd (cs := #[.int .i64 0, .int .i64 0, .int .i64 0, .bool false]) (t := 24) ?hr ?_; (case hd => rfl); (case hg => rfl); (case hr => first | (go_simp; done) | (go_simp; rfl)); intro gb112 hg w36 hbox hb; have n0_ := Aside0.mk (below_step (by repeat (first | (with_reducible first | exact HB.out | apply below_alloc | apply pw_below_drewN | apply below_drew1) | exact HB.out)) hb); have n1_ := Aside0.mk (hbox); have n2_ := Aside0.mk ((by rw [hg]; exact (below_size (by repeat (first | (with_reducible first | exact HB.out | apply below_alloc | apply pw_below_drewN | apply below_drew1) | exact HB.out))) : w.heap.size ≤ gb112)); have n3_ := Aside0.mk ((by rw [hg]; exact (below_size (by repeat (first | (with_reducible first | exact HB.out | apply below_alloc | apply pw_below_drewN | apply below_drew1) | exact HB.out))) : w.heap.size ≤ gb112)); clear HB; have HB := n0_; have BK112 := n1_; have GW112 := n2_; have GE112 := n3_; clear n0_ n1_ n2_ n3_; clear hb hbox hg; have hcz37_0 : w36.cell? ⟨gb112, 0, none⟩ = some (.int .i64 0) := (blk_cell BK112.out 0).trans rfl; have hcz37_1 : w36.cell? ⟨gb112, 1, none⟩ = some (.int .i64 0) := (blk_cell BK112.out 1).trans rfl; have hcz37_2 : w36.cell? ⟨gb112, 2, none⟩ = some (.int .i64 0) := (blk_cell BK112.out 2).trans rfl; have hcz37_3 : w36.cell? ⟨gb112, 3, none⟩ = some (.bool false) := (blk_cell BK112.out 3).trans rfl; have hfz37_0 := blk_frozen BK112.out 0; have hfz37_1 := blk_frozen BK112.out 1; have hfz37_2 := blk_frozen BK112.out 2; have hfz37_3 := blk_frozen BK112.out 3))
         have n0_ : Aside0 (((((w36.setCell ⟨gb112, 0, none⟩ (.int .i64 ((rd_T24 l0 x10_1).f0))).setCell ⟨gb112, 1, none⟩ (.int .i64 ((rd_T24 l0 x10_1).f1))).setCell ⟨gb112, 2, none⟩ (.int .i64 ((rd_T24 l0 x10_1).f2))).setCell ⟨gb112, 3, none⟩ (.bool ((rd_T24 l0 x10_1).f3))).heap[gb112]? = some (.cells #[.int .i64 ((rd_T24 l0 x10_1).f0), .int .i64 ((rd_T24 l0 x10_1).f1), .int .i64 ((rd_T24 l0 x10_1).f2), .bool ((rd_T24 l0 x10_1).f3)] 24 (0, 0))) := ⟨by (with_reducible repeat (first | refine blk_drewN ?_ _ | refine blk_drew ?_ | refine blk_alloc ?_ _)); refine blk_put (cs := #[.int .i64 ((rd_T24 l0 x10_1).f0), .int .i64 ((rd_T24 l0 x10_1).f1), .int .i64 ((rd_T24 l0 x10_1).f2), .bool false]) ?_ 3 _ rfl; (with_reducible repeat (first | refine blk_drewN ?_ _ | refine blk_drew ?_ | refine blk_alloc ?_ _)); refine blk_put (cs := #[.int .i64 ((rd_T24 l0 x10_1).f0), .int .i64 ((rd_T24 l0 x10_1).f1), .int .i64 0, .bool false]) ?_ 2 _ rfl; (with_reducible repeat (first | refine blk_drewN ?_ _ | refine blk_drew ?_ | refine blk_alloc ?_ _)); refine blk_put (cs := #[.int .i64 ((rd_T24 l0 x10_1).f0), .int .i64 0, .int .i64 0, .bool false]) ?_ 1 _ rfl; (with_reducible repeat (first | refine blk_drewN ?_ _ | refine blk_drew ?_ | refine blk_alloc ?_ _)); refine blk_put (cs := #[.int .i64 0, .int .i64 0, .int .i64 0, .bool false]) ?_ 0 _ rfl; (with_reducible repeat (first | refine blk_drewN ?_ _ | refine blk_drew ?_ | refine blk_alloc ?_ _)); exact BK112.out⟩
         have n1_ : Aside0 (Below w.heap.size w ((((w36.setCell ⟨gb112, 0, none⟩ (.int .i64 ((rd_T24 l0 x10_1).f0))).setCell ⟨gb112, 1, none⟩ (.int .i64 ((rd_T24 l0 x10_1).f1))).setCell ⟨gb112, 2, none⟩ (.int .i64 ((rd_T24 l0 x10_1).f2))).setCell ⟨gb112, 3, none⟩ (.bool ((rd_T24 l0 x10_1).f3)))) := ⟨by repeat (first | (with_reducible first | exact HB.out | apply below_alloc | apply pw_below_drewN | apply below_drew1 | refine below_set ?_ GE112.out) | exact HB.out)⟩
         (try clear BK112)
         (try clear HB)
         generalize ((((w36.setCell ⟨gb112, 0, none⟩ (.int .i64 ((rd_T24 l0 x10_1).f0))).setCell ⟨gb112, 1, none⟩ (.int .i64 ((rd_T24 l0 x10_1).f1))).setCell ⟨gb112, 2, none⟩ (.int .i64 ((rd_T24 l0 x10_1).f2))).setCell ⟨gb112, 3, none⟩ (.bool ((rd_T24 l0 x10_1).f3))) = w38 at n0_ n1_ ⊢
         have BK112 := n0_;have HB := n1_;clear n0_ n1_
         have n0_ := Aside0.mk (blk_drew BK112.out)
         have n1_ := Aside0.mk (below_drew1 HB.out)
         clear BK112;clear HB;have BK112 := n0_;have HB := n1_;clear n0_ n1_
         refine start_ (n := 27) (S := fun w' => w'.cell? ⟨gb112, 0, none⟩ = some (.int .i64 ((rd_T24 l0 x10_1).f0)) ∧ w'.cell? ⟨gb112, 1, none⟩ = some (.int .i64 ((rd_T24 l0 x10_1).f1)) ∧ w'.cell? ⟨gb112, 2, none⟩ = some (.int .i64 ((rd_T24 l0 x10_1).f2)) ∧ w'.cell? ⟨gb112, 3, none⟩ = some (.bool ((rd_T24 l0 x10_1).f3))) (ds := []) #[false, false, false, false, false, false, false, false, false, false, false, false, false, false, false, false, false, false, false, false, false, false, false, false, false, false, false] (by kernel_rfl) rfl rfl ⟨(blk_cell BK112.out 0).trans rfl, (blk_cell BK112.out 1).trans rfl, (blk_cell BK112.out 2).trans rfl, (blk_cell BK112.out 3).trans rfl⟩ (fun hHeld => ?_); refine with_tabW extent_Check.tab6 extent_Check.bits6 (fun HT_ HW_ => ?_)
         generalize w38.drew = w39 at BK112 HB hHeld ⊢
         refine take_ (i := 0) (N := some 15) (v := ?_) (a' := ?_) #[true, false, false, false, false, false, false, false, false, false, false, false, false, false, false, false, false, false, false, false, false, false, false, false, false, false, false] rfl rfl (take_ofW HT_.out HW_.out (by kernel_rfl)) (fun _ _ _ h => h) (Or.inl ⟨by rfl, ?_⟩) hHeld ?_ ?_;rotate_left
         ·rintro w' ⟨s0, s1, s2, s3⟩
          go_simp;with_reducible rfl
         rotate_left;(simp only [Act.put, sIb, sC0, sCs, i64_w, i32_w];rfl)
         refine one_ (i := 1) (N := some 16) #[true, true, false, false, false, false, false, false, false, false, false, false, false, false, false, false, false, false, false, false, false, false, false, false, false, false, false] rfl rfl (one_of HT_.out (by kernel_rfl)) (by decide) (fun K hK => ?_)
         refine goes_ Try.func34 (by kernel_rfl) rfl #[.agg #[.int .i64 ((rd_T24 l0 x10_1).f0), .int .i64 ((rd_T24 l0 x10_1).f1), .int .i64 ((rd_T24 l0 x10_1).f2), .bool ((rd_T24 l0 x10_1).f3)]] (by rfl) rfl rfl (by (try simp only [List.map_toArray, List.map_cons, List.map_nil]); first | done | rfl | (simp only [List.length_drop, List.length_take]; rfl)) ?_
         with_reducible refine (extent_may.calls ((rd_T24 l0 x10_1).f0) ((rd_T24 l0 x10_1).f1) ((rd_T24 l0 x10_1).f2) ((rd_T24 l0 x10_1).f3) true _ A6.out).mono ?_
         rintro e w40 ⟨rfl, hb⟩
         refine ⟨_, rfl, ?_⟩
         have n0_ := Aside0.mk (blk_below (g := gb112) (o := .cells #[.int .i64 ((rd_T24 l0 x10_1).f0), .int .i64 ((rd_T24 l0 x10_1).f1), .int .i64 ((rd_T24 l0 x10_1).f2), .bool ((rd_T24 l0 x10_1).f3)] 24 (0, 0)) (by (with_reducible repeat (first | refine blk_drewN ?_ _ | refine blk_drew ?_ | refine blk_alloc ?_ _)); exact BK112.out) hb)
         have n1_ := Aside0.mk (below_step (by repeat (first | (with_reducible first | exact HB.out | apply below_alloc | apply pw_below_drewN | apply below_drew1 | refine below_set ?_ GE112.out) | exact HB.out)) hb)
         clear BK112;clear HB;have BK112 := n0_;have HB := n1_;clear n0_ n1_
         (try clear hb)
         (try clear hb2)
         (try clear hk)
         (try clear hi)
         refine hK.out _ _ ⟨(blk_cell BK112.out 0).trans rfl, (blk_cell BK112.out 1).trans rfl, (blk_cell BK112.out 2).trans rfl, (blk_cell BK112.out 3).trans rfl⟩ (fun hHeld => ?_)
         clear hK K;refine norm_ (a' := ?_) ?_ ?_;rotate_left
         ·show Act.put _ (some 16) _ = _
          simp only [Act.put, sIb, sC0, sCs, i64_w, i32_w];rfl
         refine pure_ (i := 2) (N := some 17) (v := ?_) (a' := ?_) #[true, true, true, false, false, false, false, false, false, false, false, false, false, false, false, false, false, false, false, false, false, false, false, false, false, false, false] rfl rfl (any_of HT_.out (by kernel_rfl)) (fun _ _ _ h => h) (Or.inl ⟨by rfl, ?_⟩) ?_ ?_;rotate_left;(intro w';go_simp;with_reducible rfl);rotate_left;(simp only [Act.put, sIb, sC0, sCs, i64_w, i32_w];rfl);refine pure_ (i := 3) (N := some 18) (v := ?_) (a' := ?_) #[true, true, true, true, false, false, false, false, false, false, false, false, false, false, false, false, false, false, false, false, false, false, false, false, false, false, false] rfl rfl (any_of HT_.out (by kernel_rfl)) (fun _ _ _ h => h) (Or.inl ⟨by rfl, ?_⟩) ?_ ?_;rotate_left;(intro w';go_simp;with_reducible rfl);rotate_left;(simp only [Act.put, sIb, sC0, sCs, i64_w, i32_w];rfl);refine pure_ (i := 4) (N := some 19) (v := ?_) (a' := ?_) #[true, true, true, true, true, false, false, false, false, false, false, false, false, false, false, false, false, false, false, false, false, false, false, false, false, false, false] rfl rfl (any_of HT_.out (by kernel_rfl)) (fun _ _ _ h => h) (Or.inl ⟨by rfl, ?_⟩) ?_ ?_;rotate_left;(intro w';go_simp;with_reducible rfl);rotate_left;(simp only [Act.put, sIb, sC0, sCs, i64_w, i32_w];rfl);refine pure_ (i := 5) (N := some 20) (v := ?_) (a' := ?_) #[true, true, true, true, true, true, false, false, false, false, false, false, false, false, false, false, false, false, false, false, false, false, false, false, false, false, false] rfl rfl (any_of HT_.out (by kernel_rfl)) (fun _ _ _ h => h) (Or.inl ⟨by rfl, ?_⟩) ?_ ?_;rotate_left;(intro w';go_simp;with_reducible rfl);rotate_left;(simp only [Act.put, sIb, sC0, sCs, i64_w, i32_w];rfl);refine pure_ (i := 6) (N := some 21) (v := ?_) (a' := ?_) #[true, true, true, true, true, true, true, false, false, false, false, false, false, false, false, false, false, false, false, false, false, false, false, false, false, false, false] rfl rfl (any_of HT_.out (by kernel_rfl)) (fun _ _ _ h => h) (Or.inl ⟨by rfl, ?_⟩) ?_ ?_;rotate_left;(intro w';go_simp;with_reducible rfl);rotate_left;(simp only [Act.put, sIb, sC0, sCs, i64_w, i32_w];rfl);refine pure_ (i := 7) (N := some 22) (v := undef) (a' := ?_) #[true, true, true, true, true, true, true, true, false, false, false, false, false, false, false, false, false, false, false, false, false, false, false, false, false, false, false] rfl rfl (any_of HT_.out (by kernel_rfl)) (fun _ _ _ h => h) (Or.inr ⟨by rfl, rfl⟩) ?_ ?_;rotate_left;(simp only [Act.put, sIb, sC0, sCs, i64_w, i32_w];rfl);refine pure_ (i := 8) (N := some 23) (v := undef) (a' := ?_) #[true, true, true, true, true, true, true, true, true, false, false, false, false, false, false, false, false, false, false, false, false, false, false, false, false, false, false] rfl rfl (any_of HT_.out (by kernel_rfl)) (fun _ _ _ h => h) (Or.inr ⟨by rfl, rfl⟩) ?_ ?_;rotate_left;(simp only [Act.put, sIb, sC0, sCs, i64_w, i32_w];rfl);refine pure_ (i := 9) (N := some 24) (v := undef) (a' := ?_) #[true, true, true, true, true, true, true, true, true, true, false, false, false, false, false, false, false, false, false, false, false, false, false, false, false, false, false] rfl rfl (any_of HT_.out (by kernel_rfl)) (fun _ _ _ h => h) (Or.inr ⟨by rfl, rfl⟩) ?_ ?_;rotate_left;(simp only [Act.put, sIb, sC0, sCs, i64_w, i32_w];rfl);refine pure_ (i := 10) (N := some 25) (v := undef) (a' := ?_) #[true, true, true, true, true, true, true, true, true, true, true, false, false, false, false, false, false, false, false, false, false, false, false, false, false, false, false] rfl rfl (any_of HT_.out (by kernel_rfl)) (fun _ _ _ h => h) (Or.inr ⟨by rfl, rfl⟩) ?_ ?_;rotate_left;(simp only [Act.put, sIb, sC0, sCs, i64_w, i32_w];rfl);refine pure_ (i := 11) (N := some 26) (v := undef) (a' := ?_) #[true, true, true, true, true, true, true, true, true, true, true, true, false, false, false, false, false, false, false, false, false, false, false, false, false, false, false] rfl rfl (any_of HT_.out (by kernel_rfl)) (fun _ _ _ h => h) (Or.inr ⟨by rfl, rfl⟩) ?_ ?_;rotate_left;(simp only [Act.put, sIb, sC0, sCs, i64_w, i32_w];rfl);refine pure_ (i := 12) (N := some 27) (v := undef) (a' := ?_) #[true, true, true, true, true, true, true, true, true, true, true, true, true, false, false, false, false, false, false, false, false, false, false, false, false, false, false] rfl rfl (any_of HT_.out (by kernel_rfl)) (fun _ _ _ h => h) (Or.inr ⟨by rfl, rfl⟩) ?_ ?_;rotate_left;(simp only [Act.put, sIb, sC0, sCs, i64_w, i32_w];rfl);refine pure_ (i := 13) (N := some 28) (v := undef) (a' := ?_) #[true, true, true, true, true, true, true, true, true, true, true, true, true, true, false, false, false, false, false, false, false, false, false, false, false, false, false] rfl rfl (any_of HT_.out (by kernel_rfl)) (fun _ _ _ h => h) (Or.inr ⟨by rfl, rfl⟩) ?_ ?_;rotate_left;(simp only [Act.put, sIb, sC0, sCs, i64_w, i32_w];rfl);refine pure_ (i := 14) (N := some 29) (v := undef) (a' := ?_) #[true, true, true, true, true, true, true, true, true, true, true, true, true, true, true, false, false, false, false, false, false, false, false, false, false, false, false] rfl rfl (any_of HT_.out (by kernel_rfl)) (fun _ _ _ h => h) (Or.inr ⟨by rfl, rfl⟩) ?_ ?_;rotate_left;(simp only [Act.put, sIb, sC0, sCs, i64_w, i32_w];rfl);refine pure_ (i := 15) (N := some 30) (v := undef) (a' := ?_) #[true, true, true, true, true, true, true, true, true, true, true, true, true, true, true, true, false, false, false, false, false, false, false, false, false, false, false] rfl rfl (any_of HT_.out (by kernel_rfl)) (fun _ _ _ h => h) (Or.inr ⟨by rfl, rfl⟩) ?_ ?_;rotate_left;(simp only [Act.put, sIb, sC0, sCs, i64_w, i32_w];rfl);refine pure_ (i := 16) (N := some 31) (v := undef) (a' := ?_) #[true, true, true, true, true, true, true, true, true, true, true, true, true, true, true, true, true, false, false, false, false, false, false, false, false, false, false] rfl rfl (any_of HT_.out (by kernel_rfl)) (fun _ _ _ h => h) (Or.inr ⟨by rfl, rfl⟩) ?_ ?_;rotate_left;(simp only [Act.put, sIb, sC0, sCs, i64_w, i32_w];rfl);refine pure_ (i := 17) (N := some 32) (v := undef) (a' := ?_) #[true, true, true, true, true, true, true, true, true, true, true, true, true, true, true, true, true, true, false, false, false, false, false, false, false, false, false] rfl rfl (any_of HT_.out (by kernel_rfl)) (fun _ _ _ h => h) (Or.inr ⟨by rfl, rfl⟩) ?_ ?_;rotate_left;(simp only [Act.put, sIb, sC0, sCs, i64_w, i32_w];rfl);refine pure_ (i := 18) (N := some 33) (v := undef) (a' := ?_) #[true, true, true, true, true, true, true, true, true, true, true, true, true, true, true, true, true, true, true, false, false, false, false, false, false, false, false] rfl rfl (any_of HT_.out (by kernel_rfl)) (fun _ _ _ h => h) (Or.inr ⟨by rfl, rfl⟩) ?_ ?_;rotate_left;(simp only [Act.put, sIb, sC0, sCs, i64_w, i32_w];rfl);refine pure_ (i := 19) (N := some 34) (v := undef) (a' := ?_) #[true, true, true, true, true, true, true, true, true, true, true, true, true, true, true, true, true, true, true, true, false, false, false, false, false, false, false] rfl rfl (any_of HT_.out (by kernel_rfl)) (fun _ _ _ h => h) (Or.inr ⟨by rfl, rfl⟩) ?_ ?_;rotate_left;(simp only [Act.put, sIb, sC0, sCs, i64_w, i32_w];rfl);refine pure_ (i := 20) (N := some 35) (v := undef) (a' := ?_) #[true, true, true, true, true, true, true, true, true, true, true, true, true, true, true, true, true, true, true, true, true, false, false, false, false, false, false] rfl rfl (any_of HT_.out (by kernel_rfl)) (fun _ _ _ h => h) (Or.inr ⟨by rfl, rfl⟩) ?_ ?_;rotate_left;(simp only [Act.put, sIb, sC0, sCs, i64_w, i32_w];rfl);refine pure_ (i := 21) (N := some 36) (v := undef) (a' := ?_) #[true, true, true, true, true, true, true, true, true, true, true, true, true, true, true, true, true, true, true, true, true, true, false, false, false, false, false] rfl rfl (any_of HT_.out (by kernel_rfl)) (fun _ _ _ h => h) (Or.inr ⟨by rfl, rfl⟩) ?_ ?_;rotate_left;(simp only [Act.put, sIb, sC0, sCs, i64_w, i32_w];rfl);refine pure_ (i := 22) (N := some 37) (v := undef) (a' := ?_) #[true, true, true, true, true, true, true, true, true, true, true, true, true, true, true, true, true, true, true, true, true, true, true, false, false, false, false] rfl rfl (any_of HT_.out (by kernel_rfl)) (fun _ _ _ h => h) (Or.inr ⟨by rfl, rfl⟩) ?_ ?_;rotate_left;(simp only [Act.put, sIb, sC0, sCs, i64_w, i32_w];rfl);refine pure_ (i := 23) (N := some 38) (v := undef) (a' := ?_) #[true, true, true, true, true, true, true, true, true, true, true, true, true, true, true, true, true, true, true, true, true, true, true, true, false, false, false] rfl rfl (any_of HT_.out (by kernel_rfl)) (fun _ _ _ h => h) (Or.inr ⟨by rfl, rfl⟩) ?_ ?_;rotate_left;(simp only [Act.put, sIb, sC0, sCs, i64_w, i32_w];rfl);refine pure_ (i := 24) (N := some 39) (v := undef) (a' := ?_) #[true, true, true, true, true, true, true, true, true, true, true, true, true, true, true, true, true, true, true, true, true, true, true, true, true, false, false] rfl rfl (any_of HT_.out (by kernel_rfl)) (fun _ _ _ h => h) (Or.inr ⟨by rfl, rfl⟩) ?_ ?_;rotate_left;(simp only [Act.put, sIb, sC0, sCs, i64_w, i32_w];rfl);refine pure_ (i := 25) (N := some 40) (v := ?_) (a' := ?_) #[true, true, true, true, true, true, true, true, true, true, true, true, true, true, true, true, true, true, true, true, true, true, true, true, true, true, false] rfl rfl (any_of HT_.out (by kernel_rfl)) (fun _ _ _ h => h) (Or.inl ⟨by rfl, ?_⟩) ?_ ?_;rotate_left;(intro w';go_simp;with_reducible rfl);rotate_left;(simp only [Act.put, sIb, sC0, sCs, i64_w, i32_w];rfl);refine pure_ (i := 26) (N := some 41) (v := ?_) (a' := ?_) #[true, true, true, true, true, true, true, true, true, true, true, true, true, true, true, true, true, true, true, true, true, true, true, true, true, true, true] rfl rfl (any_of HT_.out (by kernel_rfl)) (fun _ _ _ h => h) (Or.inl ⟨by rfl, ?_⟩) ?_ ?_;rotate_left;(intro w';go_simp;with_reducible rfl);rotate_left;(simp only [Act.put, sIb, sC0, sCs, i64_w, i32_w];rfl)
         refine done_ (done_of HT_.out (by kernel_rfl)) ?_
         try go_wp2
         go_roundg k1
         case measure => have := HK1.out; omega
         case rel => exact ⟨(wrap64 (x10_1 + 1)), (by first | rfl | (simp; done) | (simp [*]; done)), H', ⟨by have := HK1.out; omega⟩, ⟨by repeat (first | (with_reducible first | exact HB.out | apply below_alloc | apply pw_below_drewN | apply below_drew1 | refine below_set ?_ GE112.out) | exact HB.out)⟩⟩
       ·replace c7 := Bool.eq_false_iff.mpr c7
        subst c7
        have H1 : (some 1) = some r := by rw [if_neg (show ¬ (false = true) by decide)] at H; exact H
        clear H;have H := H1;clear H1;obtain rfl := Option.some.inj H
        have p111 : 0 ≤ (x10_1 : Int) := of_decide_eq_true (by first | (with_reducible assumption) | assumption)
        have q111 : x10_1 < (l0.length : Int) := of_decide_eq_true (by first | (with_reducible assumption) | assumption)
        obtain ⟨ad111, e111, hx111_0, hx111_1, hx111_2, hx111_3⟩ := at_T24 HR0.out x10_1 p111 q111
        cases e111
        replace hx111_0 := (HB.out.cell (World.block_lt_of_cell? w _ hx111_0)).trans hx111_0
        replace hx111_1 := (HB.out.cell (World.block_lt_of_cell? w _ hx111_1)).trans hx111_1
        replace hx111_2 := (HB.out.cell (World.block_lt_of_cell? w _ hx111_2)).trans hx111_2
        replace hx111_3 := (HB.out.cell (World.block_lt_of_cell? w _ hx111_3)).trans hx111_3
        replace p111 := eq_true p111;replace q111 := eq_true q111
        try go_wp2_with (first | ((with_reducible refine gate_dst (N := 4) rfl ?_); refine box_event ?hg (N := 4) ?hd (cs := #[.int .i64 0, .int .i64 0, .int .i64 0, .bool false]) (t := 24) ?hr ?_; (case hd => rfl); (case hg => rfl); (case hr => first | (go_simp; done) | (go_simp; rfl)); intro gb112 hg w41 hbox hb; have n0_ := Aside0.mk (below_step (by repeat (first | (with_reducible first | exact HB.out | apply below_alloc | apply pw_below_drewN | apply below_drew1) | exact HB.out)) hb); have n1_ := Aside0.mk (hbox); have n2_ := Aside0.mk ((by rw [hg]; exact (below_size (by repeat (first | (with_reducible first | exact HB.out | apply below_alloc | apply pw_below_drewN | apply below_drew1) | exact HB.out))) : w.heap.size ≤ gb112)); have n3_ := Aside0.mk ((by rw [hg]; exact (below_size (by repeat (first | (with_reducible first | exact HB.out | apply below_alloc | apply pw_below_drewN | apply below_drew1) | exact HB.out))) : w.heap.size ≤ gb112)); clear HB; have HB := n0_; have BK112 := n1_; have GW112 := n2_; have GE112 := n3_; clear n0_ n1_ n2_ n3_; clear hb hbox hg; have hcz42_0 : w41.cell? ⟨gb112, 0, none⟩ = some (.int .i64 0) := (blk_cell BK112.out 0).trans rfl; have hcz42_1 : w41.cell? ⟨gb112, 1, none⟩ = some (.int .i64 0) := (blk_cell BK112.out 1).trans rfl; have hcz42_2 : w41.cell? ⟨gb112, 2, none⟩ = some (.int .i64 0) := (blk_cell BK112.out 2).trans rfl; have hcz42_3 : w41.cell? ⟨gb112, 3, none⟩ = some (.bool false) := (blk_cell BK112.out 3).trans rfl; have hfz42_0 := blk_frozen BK112.out 0; have hfz42_1 := blk_frozen BK112.out 1; have hfz42_2 := blk_frozen BK112.out 2; have hfz42_3 := blk_frozen BK112.out 3))
        have n0_ : Aside0 (((((w41.setCell ⟨gb112, 0, none⟩ (.int .i64 ((rd_T24 l0 x10_1).f0))).setCell ⟨gb112, 1, none⟩ (.int .i64 ((rd_T24 l0 x10_1).f1))).setCell ⟨gb112, 2, none⟩ (.int .i64 ((rd_T24 l0 x10_1).f2))).setCell ⟨gb112, 3, none⟩ (.bool ((rd_T24 l0 x10_1).f3))).heap[gb112]? = some (.cells #[.int .i64 ((rd_T24 l0 x10_1).f0), .int .i64 ((rd_T24 l0 x10_1).f1), .int .i64 ((rd_T24 l0 x10_1).f2), .bool ((rd_T24 l0 x10_1).f3)] 24 (0, 0))) := ⟨by (with_reducible repeat (first | refine blk_drewN ?_ _ | refine blk_drew ?_ | refine blk_alloc ?_ _)); refine blk_put (cs := #[.int .i64 ((rd_T24 l0 x10_1).f0), .int .i64 ((rd_T24 l0 x10_1).f1), .int .i64 ((rd_T24 l0 x10_1).f2), .bool false]) ?_ 3 _ rfl; (with_reducible repeat (first | refine blk_drewN ?_ _ | refine blk_drew ?_ | refine blk_alloc ?_ _)); refine blk_put (cs := #[.int .i64 ((rd_T24 l0 x10_1).f0), .int .i64 ((rd_T24 l0 x10_1).f1), .int .i64 0, .bool false]) ?_ 2 _ rfl; (with_reducible repeat (first | refine blk_drewN ?_ _ | refine blk_drew ?_ | refine blk_alloc ?_ _)); refine blk_put (cs := #[.int .i64 ((rd_T24 l0 x10_1).f0), .int .i64 0, .int .i64 0, .bool false]) ?_ 1 _ rfl; (with_reducible repeat (first | refine blk_drewN ?_ _ | refine blk_drew ?_ | refine blk_alloc ?_ _)); refine blk_put (cs := #[.int .i64 0, .int .i64 0, .int .i64 0, .bool false]) ?_ 0 _ rfl; (with_reducible repeat (first | refine blk_drewN ?_ _ | refine blk_drew ?_ | refine blk_alloc ?_ _)); exact BK112.out⟩
        have n1_ : Aside0 (Below w.heap.size w ((((w41.setCell ⟨gb112, 0, none⟩ (.int .i64 ((rd_T24 l0 x10_1).f0))).setCell ⟨gb112, 1, none⟩ (.int .i64 ((rd_T24 l0 x10_1).f1))).setCell ⟨gb112, 2, none⟩ (.int .i64 ((rd_T24 l0 x10_1).f2))).setCell ⟨gb112, 3, none⟩ (.bool ((rd_T24 l0 x10_1).f3)))) := ⟨by repeat (first | (with_reducible first | exact HB.out | apply below_alloc | apply pw_below_drewN | apply below_drew1 | refine below_set ?_ GE112.out) | exact HB.out)⟩
        (try clear BK112)
        (try clear HB)
        generalize ((((w41.setCell ⟨gb112, 0, none⟩ (.int .i64 ((rd_T24 l0 x10_1).f0))).setCell ⟨gb112, 1, none⟩ (.int .i64 ((rd_T24 l0 x10_1).f1))).setCell ⟨gb112, 2, none⟩ (.int .i64 ((rd_T24 l0 x10_1).f2))).setCell ⟨gb112, 3, none⟩ (.bool ((rd_T24 l0 x10_1).f3))) = w43 at n0_ n1_ ⊢
        have BK112 := n0_;have HB := n1_;clear n0_ n1_
        have n0_ := Aside0.mk (blk_drew BK112.out)
        have n1_ := Aside0.mk (below_drew1 HB.out)
        clear BK112;clear HB;have BK112 := n0_;have HB := n1_;clear n0_ n1_
        refine start_ (n := 27) (S := fun w' => w'.cell? ⟨gb112, 0, none⟩ = some (.int .i64 ((rd_T24 l0 x10_1).f0)) ∧ w'.cell? ⟨gb112, 1, none⟩ = some (.int .i64 ((rd_T24 l0 x10_1).f1)) ∧ w'.cell? ⟨gb112, 2, none⟩ = some (.int .i64 ((rd_T24 l0 x10_1).f2)) ∧ w'.cell? ⟨gb112, 3, none⟩ = some (.bool ((rd_T24 l0 x10_1).f3))) (ds := []) #[false, false, false, false, false, false, false, false, false, false, false, false, false, false, false, false, false, false, false, false, false, false, false, false, false, false, false] (by kernel_rfl) rfl rfl ⟨(blk_cell BK112.out 0).trans rfl, (blk_cell BK112.out 1).trans rfl, (blk_cell BK112.out 2).trans rfl, (blk_cell BK112.out 3).trans rfl⟩ (fun hHeld => ?_); refine with_tabW extent_Check.tab6 extent_Check.bits6 (fun HT_ HW_ => ?_)
        generalize w43.drew = w44 at BK112 HB hHeld ⊢
        refine take_ (i := 0) (N := some 15) (v := ?_) (a' := ?_) #[true, false, false, false, false, false, false, false, false, false, false, false, false, false, false, false, false, false, false, false, false, false, false, false, false, false, false] rfl rfl (take_ofW HT_.out HW_.out (by kernel_rfl)) (fun _ _ _ h => h) (Or.inl ⟨by rfl, ?_⟩) hHeld ?_ ?_;rotate_left
        ·rintro w' ⟨s0, s1, s2, s3⟩
         go_simp;with_reducible rfl
        rotate_left;(simp only [Act.put, sIb, sC0, sCs, i64_w, i32_w];rfl)
        refine one_ (i := 1) (N := some 16) #[true, true, false, false, false, false, false, false, false, false, false, false, false, false, false, false, false, false, false, false, false, false, false, false, false, false, false] rfl rfl (one_of HT_.out (by kernel_rfl)) (by decide) (fun K hK => ?_)
        refine goes_ Try.func34 (by kernel_rfl) rfl #[.agg #[.int .i64 ((rd_T24 l0 x10_1).f0), .int .i64 ((rd_T24 l0 x10_1).f1), .int .i64 ((rd_T24 l0 x10_1).f2), .bool ((rd_T24 l0 x10_1).f3)]] (by rfl) rfl rfl (by (try simp only [List.map_toArray, List.map_cons, List.map_nil]); first | done | rfl | (simp only [List.length_drop, List.length_take]; rfl)) ?_
        with_reducible refine (extent_may.calls ((rd_T24 l0 x10_1).f0) ((rd_T24 l0 x10_1).f1) ((rd_T24 l0 x10_1).f2) ((rd_T24 l0 x10_1).f3) false _ A6.out).mono ?_
        rintro e w45 ⟨rfl, hb⟩
        refine ⟨_, rfl, ?_⟩
        have n0_ := Aside0.mk (blk_below (g := gb112) (o := .cells #[.int .i64 ((rd_T24 l0 x10_1).f0), .int .i64 ((rd_T24 l0 x10_1).f1), .int .i64 ((rd_T24 l0 x10_1).f2), .bool ((rd_T24 l0 x10_1).f3)] 24 (0, 0)) (by (with_reducible repeat (first | refine blk_drewN ?_ _ | refine blk_drew ?_ | refine blk_alloc ?_ _)); exact BK112.out) hb)
        have n1_ := Aside0.mk (below_step (by repeat (first | (with_reducible first | exact HB.out | apply below_alloc | apply pw_below_drewN | apply below_drew1 | refine below_set ?_ GE112.out) | exact HB.out)) hb)
        clear BK112;clear HB;have BK112 := n0_;have HB := n1_;clear n0_ n1_
        (try clear hb)
        (try clear hb2)
        (try clear hk)
        (try clear hi)
        refine hK.out _ _ ⟨(blk_cell BK112.out 0).trans rfl, (blk_cell BK112.out 1).trans rfl, (blk_cell BK112.out 2).trans rfl, (blk_cell BK112.out 3).trans rfl⟩ (fun hHeld => ?_)
        clear hK K;refine norm_ (a' := ?_) ?_ ?_;rotate_left
        ·show Act.put _ (some 16) _ = _
         simp only [Act.put, sIb, sC0, sCs, i64_w, i32_w];rfl
        refine pure_ (i := 2) (N := some 17) (v := ?_) (a' := ?_) #[true, true, true, false, false, false, false, false, false, false, false, false, false, false, false, false, false, false, false, false, false, false, false, false, false, false, false] rfl rfl (any_of HT_.out (by kernel_rfl)) (fun _ _ _ h => h) (Or.inl ⟨by rfl, ?_⟩) ?_ ?_;rotate_left;(intro w';go_simp;with_reducible rfl);rotate_left;(simp only [Act.put, sIb, sC0, sCs, i64_w, i32_w];rfl);refine pure_ (i := 3) (N := some 18) (v := ?_) (a' := ?_) #[true, true, true, true, false, false, false, false, false, false, false, false, false, false, false, false, false, false, false, false, false, false, false, false, false, false, false] rfl rfl (any_of HT_.out (by kernel_rfl)) (fun _ _ _ h => h) (Or.inl ⟨by rfl, ?_⟩) ?_ ?_;rotate_left;(intro w';go_simp;with_reducible rfl);rotate_left;(simp only [Act.put, sIb, sC0, sCs, i64_w, i32_w];rfl);refine pure_ (i := 4) (N := some 19) (v := undef) (a' := ?_) #[true, true, true, true, true, false, false, false, false, false, false, false, false, false, false, false, false, false, false, false, false, false, false, false, false, false, false] rfl rfl (any_of HT_.out (by kernel_rfl)) (fun _ _ _ h => h) (Or.inr ⟨by rfl, rfl⟩) ?_ ?_;rotate_left;(simp only [Act.put, sIb, sC0, sCs, i64_w, i32_w];rfl);refine pure_ (i := 5) (N := some 20) (v := undef) (a' := ?_) #[true, true, true, true, true, true, false, false, false, false, false, false, false, false, false, false, false, false, false, false, false, false, false, false, false, false, false] rfl rfl (any_of HT_.out (by kernel_rfl)) (fun _ _ _ h => h) (Or.inr ⟨by rfl, rfl⟩) ?_ ?_;rotate_left;(simp only [Act.put, sIb, sC0, sCs, i64_w, i32_w];rfl);refine pure_ (i := 6) (N := some 21) (v := undef) (a' := ?_) #[true, true, true, true, true, true, true, false, false, false, false, false, false, false, false, false, false, false, false, false, false, false, false, false, false, false, false] rfl rfl (any_of HT_.out (by kernel_rfl)) (fun _ _ _ h => h) (Or.inr ⟨by rfl, rfl⟩) ?_ ?_;rotate_left;(simp only [Act.put, sIb, sC0, sCs, i64_w, i32_w];rfl);refine pure_ (i := 7) (N := some 22) (v := undef) (a' := ?_) #[true, true, true, true, true, true, true, true, false, false, false, false, false, false, false, false, false, false, false, false, false, false, false, false, false, false, false] rfl rfl (any_of HT_.out (by kernel_rfl)) (fun _ _ _ h => h) (Or.inr ⟨by rfl, rfl⟩) ?_ ?_;rotate_left;(simp only [Act.put, sIb, sC0, sCs, i64_w, i32_w];rfl);refine pure_ (i := 8) (N := some 23) (v := undef) (a' := ?_) #[true, true, true, true, true, true, true, true, true, false, false, false, false, false, false, false, false, false, false, false, false, false, false, false, false, false, false] rfl rfl (any_of HT_.out (by kernel_rfl)) (fun _ _ _ h => h) (Or.inr ⟨by rfl, rfl⟩) ?_ ?_;rotate_left;(simp only [Act.put, sIb, sC0, sCs, i64_w, i32_w];rfl);refine pure_ (i := 9) (N := some 24) (v := undef) (a' := ?_) #[true, true, true, true, true, true, true, true, true, true, false, false, false, false, false, false, false, false, false, false, false, false, false, false, false, false, false] rfl rfl (any_of HT_.out (by kernel_rfl)) (fun _ _ _ h => h) (Or.inr ⟨by rfl, rfl⟩) ?_ ?_;rotate_left;(simp only [Act.put, sIb, sC0, sCs, i64_w, i32_w];rfl);refine pure_ (i := 10) (N := some 25) (v := undef) (a' := ?_) #[true, true, true, true, true, true, true, true, true, true, true, false, false, false, false, false, false, false, false, false, false, false, false, false, false, false, false] rfl rfl (any_of HT_.out (by kernel_rfl)) (fun _ _ _ h => h) (Or.inr ⟨by rfl, rfl⟩) ?_ ?_;rotate_left;(simp only [Act.put, sIb, sC0, sCs, i64_w, i32_w];rfl);refine pure_ (i := 11) (N := some 26) (v := undef) (a' := ?_) #[true, true, true, true, true, true, true, true, true, true, true, true, false, false, false, false, false, false, false, false, false, false, false, false, false, false, false] rfl rfl (any_of HT_.out (by kernel_rfl)) (fun _ _ _ h => h) (Or.inr ⟨by rfl, rfl⟩) ?_ ?_;rotate_left;(simp only [Act.put, sIb, sC0, sCs, i64_w, i32_w];rfl);refine pure_ (i := 12) (N := some 27) (v := undef) (a' := ?_) #[true, true, true, true, true, true, true, true, true, true, true, true, true, false, false, false, false, false, false, false, false, false, false, false, false, false, false] rfl rfl (any_of HT_.out (by kernel_rfl)) (fun _ _ _ h => h) (Or.inr ⟨by rfl, rfl⟩) ?_ ?_;rotate_left;(simp only [Act.put, sIb, sC0, sCs, i64_w, i32_w];rfl);refine pure_ (i := 13) (N := some 28) (v := undef) (a' := ?_) #[true, true, true, true, true, true, true, true, true, true, true, true, true, true, false, false, false, false, false, false, false, false, false, false, false, false, false] rfl rfl (any_of HT_.out (by kernel_rfl)) (fun _ _ _ h => h) (Or.inr ⟨by rfl, rfl⟩) ?_ ?_;rotate_left;(simp only [Act.put, sIb, sC0, sCs, i64_w, i32_w];rfl);refine pure_ (i := 14) (N := some 29) (v := undef) (a' := ?_) #[true, true, true, true, true, true, true, true, true, true, true, true, true, true, true, false, false, false, false, false, false, false, false, false, false, false, false] rfl rfl (any_of HT_.out (by kernel_rfl)) (fun _ _ _ h => h) (Or.inr ⟨by rfl, rfl⟩) ?_ ?_;rotate_left;(simp only [Act.put, sIb, sC0, sCs, i64_w, i32_w];rfl);refine pure_ (i := 15) (N := some 30) (v := undef) (a' := ?_) #[true, true, true, true, true, true, true, true, true, true, true, true, true, true, true, true, false, false, false, false, false, false, false, false, false, false, false] rfl rfl (any_of HT_.out (by kernel_rfl)) (fun _ _ _ h => h) (Or.inr ⟨by rfl, rfl⟩) ?_ ?_;rotate_left;(simp only [Act.put, sIb, sC0, sCs, i64_w, i32_w];rfl);refine pure_ (i := 16) (N := some 31) (v := undef) (a' := ?_) #[true, true, true, true, true, true, true, true, true, true, true, true, true, true, true, true, true, false, false, false, false, false, false, false, false, false, false] rfl rfl (any_of HT_.out (by kernel_rfl)) (fun _ _ _ h => h) (Or.inr ⟨by rfl, rfl⟩) ?_ ?_;rotate_left;(simp only [Act.put, sIb, sC0, sCs, i64_w, i32_w];rfl);refine pure_ (i := 17) (N := some 32) (v := undef) (a' := ?_) #[true, true, true, true, true, true, true, true, true, true, true, true, true, true, true, true, true, true, false, false, false, false, false, false, false, false, false] rfl rfl (any_of HT_.out (by kernel_rfl)) (fun _ _ _ h => h) (Or.inr ⟨by rfl, rfl⟩) ?_ ?_;rotate_left;(simp only [Act.put, sIb, sC0, sCs, i64_w, i32_w];rfl);refine pure_ (i := 18) (N := some 33) (v := undef) (a' := ?_) #[true, true, true, true, true, true, true, true, true, true, true, true, true, true, true, true, true, true, true, false, false, false, false, false, false, false, false] rfl rfl (any_of HT_.out (by kernel_rfl)) (fun _ _ _ h => h) (Or.inr ⟨by rfl, rfl⟩) ?_ ?_;rotate_left;(simp only [Act.put, sIb, sC0, sCs, i64_w, i32_w];rfl);refine pure_ (i := 19) (N := some 34) (v := undef) (a' := ?_) #[true, true, true, true, true, true, true, true, true, true, true, true, true, true, true, true, true, true, true, true, false, false, false, false, false, false, false] rfl rfl (any_of HT_.out (by kernel_rfl)) (fun _ _ _ h => h) (Or.inr ⟨by rfl, rfl⟩) ?_ ?_;rotate_left;(simp only [Act.put, sIb, sC0, sCs, i64_w, i32_w];rfl);refine pure_ (i := 20) (N := some 35) (v := undef) (a' := ?_) #[true, true, true, true, true, true, true, true, true, true, true, true, true, true, true, true, true, true, true, true, true, false, false, false, false, false, false] rfl rfl (any_of HT_.out (by kernel_rfl)) (fun _ _ _ h => h) (Or.inr ⟨by rfl, rfl⟩) ?_ ?_;rotate_left;(simp only [Act.put, sIb, sC0, sCs, i64_w, i32_w];rfl);refine pure_ (i := 21) (N := some 36) (v := undef) (a' := ?_) #[true, true, true, true, true, true, true, true, true, true, true, true, true, true, true, true, true, true, true, true, true, true, false, false, false, false, false] rfl rfl (any_of HT_.out (by kernel_rfl)) (fun _ _ _ h => h) (Or.inr ⟨by rfl, rfl⟩) ?_ ?_;rotate_left;(simp only [Act.put, sIb, sC0, sCs, i64_w, i32_w];rfl);refine pure_ (i := 22) (N := some 37) (v := undef) (a' := ?_) #[true, true, true, true, true, true, true, true, true, true, true, true, true, true, true, true, true, true, true, true, true, true, true, false, false, false, false] rfl rfl (any_of HT_.out (by kernel_rfl)) (fun _ _ _ h => h) (Or.inr ⟨by rfl, rfl⟩) ?_ ?_;rotate_left;(simp only [Act.put, sIb, sC0, sCs, i64_w, i32_w];rfl);refine pure_ (i := 23) (N := some 38) (v := undef) (a' := ?_) #[true, true, true, true, true, true, true, true, true, true, true, true, true, true, true, true, true, true, true, true, true, true, true, true, false, false, false] rfl rfl (any_of HT_.out (by kernel_rfl)) (fun _ _ _ h => h) (Or.inr ⟨by rfl, rfl⟩) ?_ ?_;rotate_left;(simp only [Act.put, sIb, sC0, sCs, i64_w, i32_w];rfl);refine pure_ (i := 24) (N := some 39) (v := undef) (a' := ?_) #[true, true, true, true, true, true, true, true, true, true, true, true, true, true, true, true, true, true, true, true, true, true, true, true, true, false, false] rfl rfl (any_of HT_.out (by kernel_rfl)) (fun _ _ _ h => h) (Or.inr ⟨by rfl, rfl⟩) ?_ ?_;rotate_left;(simp only [Act.put, sIb, sC0, sCs, i64_w, i32_w];rfl);refine pure_ (i := 25) (N := some 40) (v := undef) (a' := ?_) #[true, true, true, true, true, true, true, true, true, true, true, true, true, true, true, true, true, true, true, true, true, true, true, true, true, true, false] rfl rfl (any_of HT_.out (by kernel_rfl)) (fun _ _ _ h => h) (Or.inr ⟨by rfl, rfl⟩) ?_ ?_;rotate_left;(simp only [Act.put, sIb, sC0, sCs, i64_w, i32_w];rfl);refine pure_ (i := 26) (N := some 41) (v := ?_) (a' := ?_) #[true, true, true, true, true, true, true, true, true, true, true, true, true, true, true, true, true, true, true, true, true, true, true, true, true, true, true] rfl rfl (any_of HT_.out (by kernel_rfl)) (fun _ _ _ h => h) (Or.inl ⟨by rfl, ?_⟩) ?_ ?_;rotate_left;(intro w';go_simp;with_reducible rfl);rotate_left;(simp only [Act.put, sIb, sC0, sCs, i64_w, i32_w];rfl)
        refine done_ (done_of HT_.out (by kernel_rfl)) ?_
        try go_wp2
        go_ret
        exact ⟨by first | rfl | (simp [errW_none, errW_some] <;> rfl) | (simp [*, errW_none, errW_some] <;> rfl), by repeat (first | (with_reducible first | exact HB.out | apply below_alloc | apply pw_below_drewN | apply below_drew1 | refine below_set ?_ GE112.out) | exact HB.out)⟩
      ·rw [if_neg c5] at H
       exact absurd H (by simp)
     ·rw [if_neg c4] at H
      exact absurd H (by simp)
    ·rw [if_neg c3] at H
     have c3b0 : decide (x10_1 < (l0.length : Int)) = false := decide_eq_false c3
     clear c3
     replace H := Option.bind_eq_some_iff.mp H
     obtain ⟨t110, A460, H⟩ := H
     replace H : (if t110 = true then (some 0) else (some 1)) = some r := H
     have A46 := Aside0.mk A460
     clear A460
     by_cases c47 : t110 = true
     ·subst c47
      have H1 : (some 0) = some r := by rw [if_pos rfl] at H; exact H
      clear H;have H := H1;clear H1;obtain rfl := Option.some.inj H
      go_wp2_with (first | ((with_reducible refine gate_callee (f := 37) rfl ?_); refine goesL_ (some 44) rfl rfl Try.func37 (by kernel_rfl) rfl #[.slice A0 l0.length c0] rfl (by (try simp only [List.map_toArray, List.map_cons, List.map_nil]); first | done | rfl | (simp only [List.length_drop, List.length_take]; rfl)) ?_; (with_reducible refine (extent_apart.calls _ _ l0 true _ ?side1 ?side2 A46.out).mono ?_); (case side1 => repeat (first | exact (Kd.C_below HR0.out HB.out) | (with_reducible refine Kd.C_alloc ?_ _) | (with_reducible refine Kd.C_drewN ?_ _) | (with_reducible refine Kd.C_drew ?_))); (case side2 => exact HC0.out); rintro e w48 ⟨rfl, hb⟩; refine ⟨_, rfl, ?_⟩; have n0_ := Aside0.mk (below_step (by repeat (first | (with_reducible first | exact HB.out | apply below_alloc | apply pw_below_drewN | apply below_drew1) | exact HB.out)) hb); clear HB; have HB := n0_; clear n0_; (try clear hb); (try clear hb2); (try clear hk); (try clear hi)))
      go_ret
      exact ⟨by first | rfl | (simp [errW_none, errW_some] <;> rfl) | (simp [*, errW_none, errW_some] <;> rfl), by repeat (first | (with_reducible first | exact HB.out | apply below_alloc | apply pw_below_drewN | apply below_drew1) | exact HB.out)⟩
     ·replace c47 := Bool.eq_false_iff.mpr c47
      subst c47
      have H1 : (some 1) = some r := by rw [if_neg (show ¬ (false = true) by decide)] at H; exact H
      clear H;have H := H1;clear H1;obtain rfl := Option.some.inj H
      go_wp2_with (first | ((with_reducible refine gate_callee (f := 37) rfl ?_); refine goesL_ (some 44) rfl rfl Try.func37 (by kernel_rfl) rfl #[.slice A0 l0.length c0] rfl (by (try simp only [List.map_toArray, List.map_cons, List.map_nil]); first | done | rfl | (simp only [List.length_drop, List.length_take]; rfl)) ?_; (with_reducible refine (extent_apart.calls _ _ l0 false _ ?side1 ?side2 A46.out).mono ?_); (case side1 => repeat (first | exact (Kd.C_below HR0.out HB.out) | (with_reducible refine Kd.C_alloc ?_ _) | (with_reducible refine Kd.C_drewN ?_ _) | (with_reducible refine Kd.C_drew ?_))); (case side2 => exact HC0.out); rintro e w49 ⟨rfl, hb⟩; refine ⟨_, rfl, ?_⟩; have n0_ := Aside0.mk (below_step (by repeat (first | (with_reducible first | exact HB.out | apply below_alloc | apply pw_below_drewN | apply below_drew1) | exact HB.out)) hb); clear HB; have HB := n0_; clear n0_; (try clear hb); (try clear hb2); (try clear hk); (try clear hi)))
      go_ret
      exact ⟨by first | rfl | (simp [errW_none, errW_some] <;> rfl) | (simp [*, errW_none, errW_some] <;> rfl), by repeat (first | (with_reducible first | exact HB.out | apply below_alloc | apply pw_below_drewN | apply below_drew1) | exact HB.out)⟩
end Go.Proofs.Ytopmjjnkolfciaa.Pr
end
section
namespace Go.Proofs.Ytopmjjnkolfciaa.Pr
open Go.RowKit Go.Proofs.YtopmjjnkolfciaaW.PrintWords Go.Proofs.YtopmjjnkolfciaaW.PrintLast Go.Proofs.YtopmjjnkolfciaaW.PrintMore
attribute [local go_sem] max2_int min2_int max_two min_two max_three min_three max_four min_four
attribute [local go_sem] Go.Proofs.Ytopmjjnkolfciaa.Hl.str_geq Go.Proofs.Ytopmjjnkolfciaa.Hl.str_gtr Go.Proofs.Ytopmjjnkolfciaa.Hl.str_leq
set_option linter.unusedVariables false
set_option linter.unusedSimpArgs false
def bse : Nat → List S24 → Int → Nat → Nat → Option Nat
 | 0, _, _, _, _ => none
 | k + 1, l, s, i, j => if i < j then (if (rd_T24 l (((i + j) / 2 : Nat) : Int)).f0 + (rd_T24 l (((i + j) / 2 : Nat) : Int)).f2 ≤ s then bse k l s ((i + j) / 2 + 1) j else bse k l s i ((i + j) / 2)) else some i
theorem bse_some (l : List S24) (s : Int) : ∀ (k i j : Nat), j - i < k → ∃ r, bse k l s i j = some r
 | 0, i, j, h => absurd h (Nat.not_lt_zero _)
 | k + 1, i, j, h => by
  unfold bse
  by_cases c : i < j
  ·rw [if_pos c]
   split
   ·exact bse_some l s k _ _ (by omega)
   ·exact bse_some l s k _ _ (by omega)
  ·rw [if_neg c]; exact ⟨i, rfl⟩
theorem bse_behind {l : List S24} (hr : riseL l) (hall : ∀ e ∈ l, mayE e = true) (s : Int) : ∀ (k i j r : Nat), bse k l s i j = some r → i ≤ behindN l s → behindN l s ≤ j → j ≤ l.length → r = behindN l s
 | 0, i, j, r, h, _, _, _ => by cases h
 | k + 1, i, j, r, h, h1, h2, h3 => by
  unfold bse at h
  by_cases c : i < j
  ·rw [if_pos c] at h
   have hm : (i + j) / 2 < l.length := by omega
   obtain ⟨m, hm'⟩ : ∃ m, (i + j) / 2 = m := ⟨_, rfl⟩
   rw [hm'] at h hm
   rw [rd_in hm] at h
   have key : (l[m].f0 + l[m].f2 ≤ s) ↔ m < behindN l s := by
    constructor
    ·intro hle
     by_cases hb : m < behindN l s
     ·exact hb
     ·exact absurd hle (behind_drop l s hr (fun e he => by have := mayE_facts (hall e he); omega) l[m] (List.mem_drop_iff_getElem.2 ⟨m - behindN l s, by omega, by congr 1; omega⟩))
    ·intro hb
     exact behind_take l s l[m] (List.mem_take_iff_getElem.2 ⟨m, by omega, rfl⟩)
   by_cases hle : l[m].f0 + l[m].f2 ≤ s
   ·rw [if_pos hle] at h
    exact bse_behind hr hall s k _ _ r h (by have := key.1 hle; omega) h2 h3
   ·rw [if_neg hle] at h
    exact bse_behind hr hall s k _ _ r h h1 (by have := mt key.2 hle; omega) (by omega)
  ·rw [if_neg c] at h
   injection h with h
   omega
set_option maxHeartbeats 8000000 in
set_option maxRecDepth 100000 in
theorem behind_cmp (e : S24) (s t : Int) (W : World) (ht : wrap64 (e.f0 + e.f2) = t) :
  Calls Try.prog 69 #[.agg #[.int .i64 e.f0, .int .i64 e.f1, .int .i64 e.f2, .bool e.f3], .int .i64 s] W fun r w' => r = .returned (.int .i64 (if t ≤ s then -1 else 1)) ∧ Below W.heap.size W w' := by
 have hu24 := Try.underlying24
 have HE := Aside0.mk (show extent_end.f e.f0 e.f1 e.f2 e.f3 = some t by unfold extent_end.f; rw [ht])
 have HB0 := Aside0.mk ((Below.refl W.heap.size W).alloc (Nat.le_refl _) (.cells #[.int .i64 e.f0, .int .i64 e.f1, .int .i64 e.f2, .bool e.f3] 24))
 clear ht
 by_cases c : t ≤ s
 ·have cb : decide (t ≤ s) = true := decide_eq_true c
  rw [if_pos c]
  clear c
  go_enter Try.func69, Try.ntmps69
  go_wp2_with (go_at_call 35; refine (extent_end.calls e.f0 e.f1 e.f2 e.f3 t _ HE.out).mono ?_; rintro r w2 ⟨rfl, hb2⟩; have HB2 := Aside0.mk (HB0.out.trans (hb2.mono HB0.out.size)); clear hb2)
  go_ret
  exact ⟨rfl, HB2.out⟩
 ·have cb : decide (t ≤ s) = false := decide_eq_false c
  rw [if_neg c]
  clear c
  go_enter Try.func69, Try.ntmps69
  go_wp2_with (go_at_call 35; refine (extent_end.calls e.f0 e.f1 e.f2 e.f3 t _ HE.out).mono ?_; rintro r w2 ⟨rfl, hb2⟩; have HB2 := Aside0.mk (HB0.out.trans (hb2.mono HB0.out.size)); clear hb2)
  go_ret
  exact ⟨rfl, HB2.out⟩
set_option maxHeartbeats 8000000 in
set_option maxRecDepth 100000 in
theorem bs_calls (k : Nat) (A0 : Option Addr) (c0 : Nat) (l : List S24) (s : Int) (r : Nat) (w : World) (hr0 : Kd.C k24 w A0 l.length l) (hc0 : l.length ≤ c0) (hl : l.length ≤ 60) (hall : ∀ e ∈ l, mayE e = true) (h : bse k l s 0 l.length = some r) :
  Calls Try.prog 68 #[.slice A0 l.length c0, .int .i64 s, .func (.func 69) #[] #[]] w fun e w' => ∃ b, e = .returned (.tuple #[.int .i64 (r : Int), .bool b]) ∧ Below w.heap.size w w' := by
 have HR0 := Aside0.mk hr0
 have HC0 := Aside0.mk hc0
 have HL := Aside0.mk hl
 have HM := Aside0.mk hall
 have HH := Aside0.mk h
 have hi24 := info24
 have hu24 := Try.underlying24
 clear hr0 hc0 hl h hall
 go_enter Try.func68, Try.ntmps68
 go_wp2
 go_loopg [9, 10] k (fun kq v9 v10 w' => ∃ (i j : Nat), v9 = .int .i64 (i : Int) ∧ v10 = .int .i64 (j : Int) ∧ Aside0 (bse kq l s i j = some r) ∧ Aside0 (kq ≤ k ∧ j ≤ l.length ∧ i ≤ l.length) ∧ Aside0 (Below w.heap.size w w'))
 case atStart => exact ⟨0, l.length, rfl, rfl, HH, ⟨Nat.le_refl _, Nat.le_refl _, Nat.zero_le _⟩, ⟨Below.refl _ _⟩⟩
 case round =>
  obtain ⟨i, j, rfl, rfl, HQ, HK, HB⟩ := hrel
  cases gk with
  | zero => exact absurd HQ.out (by intro h_; cases h_)
  | succ g =>
   have hl := HQ.out
   clear HQ
   simp only [bse] at hl
   by_cases hij : i < j
   ·rw [if_pos hij] at hl
    have hijb : decide (i < j) = true := decide_eq_true hij
    obtain ⟨m, hm⟩ : ∃ m, (i + j) / 2 = m := ⟨_, rfl⟩
    rw [hm] at hl
    have hml : m < l.length := by have := HK.out; omega
    have hmi : ((i : Int) + (j : Int)) / 2 = (m : Int) := by omega
    have HIJ := Aside0.mk (show i ≤ m ∧ m < j by omega)
    have hw1 : wrap64 ((i : Int) + (j : Int)) = (i : Int) + (j : Int) := by have := HL.out; have := HK.out; unfold wrap64; omega
    have hw2 : IntKind.u64.wrap ((i : Int) + (j : Int)) = (i : Int) + (j : Int) := by have := HL.out; have := HK.out; simp [IntKind.wrap, IntKind.signed, IntKind.bits]; omega
    have hw3 : wrap64 (m : Int) = (m : Int) := by have := HL.out; unfold wrap64; omega
    have hw4 : wrap64 ((m : Int) + 1) = ((m + 1 : Nat) : Int) := by have := HL.out; unfold wrap64; omega
    have hdv : ((i : Int) + (j : Int)) / 2 ^ (1 : Int).toNat = (m : Int) := hmi
    have hm0 : (0 : Int) ≤ (m : Int) := by omega
    have hml1 : (m : Int) < (l.length : Int) := by omega
    obtain ⟨ad, ead, hca, hcb, hcc, hcd⟩ := at_T24 HR0.out (m : Int) hm0 hml1
    cases ead
    simp only [Int.toNat_natCast] at hca hcb hcc hcd
    replace hca := (HB.out.cell (World.block_lt_of_cell? w _ hca)).trans hca
    replace hcb := (HB.out.cell (World.block_lt_of_cell? w _ hcb)).trans hcb
    replace hcc := (HB.out.cell (World.block_lt_of_cell? w _ hcc)).trans hcc
    replace hcd := (HB.out.cell (World.block_lt_of_cell? w _ hcd)).trans hcd
    have hmay : mayE (rd_T24 l (m : Int)) = true := by rw [rd_in hml]; exact HM.out _ (List.getElem_mem hml)
    obtain ⟨e, he⟩ : ∃ e, e = rd_T24 l (m : Int) := ⟨_, rfl⟩
    rw [← he] at hca hcb hcc hcd hmay hl
    obtain ⟨t, ht⟩ : ∃ t, e.f0 + e.f2 = t := ⟨_, rfl⟩
    rw [ht] at hl
    have HT := Aside0.mk (show wrap64 (e.f0 + e.f2) = t by have := mayE_facts hmay; rw [ht]; unfold wrap64; omega)
    have hmb : decide (m < l.length) = true := decide_eq_true hml
    clear he ht hmay hm hml hij
    by_cases hlt : t ≤ s
    ·rw [if_pos hlt] at hl
     have HLL := Aside0.mk hl
     have hv : (if t ≤ s then (-1 : Int) else 1) = -1 := if_pos hlt
     have HV := Aside0.mk hv
     clear hl hlt hv
     go_wp2_with (go_at_call 69; refine (behind_cmp e s t _ HT.out).mono ?_; rintro r2 w2 ⟨rfl, hb2⟩; rw [HV.out]; have HB2 := Aside0.mk (HB.out.trans (hb2.mono HB.out.size)); clear hb2)
     go_roundg g
     case measure => have := HK.out; omega
     case rel => exact ⟨m + 1, j, by first | (rw [hw4]; done) | (simp; done), rfl, HLL, ⟨by have := HK.out; omega, HK.out.2.1, by have := HK.out; have := HIJ.out; omega⟩, HB2⟩
    ·rw [if_neg hlt] at hl
     have HLL := Aside0.mk hl
     have hv : (if t ≤ s then (-1 : Int) else 1) = 1 := if_neg hlt
     have HV := Aside0.mk hv
     clear hl hlt hv
     go_wp2_with (go_at_call 69; refine (behind_cmp e s t _ HT.out).mono ?_; rintro r2 w2 ⟨rfl, hb2⟩; rw [HV.out]; have HB2 := Aside0.mk (HB.out.trans (hb2.mono HB.out.size)); clear hb2)
     go_roundg g
     case measure => have := HK.out; omega
     case rel => exact ⟨i, m, rfl, rfl, HLL, ⟨by have := HK.out; omega, by have := HK.out; have := HIJ.out; omega, HK.out.2.2⟩, HB2⟩
   ·rw [if_neg hij] at hl
    have hijb : decide (i < j) = false := decide_eq_false hij
    obtain rfl := Option.some.inj hl
    clear hl hij
    have hw3 : wrap64 (i : Int) = (i : Int) := by have := HL.out; have := HK.out; unfold wrap64; omega
    by_cases hil : i < l.length
    ·have hilb : decide (i < l.length) = true := decide_eq_true hil
     have hi0 : (0 : Int) ≤ (i : Int) := by omega
     have hi1 : (i : Int) < (l.length : Int) := by omega
     obtain ⟨ad, ead, hca, hcb, hcc, hcd⟩ := at_T24 HR0.out (i : Int) hi0 hi1
     cases ead
     simp only [Int.toNat_natCast] at hca hcb hcc hcd
     replace hca := (HB.out.cell (World.block_lt_of_cell? w _ hca)).trans hca
     replace hcb := (HB.out.cell (World.block_lt_of_cell? w _ hcb)).trans hcb
     replace hcc := (HB.out.cell (World.block_lt_of_cell? w _ hcc)).trans hcc
     replace hcd := (HB.out.cell (World.block_lt_of_cell? w _ hcd)).trans hcd
     have hmay : mayE (rd_T24 l (i : Int)) = true := by rw [rd_in hil]; exact HM.out _ (List.getElem_mem hil)
     obtain ⟨e, he⟩ : ∃ e, e = rd_T24 l (i : Int) := ⟨_, rfl⟩
     rw [← he] at hca hcb hcc hcd hmay
     obtain ⟨t, ht⟩ : ∃ t, e.f0 + e.f2 = t := ⟨_, rfl⟩
     have HT := Aside0.mk (show wrap64 (e.f0 + e.f2) = t by have := mayE_facts hmay; rw [ht]; unfold wrap64; omega)
     obtain ⟨q, hq⟩ : ∃ q : Int, (if t ≤ s then (-1 : Int) else 1) = q := ⟨_, rfl⟩
     have HV := Aside0.mk hq
     clear he ht hmay hil hq hw3
     go_wp2_with (go_at_call 69; refine (behind_cmp e s t _ HT.out).mono ?_; rintro r2 w2 ⟨rfl, hb2⟩; rw [HV.out]; have HB2 := Aside0.mk (HB.out.trans (hb2.mono HB.out.size)); clear hb2)
     go_ret2
     exact ⟨_, rfl, HB2.out⟩
    ·have hilb : decide (i < l.length) = false := decide_eq_false hil
     clear hil hw3;go_wp2
     go_ret2
     exact ⟨_, rfl, HB.out⟩
end Go.Proofs.Ytopmjjnkolfciaa.Pr
end
section
namespace Go.Proofs.Ytopmjjnkolfciaa.Pr
open Go.RowKit Go.Proofs.YtopmjjnkolfciaaW.PrintWords Go.Proofs.YtopmjjnkolfciaaW.PrintLast Go.Proofs.YtopmjjnkolfciaaW.PrintMore
attribute [local go_sem] max2_int min2_int max_two min_two max_three min_three max_four min_four
attribute [local go_sem] Go.Proofs.Ytopmjjnkolfciaa.Hl.str_geq Go.Proofs.Ytopmjjnkolfciaa.Hl.str_gtr Go.Proofs.Ytopmjjnkolfciaa.Hl.str_leq
set_option linter.unusedVariables false
set_option linter.unusedSimpArgs false
theorem behind_calls (A0 : Option Addr) (c0 : Nat) (l : List S24) (s : Int) (w : World) (hr0 : Kd.C k24 w A0 l.length l) (hc0 : l.length ≤ c0) (hok : l.length ≤ 60 ∧ l.all mayE = true ∧ riseL l) :
  Calls Try.prog 41 #[.slice A0 l.length c0, .int .i64 s] w fun e w' => e = .returned (.int .i64 (behindN l s : Int)) ∧ Below w.heap.size w w' := by
 have hall := List.all_eq_true.1 hok.2.1
 obtain ⟨r, hr⟩ := bse_some l s (l.length + 1) 0 l.length (by omega)
 have he := bse_behind hok.2.2 hall s _ _ _ r hr (Nat.zero_le _) (behindN_le l s) (Nat.le_refl _)
 have HC := Aside0.mk (bs_calls (l.length + 1) A0 c0 l s r w hr0 hc0 hok.1 hall hr)
 rw [← he]
 clear hr0 hc0 hok hall hr he
 go_enter Try.func41, Try.ntmps41
 go_wp2_with (go_at_call 68; refine HC.out.mono ?_; rintro e w2 ⟨b, rfl, hb⟩)
 go_ret
 exact ⟨rfl, hb⟩
end Go.Proofs.Ytopmjjnkolfciaa.Pr
end
section
namespace Go.Proofs.Ytopmjjnkolfciaa.Rw
open Go.RowKit Go.Proofs.YtopmjjnkolfciaaW.PrintWords Go.Proofs.YtopmjjnkolfciaaW.PrintLast Go.Proofs.YtopmjjnkolfciaaW.PrintMore Go.Proofs.Ytopmjjnkolfciaa.Pr
set_option linter.unusedVariables false
set_option linter.unusedSimpArgs false
abbrev E := S24
def cells2 (e : E) : List Value := [.int .i64 e.f0, .int .i64 e.f1, .int .i64 e.f2, .bool e.f3]
def flat (xs : List E) : List Value := xs.flatMap cells2
theorem flat_cons (e : E) (xs : List E) : flat (e :: xs) = cells2 e ++ flat xs := rfl
theorem flat_append (a b : List E) : flat (a ++ b) = flat a ++ flat b := by unfold flat; rw [List.flatMap_append]
theorem flat_len : ∀ xs : List E, (flat xs).length = xs.length * 4
  | [] => rfl
  | e :: xs => by rw [flat_cons, List.length_append, flat_len xs, List.length_cons]; simp [cells2]; omega
theorem flat_take : ∀ (xs : List E) (n : Nat), flat (xs.take n) = (flat xs).take (n * 4)
  | [], n => by simp [flat]
  | e :: xs, 0 => by simp [flat]
  | e :: xs, n + 1 => by
    rw [List.take_succ_cons, flat_cons, flat_cons, flat_take xs n, show (n + 1) * 4 = (cells2 e).length + n * 4 by simp [cells2]; omega, List.take_length_add_append]
theorem flat_drop : ∀ (xs : List E) (n : Nat), flat (xs.drop n) = (flat xs).drop (n * 4)
  | [], n => by simp [flat]
  | e :: xs, 0 => by simp
  | e :: xs, n + 1 => by
    rw [List.drop_succ_cons, flat_cons, flat_drop xs n, show (n + 1) * 4 = (cells2 e).length + n * 4 by simp [cells2]; omega, List.drop_length_add_append]
theorem flat_of : ∀ (xs : List E) (inner : List Value), inner.length = xs.length * 4 → (∀ j p, xs[j]? = some p → (inner.drop (j * 4)).take 4 = cells2 p) → inner = flat xs
  | [], inner, hl, _ => List.eq_nil_of_length_eq_zero (by simpa using hl)
  | e :: xs, inner, hl, h => by
    have h0 := h 0 e rfl
    rw [Nat.zero_mul, List.drop_zero] at h0
    have hr := flat_of xs (inner.drop 4) (by rw [List.length_drop, hl, List.length_cons]; omega) (fun j p hj => by
      have := h (j + 1) p (by simpa using hj)
      rw [List.drop_drop, show 4 + j * 4 = (j + 1) * 4 by omega]
      exact this)
    rw [flat_cons, ← h0, ← hr, List.take_append_drop]
theorem flat_at : ∀ (xs : List E) (j : Nat) (p : E), xs[j]? = some p → ((flat xs).drop (j * 4)).take 4 = cells2 p
  | e :: xs, 0, p, h => by
    simp only [List.getElem?_cons_zero, Option.some.injEq] at h
    subst h
    rw [Nat.zero_mul, List.drop_zero, flat_cons, List.take_append_of_le_length (by simp [cells2]), List.take_of_length_le (by simp [cells2])]
  | e :: xs, j + 1, p, h => by
    rw [← flat_drop, List.drop_succ_cons, flat_drop]
    exact flat_at xs j p (by simpa using h)
theorem flat_one : ∀ (xs : List E), ∀ v ∈ flat xs, v.oneCell' = true := by
  intro xs v hv
  obtain ⟨e, _, h⟩ := List.mem_flatMap.1 hv
  simp only [cells2, List.mem_cons, List.not_mem_nil, or_false] at h
  rcases h with rfl | rfl | rfl | rfl <;> rfl
theorem R_flat {w : World} {base : Nat} {ok : Nat → Prop} {v : Value} {xs : List E} (h : Kd.R k24 24 w base ok v xs) : w.ownsRow base 24 4 v xs.length (flat xs) := by
  obtain ⟨h0, inner, ho, hr⟩ := h
  have : inner = flat xs := flat_of xs inner hr.1 (fun j p hj => k24_openM (hr.2 j p hj))
  rw [← this]; exact ho
theorem flat_R {w : World} {base : Nat} {ok : Nat → Prop} {v : Value} {xs : List E} (ho : w.ownsRow base 24 4 v xs.length (flat xs)) (hok : ∀ k, v.ownBlock = some k → ok k) : Kd.R k24 24 w base ok v xs :=
  ⟨hok, flat xs, ho, flat_len xs, fun j p hj => by rw [show k24.sz = 4 from rfl, flat_at xs j p hj]; exact k24_mkM _ _ _ p⟩
theorem run_copy_cells {P : Program} (w : World) (dT sT ty elem : TypeId) (g o dLen dCap : Nat) (a : Addr) (sLen sCap : Nat) (cur : Array Value) (t : TypeId) (cs : List Value) (n sz : Nat)
    (hu : P.underlying dT = some (.slice elem)) (hs : (P.info? elem).map (·.size) = some sz)
    (hg : w.heap[g]? = some (.cells cur t (0, 0))) (hn : n = Nat.min sLen dLen) (hcl : cs.length = n * sz)
    (hsrc : ∀ j v, cs[j]? = some v → w.cell? (a.add j) = some v) (hfit : o + cs.length ≤ cur.size) (h1 : ∀ v ∈ cs, v.oneCell' = true) :
    (Builtin.copy_ #[dT, sT] ty #[.slice (some ⟨g, o, none⟩) dLen dCap, .slice (some a) sLen sCap]).run P w =
      .ok (goInt n) (w.setRow g (cur.toList.take o ++ cs ++ cur.toList.drop (o + cs.length)).toArray) := by
  have hl := run_loadCells_list (P := P) w a cs hsrc
  have hst := run_storeCells_at P g o t cs 0 cur w hg (by simpa using hfit) h1
  cases hq : P.info? elem with
  | none => simp [hq] at hs
  | some i =>
    have hi : i.size = sz := by simpa [hq] using hs
    rw [hcl] at hl
    simp [Builtin.copy_, run_underlying hu, Builtin.lenOf, Builtin.firstCells, sizeOf, typeInfo, hq, hi, ← hn, hl, hst]
section
variable {P : Program} {ops : Array Oper} {rest : List Oper} {o : Oper} {a : Act} {Q : Exit → Act → World → Prop} {Kc : Act → World → Prop}
theorem copy_step (w : World) (hw : Region.wanted o (yielded ops a.tmps) = true) (d s : Operand) (t t' : TypeId) (ho : o.op = .call { callee := .builtin .copy, args := #[d, s], argTypes := #[t, t'] }) (v u : Value) (hd : a.eval d = v) (hs : a.eval s = u) {v' : Value} {w' : World}
    (hr : (Builtin.copy_ #[t, t'] o.type #[v, u]).run P w = .ok v' w') (h : Kc (a.put o.dst v') w') : if Region.wanted o (yielded ops a.tmps) = true then Oper.wp P o a w Kc Q else Kc (a.put o.dst undef) w := by
  rw [if_pos hw]
  unfold Oper.wp execOp
  simp only [ho, resolve, invoke, builtin, Sem.run_bind, Sem.run_pure, Result.andThen_ok, List.map_toArray, List.map_cons, List.map_nil, hd, hs, hr]
  exact h
theorem append_ev (w : World) (hgd : o.guard = none) (d s : Operand) (t t' : TypeId) (ho : o.op = .call { callee := .builtin .append, args := #[d, s], argTypes := #[t, t'] }) (v u : Value) (hd : a.eval d = v) (hs : a.eval s = u) {v' : Value} {w' : World}
    (hr : (Builtin.append_ #[t, t'] o.type #[v, u]).run P w = .ok v' w') (h : wpList P ops Q rest (a.put o.dst v') w') : wpList P ops Q (o :: rest) a w := by
  refine wpList_plain hgd fun K hK => ?_
  unfold Oper.wp execOp
  simp only [ho, resolve, invoke, builtin, Sem.run_bind, Sem.run_pure, Result.andThen_ok, List.map_toArray, List.map_cons, List.map_nil, hd, hs, hr]
  exact hK _ _ h
end
theorem own_open {w : World} {base : Nat} {v : Value} {n : Nat} {cs : List Value} {e sz : Nat} (ho : w.ownsRow base e sz v n cs) (hp : 0 < n) :
    ∃ g cap cur, v = .slice (some ⟨g, 0, none⟩) n cap ∧ base ≤ g ∧ w.heap[g]? = some (.cells cur e (0, 0)) ∧ n ≤ cap ∧ cap ≤ maxLen ∧ cur.size = cap * sz ∧ cur.toList.take (n * sz) = cs := by
  rcases ho.2 with ⟨_, h0⟩ | h
  · omega
  · exact h
theorem below_turn {B g : Nat} {w0 w : World} (hb : Below B w0 w) (hBg : B ≤ g) (cs : Array Value) : Below B w0 (w.setRow g cs) :=
  hb.trans ⟨rfl, rfl, rfl, by simp [World.setRow], fun k hk => setRow_other w g k cs (by omega)⟩
theorem zero_len (q : Nat) : (Builtin.zeroCells (Value.agg #[(.int .i64 0), (.int .i64 0), (.int .i64 0), (.bool false)]).cells q).size = q * 4 := by simp [Builtin.zeroCells, Value.cells]
end Go.Proofs.Ytopmjjnkolfciaa.Rw
end
section
namespace Go.Proofs.Ytopmjjnkolfciaa.Pr
open Go.RowKit Go.Proofs.YtopmjjnkolfciaaW.PrintWords Go.Proofs.YtopmjjnkolfciaaW.PrintLast Go.Proofs.YtopmjjnkolfciaaW.PrintMore
attribute [local go_sem] max2_int min2_int max_two min_two max_three min_three max_four min_four
attribute [local go_sem] Go.Proofs.Ytopmjjnkolfciaa.Hl.str_geq Go.Proofs.Ytopmjjnkolfciaa.Hl.str_gtr Go.Proofs.Ytopmjjnkolfciaa.Hl.str_leq
set_option linter.unusedVariables false
set_option linter.unusedSimpArgs false
theorem ins_row (W : World) (vb : Nat) (p : S24) (hV : W.heap[vb]? = some (.cells #[.int .i64 p.f0, .int .i64 p.f1, .int .i64 p.f2, .bool p.f3] 24 (0, 0))) : Kd.C k24 W (some ⟨vb, 0, none⟩) 1 [p] := by
 refine ⟨rfl, by simp, fun _ => ⟨_, rfl, fun j q hj => ?_⟩⟩
 cases j with
 | zero =>
  simp only [List.getElem?_cons_zero, Option.some.injEq] at hj
  subst hj
  refine ⟨[.int .i64 p.f0, .int .i64 p.f1, .int .i64 p.f2, .bool p.f3], rfl, k24_mk _ p, fun i u hu => ?_⟩
  rw [add_plain]
  have e : 0 * k24.sz + i = i := by rw [show k24.sz = 4 from rfl]; omega
  rw [e, blk_cell hV i]
  simpa using hu
 | succ j => simp at hj
def flat2 (xs : List S24) (i : Nat) : List Value := (Rw.flat xs).drop (i * 4)
set_option maxHeartbeats 8000000 in
set_option maxRecDepth 100000 in
theorem ins_calls (W : World) (base : Nat) (v : Value) (xs : List S24) (p : S24) (vb i n : Nat) (hn : xs.length = n) (hO : Kd.R k24 24 W base (fun _ => True) v xs) (hV : W.heap[vb]? = some (.cells #[.int .i64 p.f0, .int .i64 p.f1, .int .i64 p.f2, .bool p.f3] 24 (0, 0)))
  (hne : ∀ g, v.ownBlock = some g → g ≠ vb) (hbase : base ≤ W.heap.size) (hi : i ≤ n) (hl : n < 4398046511103) :
  Calls Try.prog 42 #[v, .int .i64 i, .slice (some ⟨vb, 0, none⟩) 1 1] W fun e w' => ∃ v', e = .returned v' ∧ Kd.R k24 24 w' base (fun _ => True) v' (xs.take i ++ p :: xs.drop i) ∧ Below base W w' := by
 have hw : ∀ z : Int, 0 ≤ z → z < 9223372036854775807 → wrap64 z = z := fun z _ _ => by unfold wrap64; omega
 have hu26 := Try.underlying24
 have hi26 := info24
 obtain ⟨A, c, rfl⟩ := Kd.R_slice hO
 rw [hn] at hO
 by_cases hin : i = n
 ·subst hin
  have HO := Aside0.mk hO
  have HL := Aside0.mk hl
  have HN := Aside0.mk hn
  have hCV := Aside0.mk (ins_row W vb p hV)
  have h0 : (0 : Int) ≤ (i : Int) := by omega
  have h1 : (i : Int) ≤ (i : Int) := by omega
  rw [hn]
  clear hO hl hn hV hne hw
  cases A with
  | none =>
   obtain ⟨rfl, rfl⟩ : i = 0 ∧ c = 0 := by
    rcases (Rw.R_flat HO.out).2 with ⟨h, _⟩ | ⟨g', c', cur', h, _⟩
    ·injection h with h1 h2 h3
     exact ⟨h2, h3⟩
    ·cases h
   go_enter Try.func42, Try.ntmps42
   go_wp2_with ((with_reducible refine gate_builtin (b := .append) (xs := #[.tmp 23, .tmp 24]) rfl ?_); at_builtin; refine Kd.R_append_rows k24 (w0 := W) base rfl (.tmp 23) (.tmp 24) 22 24 (.agg #[(.int .i64 0), (.int .i64 0), (.int .i64 0), (.bool false)]) 32 rfl Try.underlying22 info24 rfl (by decide) (by omega) _ xs [p] _ _ _ (fun _ => True) (fun _ => False) rfl rfl HO.out hCV.out (fun _ _ h => h) (fun _ h => h.elim) (fun _ _ => trivial) (Below.refl _ _) hbase (by have := HL.out; have := HN.out; omega) ?_; intro v2 w2 ho2 hb2 hg2 hat2; have HO2 := Aside0.mk ho2; have HB2 := Aside0.mk hb2; clear ho2 hb2 hg2 hat2)
   go_ret
   have e1 : ∀ j, xs.length = j → xs.take j ++ p :: xs.drop j = xs ++ [p] := fun j h => by rw [List.take_of_length_le (by omega), List.drop_of_length_le (by omega)]
   rw [e1 _ HN.out]
   exact ⟨_, rfl, HO2.out, HB2.out⟩
  | some ad =>
   by_cases hci : c = i
   ·subst hci
    go_enter Try.func42, Try.ntmps42
    go_wp2_with ((with_reducible refine gate_builtin (b := .append) (xs := #[.tmp 23, .tmp 24]) rfl ?_); at_builtin; refine Kd.R_append_rows k24 (w0 := W) base rfl (.tmp 23) (.tmp 24) 22 24 (.agg #[(.int .i64 0), (.int .i64 0), (.int .i64 0), (.bool false)]) 32 rfl Try.underlying22 info24 rfl (by decide) (by omega) _ xs [p] _ _ _ (fun _ => True) (fun _ => False) rfl rfl HO.out hCV.out (fun _ _ h => h) (fun _ h => h.elim) (fun _ _ => trivial) (Below.refl _ _) hbase (by have := HL.out; have := HN.out; omega) ?_; intro v2 w2 ho2 hb2 hg2 hat2; have HO2 := Aside0.mk ho2; have HB2 := Aside0.mk hb2; clear ho2 hb2 hg2 hat2)
    go_ret
    have e1 : ∀ j, xs.length = j → xs.take j ++ p :: xs.drop j = xs ++ [p] := fun j h => by rw [List.take_of_length_le (by omega), List.drop_of_length_le (by omega)]
    rw [e1 _ HN.out]
    exact ⟨_, rfl, HO2.out, HB2.out⟩
   ·skip
    go_enter Try.func42, Try.ntmps42
    go_wp2_with ((with_reducible refine gate_builtin (b := .append) (xs := #[.tmp 23, .tmp 24]) rfl ?_); at_builtin; refine Kd.R_append_rows k24 (w0 := W) base rfl (.tmp 23) (.tmp 24) 22 24 (.agg #[(.int .i64 0), (.int .i64 0), (.int .i64 0), (.bool false)]) 32 rfl Try.underlying22 info24 rfl (by decide) (by omega) _ xs [p] _ _ _ (fun _ => True) (fun _ => False) rfl rfl HO.out hCV.out (fun _ _ h => h) (fun _ h => h.elim) (fun _ _ => trivial) (Below.refl _ _) hbase (by have := HL.out; have := HN.out; omega) ?_; intro v2 w2 ho2 hb2 hg2 hat2; have HO2 := Aside0.mk ho2; have HB2 := Aside0.mk hb2; clear ho2 hb2 hg2 hat2)
    go_ret
    have e1 : ∀ j, xs.length = j → xs.take j ++ p :: xs.drop j = xs ++ [p] := fun j h => by rw [List.take_of_length_le (by omega), List.drop_of_length_le (by omega)]
    rw [e1 _ HN.out]
    exact ⟨_, rfl, HO2.out, HB2.out⟩
 ·have hlt : i < n := by omega
  have hp0 : 0 < xs.length := by omega
  have h0 : (0 : Int) ≤ (i : Int) := by omega
  have h1 : (i : Int) ≤ (n : Int) := by omega
  have hne1 : ((i : Int) == (n : Int)) = false := beq_eq_false_iff_ne.2 (by omega)
  have hn63 : (n : Int) + 1 < 9223372036854775807 := by omega
  have hi63 : (i : Int) + 1 < 9223372036854775807 := by omega
  have HW1 := Aside0.mk (hw ((n : Int) + 1) (by omega) hn63)
  have HW3 := Aside0.mk (hw ((i : Int) + 1) (by omega) hi63)
  have hXl : (flat2 xs i).length = (n - i) * 4 := by unfold flat2; rw [List.length_drop, Rw.flat_len, hn]; omega
  have hflen : (xs.take i ++ p :: xs.drop i).length = n + 1 := by rw [List.length_append, List.length_cons, List.length_take, List.length_drop, hn]; omega
  have HW4 := Aside0.mk ((hw ((n : Int) + 1 - (i : Int)) (by omega) (by omega)).trans (by omega : (n : Int) + 1 - (i : Int) = ((n + 1 - i : Nat) : Int)))
  clear hw hn63 hi63
  obtain ⟨g, c', cur, hv, hbg, hg, hnc, hcm, hcs, htk⟩ := Rw.own_open (Rw.R_flat hO) hp0
  have HCM := Aside0.mk hcm
  clear hcm
  injection hv with hv1 hv2 hv3
  subst hv1
  subst hv3
  clear hv2
  rw [hn] at hnc htk ⊢
  have hgv : g ≠ vb := hne g rfl
  have hglt : g < W.heap.size := blk_lt hg
  have hvlt : vb < W.heap.size := blk_lt hV
  have hcl : cur.toList.length = c * 4 := by rw [Array.length_toList, hcs]
  have hci : ¬ (c = i) := fun e => absurd hlt (by rw [← e]; exact Nat.not_lt.2 hnc)
  have hcells : ∀ j u, (flat2 xs i)[j]? = some u → W.cell? ⟨g, i * 4 + j, none⟩ = some u := by
   intro j u hj
   rw [blk_cell hg, ← Array.getElem?_toList]
   unfold flat2 at hj
   rw [List.getElem?_drop, ← htk, List.getElem?_take] at hj
   split at hj
   ·exact hj
   ·cases hj
  have hadd : ∀ b o j : Nat, (⟨b, o, none⟩ : Addr).add j = ⟨b, o + j, none⟩ := fun b o j => by unfold Addr.add; split <;> simp_all
  have hfl1 : ∀ v ∈ flat2 xs i, v.oneCell' = true := fun v hv => Rw.flat_one xs v (List.mem_of_mem_drop hv)
  have hpl1 : ∀ v ∈ Rw.cells2 p, v.oneCell' = true := by intro v hv; simp only [Rw.cells2, List.mem_cons, List.not_mem_nil, or_false] at hv; rcases hv with rfl | rfl | rfl | rfl <;> rfl
  have hfin : Rw.flat (xs.take i ++ p :: xs.drop i) = (Rw.flat xs).take (i * 4) ++ Rw.cells2 p ++ flat2 xs i := by
   rw [Rw.flat_append, Rw.flat_cons, Rw.flat_take, Rw.flat_drop, ← List.append_assoc]; rfl
  by_cases hcap : (n : Int) + 1 > (c : Int)
  ·
   obtain ⟨i0, hi0, hz3⟩ := Option.map_eq_some_iff.1 info24
   simp only [Prod.mk.injEq] at hz3
   obtain ⟨kk, hkk⟩ : ∃ kk, kk = n + 1 - i := ⟨_, rfl⟩
   have hol : ((Rw.flat xs).take (i * 4)).length = i * 4 := by rw [List.length_take, Rw.flat_len, hn]; omega
   have hocell : ∀ j u, ((Rw.flat xs).take (i * 4))[j]? = some u → W.cell? ⟨g, 0 + j, none⟩ = some u := by
    intro j u hj
    rw [Nat.zero_add, blk_cell hg, ← Array.getElem?_toList]
    rw [List.getElem?_take] at hj
    split at hj
    ·rw [← htk, List.getElem?_take] at hj
     split at hj
     ·exact hj
     ·cases hj
    ·cases hj
   have hap := Lib.run_append_grow_zeros (P := Try.prog) W 22 3 22 24 i0 (.agg #[(.int .i64 0), (.int .i64 0), (.int .i64 0), (.bool false)]) .i64 .i64 Try.underlying22 Try.underlying3 hi0 hz3.1 (some ⟨g, 0, none⟩) i c ((Rw.flat xs).take (i * 4)) (by
     have h := run_loadCells_list (P := Try.prog) W.drew ⟨g, 0, none⟩ ((Rw.flat xs).take (i * 4)) (fun j u hj => by rw [hadd]; exact hocell j u hj)
     rw [hol] at h
     rw [hz3.2.1]
     exact h) kk (by omega) (by rw [hz3.2.1]; decide) (by omega) (by omega) (by rw [hz3.2.2]; omega) (by rw [hz3.2.2]; exact growslice_fits_wide (by omega) (by omega))
   have hsum : i + kk = n + 1 := by omega
   rw [hsum] at hap
   obtain ⟨C2, hC2⟩ : ∃ C2, C2 = grownCap W (n + 1) c 24 := ⟨_, rfl⟩
   have hC2n : n + 1 ≤ C2 := by rw [hC2]; exact grownCap_ge _ _ _ _
   have hC2m : C2 ≤ maxLen := by rw [hC2]; exact grownCap_le_maxLen _ _ _ _ (by unfold maxLen; omega)
   rw [← hC2] at hap
   obtain ⟨N0, hN0⟩ : ∃ N0 : Array Value, N0 = ((Rw.flat xs).take (i * 4)).toArray ++ Builtin.zeroCells (Value.agg #[(.int .i64 0), (.int .i64 0), (.int .i64 0), (.bool false)]).cells kk ++ Builtin.zeroCells (Value.agg #[(.int .i64 0), (.int .i64 0), (.int .i64 0), (.bool false)]).cells (C2 - (n + 1)) := ⟨_, rfl⟩
   rw [← hN0] at hap
   have hN0s : N0.size = C2 * 4 := by rw [hN0, Array.size_append, Array.size_append, List.size_toArray, hol, Rw.zero_len, Rw.zero_len]; omega
   have hN0l : N0.toList.length = C2 * 4 := by rw [Array.length_toList, hN0s]
   have hN0t : N0.toList.take (i * 4) = (Rw.flat xs).take (i * 4) := by
    rw [hN0, Array.toList_append, Array.toList_append, List.toList_toArray, List.append_assoc, List.take_append_of_le_length (by rw [hol]; exact Nat.le_refl _), List.take_of_length_le (by rw [hol]; exact Nat.le_refl _)]
   have hb0 : (W.alloc (.cells N0 24)).drew.heap[W.heap.size]? = some (.cells N0 24 (0, 0)) := blk_drew (blk_new W _)
   have hl2 : (Rw.cells2 p).length = 4 := rfl
   obtain ⟨N1, hN1⟩ : ∃ N1 : Array Value, N1 = (N0.toList.take (i * 4) ++ Rw.cells2 p ++ N0.toList.drop (i * 4 + (Rw.cells2 p).length)).toArray := ⟨_, rfl⟩
   have hN1s : N1.size = C2 * 4 := by rw [hN1]; simp only [List.size_toArray, List.length_append, List.length_take, List.length_drop, hN0l, hl2]; omega
   have hN1l : N1.toList.length = C2 * 4 := by rw [Array.length_toList, hN1s]
   have hr1 := Rw.run_copy_cells (P := Try.prog) (W.alloc (.cells N0 24)).drew 22 22 3 24 W.heap.size (i * 4) (n + 1 - i) (C2 - i) ⟨vb, 0, none⟩ 1 1 N0 24 (Rw.cells2 p) 1 4 Try.underlying22 (by kernel_rfl) hb0 (by show 1 = min _ _; omega) rfl (fun j u hj => by
     rw [hadd, Nat.zero_add, blk_cell (blk_drew (blk_alloc hV _))]
     simpa [Rw.cells2] using hj) (by rw [hN0s, hl2]; omega) hpl1
   rw [← hN1] at hr1
   obtain ⟨N2, hN2⟩ : ∃ N2 : Array Value, N2 = (N1.toList.take ((i + 1) * 4) ++ flat2 xs i ++ N1.toList.drop ((i + 1) * 4 + (flat2 xs i).length)).toArray := ⟨_, rfl⟩
   have hN2s : N2.size = C2 * 4 := by rw [hN2]; simp only [List.size_toArray, List.length_append, List.length_take, List.length_drop, hN1l, hXl]; omega
   have hgne : g ≠ W.heap.size := by omega
   have hb1 : ((W.alloc (.cells N0 24)).drew.setRow W.heap.size N1).heap[W.heap.size]? = some (.cells N1 24 (0, 0)) := setRow_heap _ _ N0 _ 24 (0, 0) hb0
   have hg1 : ((W.alloc (.cells N0 24)).drew.setRow W.heap.size N1).heap[g]? = some (.cells cur 24 (0, 0)) := by
    rw [setRow_other _ _ _ _ hgne]; exact blk_drew (blk_alloc hg _)
   have hr2 := Rw.run_copy_cells (P := Try.prog) ((W.alloc (.cells N0 24)).drew.setRow W.heap.size N1).drew 22 22 3 24 W.heap.size ((i + 1) * 4) (n - i) (C2 - (i + 1)) ⟨g, i * 4, none⟩ (n - i) (c - i) N1 24 (flat2 xs i) (n - i) 4 Try.underlying22 (by kernel_rfl) (blk_drew hb1) (by show n - i = min _ _; omega) hXl (fun j u hj => by
     rw [hadd, blk_cell (blk_drew hg1), ← blk_cell hg]
     exact hcells j u hj) (by rw [hN1s, hXl]; omega) hfl1
   rw [← hN2] at hr2
   have e1 : N1.toList.take ((i + 1) * 4) = (Rw.flat xs).take (i * 4) ++ Rw.cells2 p := by
    have hl3 : ((Rw.flat xs).take (i * 4) ++ Rw.cells2 p).length = (i + 1) * 4 := by rw [List.length_append, hol, hl2]; omega
    rw [hN1, List.toList_toArray, hN0t, ← hl3, List.take_left]
   have hNew : N2.toList.take ((n + 1) * 4) = Rw.flat (xs.take i ++ p :: xs.drop i) := by
    have hln : ((Rw.flat xs).take (i * 4) ++ Rw.cells2 p ++ flat2 xs i).length = (n + 1) * 4 := by
     rw [List.length_append, List.length_append, hol, hXl, hl2]; omega
    rw [hN2, List.toList_toArray, e1, hfin, ← hln, List.take_left]
   have HFR := Aside0.mk (Rw.flat_R (w := ((W.alloc (.cells N0 24)).drew.setRow W.heap.size N1).drew.setRow W.heap.size N2) (base := base) (ok := fun _ => True) (v := .slice (some ⟨W.heap.size, 0, none⟩) (n + 1) C2) (xs := xs.take i ++ p :: xs.drop i) ⟨Rw.flat_len _, .inr ⟨W.heap.size, C2, N2, by rw [hflen], hbase, setRow_heap _ _ N1 _ 24 (0, 0) (blk_drew hb1), by rw [hflen]; exact hC2n, hC2m, hN2s, by rw [hflen]; exact hNew⟩⟩ (fun _ _ => trivial))
   have HBE := Aside0.mk (Rw.below_turn (below_drew1 (Rw.below_turn (below_drew1 ((Below.refl base W).alloc hbase (.cells N0 24))) hbase N1)) hbase N2)
   have hcb : decide ((c : Int) < (n : Int) + 1) = true := decide_eq_true (by omega)
   have hci2 : ¬ (C2 = i) := by omega
   have hci3 : ¬ (C2 = i + 1) := by omega
   have hic : i ≤ c := by omega
   have g3 : (0 : Int) ≤ (i : Int) + 1 := by omega
   have g4 : ((i : Int) + 1).toNat = i + 1 := by omega
   have g5 : (i : Int) + 1 ≤ (n : Int) + 1 := by omega
   have g6 : i ≤ n + 1 := by omega
   have g12 : (i : Int) ≤ (n : Int) + 1 := by omega
   have g8 := HW1.out
   have g9 := HW3.out
   have g13' : wrap64 ((n : Int) + 1 - (i : Int)) = (kk : Int) := by rw [hkk]; exact HW4.out
   have G13 := Aside0.mk g13'
   clear g13'
   have G11 := Aside0.mk hr2
   have HAP := Aside0.mk hap
   clear hap hr2 e1 hNew hN0 hN1 hN2 hN0s hN1s hN2s hN0l hN1l hN0t hb0 hb1 hg1 hgne hl2 hcap hfin hflen hXl hfl1 hpl1 hadd hcells hcl hcs htk hg hV hO hne hl hlt hp0 hi hn hin hnc hglt hvlt hgv hbg hC2 hC2n hC2m hsum hkk hol hocell hi0 hz3
   go_enter Try.func42, Try.ntmps42
   go_wp2_with ((with_reducible refine gate_builtin (b := .append) (xs := #[.tmp 34, .tmp 39]) rfl ?_); at_builtin; refine Rw.append_ev W rfl (.tmp 34) (.tmp 39) 22 3 rfl (.slice (some ⟨g, 0, none⟩) i c) (.int .i64 (kk : Int)) rfl (congrArg (Value.int .i64) G13.out) HAP.out ?_)
   refine start_ (n := 9) (S := fun w' => True) (ds := []) #[false, false, false, false, false, false, false, false, false] (by kernel_rfl) rfl rfl trivial (fun hHeld => ?_)
   refine pure_ (i := 0) (N := some 46) (v := ?_) (a' := ?_) #[true, false, false, false, false, false, false, false, false] rfl rfl (by kernel_rfl) (fun _ _ _ h => h) (Or.inl ⟨by rfl, ?_⟩) ?_ ?_;rotate_left;(intro w';go_simp;with_reducible rfl);rotate_left;(simp only [Act.put, sIb, sC0, sCs, i64_w, i32_w];rfl);refine pure_ (i := 1) (N := some 47) (v := ?_) (a' := ?_) #[true, true, false, false, false, false, false, false, false] rfl rfl (by kernel_rfl) (fun _ _ _ h => h) (Or.inl ⟨by rfl, ?_⟩) ?_ ?_;rotate_left;(intro w';go_simp;with_reducible rfl);rotate_left;(simp only [Act.put, sIb, sC0, sCs, i64_w, i32_w];rfl);refine pure_ (i := 2) (N := some 48) (v := ?_) (a' := ?_) #[true, true, true, false, false, false, false, false, false] rfl rfl (by kernel_rfl) (fun _ _ _ h => h) (Or.inl ⟨by rfl, ?_⟩) ?_ ?_;rotate_left;(intro w';go_simp;with_reducible rfl);rotate_left;(simp only [Act.put, sIb, sC0, sCs, i64_w, i32_w];rfl);refine pure_ (i := 3) (N := some 49) (v := ?_) (a' := ?_) #[true, true, true, true, false, false, false, false, false] rfl rfl (by kernel_rfl) (fun _ _ _ h => h) (Or.inl ⟨by rfl, ?_⟩) ?_ ?_;rotate_left;(intro w';go_simp;with_reducible rfl);rotate_left;(simp only [Act.put, sIb, sC0, sCs, i64_w, i32_w];rfl);refine pure_ (i := 4) (N := some 50) (v := ?_) (a' := ?_) #[true, true, true, true, true, false, false, false, false] rfl rfl (by kernel_rfl) (fun _ _ _ h => h) (Or.inl ⟨by rfl, ?_⟩) ?_ ?_;rotate_left;(intro w';go_simp;with_reducible rfl);rotate_left;(simp only [Act.put, sIb, sC0, sCs, i64_w, i32_w];rfl);refine pure_ (i := 5) (N := some 51) (v := ?_) (a' := ?_) #[true, true, true, true, true, true, false, false, false] rfl rfl (by kernel_rfl) (fun _ _ _ h => h) (Or.inl ⟨by rfl, ?_⟩) ?_ ?_;rotate_left;(intro w';go_simp;with_reducible rfl);rotate_left;(simp only [Act.put, sIb, sC0, sCs, i64_w, i32_w];rfl);refine pure_ (i := 6) (N := some 52) (v := ?_) (a' := ?_) #[true, true, true, true, true, true, true, false, false] rfl rfl (by kernel_rfl) (fun _ _ _ h => h) (Or.inl ⟨by rfl, ?_⟩) ?_ ?_;rotate_left;(intro w';go_simp;with_reducible rfl);rotate_left;(simp only [Act.put, sIb, sC0, sCs, i64_w, i32_w];rfl);refine pure_ (i := 7) (N := some 53) (v := ?_) (a' := ?_) #[true, true, true, true, true, true, true, true, false] rfl rfl (by kernel_rfl) (fun _ _ _ h => h) (Or.inl ⟨by rfl, ?_⟩) ?_ ?_;rotate_left;(intro w';go_simp;with_reducible rfl);rotate_left;(simp only [Act.put, sIb, sC0, sCs, i64_w, i32_w];rfl)
   refine one_ (i := 8) (N := some 54) #[true, true, true, true, true, true, true, true, true] rfl rfl (by kernel_rfl) (by decide) (fun K hK => ?_)
   refine Rw.copy_step ((W.alloc (.cells N0 24)).drew.setRow W.heap.size N1).drew (by rfl) (.tmp 50) (.tmp 53) 22 22 rfl (.slice (some ⟨W.heap.size, (i + 1) * 4, none⟩) (n - i) (C2 - (i + 1))) (.slice (some ⟨g, i * 4, none⟩) (n - i) (c - i)) rfl rfl (v' := goInt ((n - i : Nat) : Int)) (w' := ((W.alloc (.cells N0 24)).drew.setRow W.heap.size N1).drew.setRow W.heap.size N2) G11.out ?_
   refine hK.out _ _ trivial (fun hHeld => ?_)
   clear hK K;refine norm_ (a' := ?_) ?_ ?_;rotate_left
   ·show Act.put _ (some 54) _ = _
    simp only [Act.put, sIb, sC0, sCs, i64_w, i32_w];rfl
   refine done_ (by kernel_rfl) ?_
   go_wp2;go_ret
   exact ⟨_, rfl, HFR.out, HBE.out⟩
  ·have hcap' : n + 1 ≤ c := by omega
   obtain ⟨N1, hN1⟩ : ∃ N1 : Array Value, N1 = (cur.toList.take ((i + 1) * 4) ++ flat2 xs i ++ cur.toList.drop ((i + 1) * 4 + (flat2 xs i).length)).toArray := ⟨_, rfl⟩
   have hN1s : N1.size = cur.size := by rw [hN1]; simp only [List.size_toArray, List.length_append, List.length_take, List.length_drop, hXl, hcl, hcs]; omega
   have hN1l : N1.toList.length = c * 4 := by rw [Array.length_toList, hN1s, hcs]
   have hr1 : ∀ W2 : World, W2.heap = W.heap → ∀ c1 c2, (Builtin.copy_ #[22, 22] 3 #[.slice (some ⟨g, (i + 1) * 4, none⟩) (n - i) c1, .slice (some ⟨g, i * 4, none⟩) (n + 1 - i) c2]).run Try.prog W2 = .ok (goInt ((n - i : Nat) : Int)) (W2.setRow g N1) := by
    intro W2 hW2 c1 c2
    have h := Rw.run_copy_cells (P := Try.prog) W2 22 22 3 24 g ((i + 1) * 4) (n - i) c1 ⟨g, i * 4, none⟩ (n + 1 - i) c2 cur 24 (flat2 xs i) (n - i) 4 Try.underlying22 (by kernel_rfl) (by rw [hW2]; exact hg) (by show n - i = min _ _; omega) hXl (fun j u hj => by
     rw [hadd]
     have := hcells j u hj
     unfold World.cell? at this ⊢
     rw [hW2]; exact this) (by rw [hXl, hcs]; omega) hfl1
    rw [← hN1] at h
    exact h
   obtain ⟨N2, hN2⟩ : ∃ N2 : Array Value, N2 = (N1.toList.take (i * 4) ++ Rw.cells2 p ++ N1.toList.drop (i * 4 + (Rw.cells2 p).length)).toArray := ⟨_, rfl⟩
   have hN2s : N2.size = cur.size := by rw [hN2]; simp only [List.size_toArray, List.length_append, List.length_take, List.length_drop, hN1l, hcs]; simp only [Rw.cells2, List.length_cons, List.length_nil]; omega
   have hr2 : ∀ W2 : World, W2.heap = W.heap → ∀ c1, (Builtin.copy_ #[22, 22] 3 #[.slice (some ⟨g, i * 4, none⟩) (n + 1 - i) c1, .slice (some ⟨vb, 0, none⟩) 1 1]).run Try.prog (W2.setRow g N1) = .ok (goInt 1) ((W2.setRow g N1).setRow g N2) := by
    intro W2 hW2 c1
    have h := Rw.run_copy_cells (P := Try.prog) (W2.setRow g N1) 22 22 3 24 g (i * 4) (n + 1 - i) c1 ⟨vb, 0, none⟩ 1 1 N1 24 (Rw.cells2 p) 1 4 Try.underlying22 (by kernel_rfl) (setRow_heap _ _ cur _ 24 (0, 0) (by rw [hW2]; exact hg)) (by show 1 = min _ _; omega) rfl (fun j u hj => by
     rw [hadd]
     have hv2 : (W2.setRow g N1).heap[vb]? = some (.cells #[.int .i64 p.f0, .int .i64 p.f1, .int .i64 p.f2, .bool p.f3] 24 (0, 0)) := by rw [setRow_other _ _ _ _ (fun e => hgv e.symm), hW2]; exact hV
     rw [Nat.zero_add, blk_cell hv2]
     simpa [Rw.cells2] using hj) (by rw [hN1s, hcs]; simp only [Rw.cells2, List.length_cons, List.length_nil]; omega) hpl1
    rw [← hN2] at h
    exact h
   have e1 : N1.toList.take (i * 4) = (Rw.flat xs).take (i * 4) := by
    rw [hN1, List.toList_toArray, List.append_assoc, List.take_append_of_le_length (by rw [List.length_take, hcl]; omega), List.take_take, Nat.min_eq_left (by omega), ← htk, List.take_take, Nat.min_eq_left (by omega)]
   have e2 : N1.toList.drop (i * 4 + 4) = flat2 xs i ++ cur.toList.drop ((i + 1) * 4 + (flat2 xs i).length) := by
    have hl2 : (cur.toList.take ((i + 1) * 4)).length = i * 4 + 4 := by rw [List.length_take, hcl]; omega
    rw [hN1, List.toList_toArray, List.append_assoc, ← hl2, List.drop_left]
   have hNew : N2.toList.take ((n + 1) * 4) = Rw.flat (xs.take i ++ p :: xs.drop i) := by
    have hln : ((Rw.flat xs).take (i * 4) ++ Rw.cells2 p ++ flat2 xs i).length = (n + 1) * 4 := by
     rw [List.length_append, List.length_append, List.length_take, Rw.flat_len, hXl, hn, show (Rw.cells2 p).length = 4 from rfl]; omega
    rw [hN2, List.toList_toArray, e1, show (Rw.cells2 p).length = 4 from rfl, e2, ← List.append_assoc, hfin, ← hln, List.take_left]
   have hov : ∀ lb cb, (callFunc 70 #[.slice (some ⟨vb, 0, none⟩) 1 1, .slice (some ⟨g, (i + 1) * 4, none⟩) lb cb]).run Try.prog W = .ok (.value (.bool false)) W := fun lb cb => by
    rw [run_callFunc_extern Try.func70 (by kernel_rfl) (by kernel_rfl) (by kernel_rfl) (e := Extern.SlicesOverlaps.overlaps #[22, 22] #[4]) (by kernel_rfl),
     Lib.run_overlaps_apart W 22 4 24 Try.underlying22 4 Try.sizeOf24 ⟨vb, 0, none⟩ ⟨g, (i + 1) * 4, none⟩ 1 1 lb cb (fun e => hgv e.symm) 24 24 4 cur.size (by simp [World.shape?, hV]) (by simp [World.shape?, hg]) (by rw [hcs]; omega) (blk_frozen hV 0) (blk_frozen hV 4)]
    rfl
   have HFR := Aside0.mk (Rw.flat_R (w := (W.drew.setRow g N1).setRow g N2) (base := base) (ok := fun _ => True) (v := .slice (some ⟨g, 0, none⟩) (n + 1) c) (xs := xs.take i ++ p :: xs.drop i) ⟨Rw.flat_len _, .inr ⟨g, c, N2, by rw [hflen], hbg, setRow_heap _ _ N1 _ 24 (0, 0) (setRow_heap _ _ cur _ 24 (0, 0) hg), by rw [hflen]; exact hcap', HCM.out, by rw [hN2s, hcs], by rw [hflen]; exact hNew⟩⟩ (fun _ _ => trivial))
   have HBE := Aside0.mk (Rw.below_turn (Rw.below_turn (below_drew1 (Below.refl base W)) hbg N1) hbg N2)
   have hcb : decide ((c : Int) < (n : Int) + 1) = false := decide_eq_false (by omega)
   have hci1 : ¬ (c = i + 1) := by omega
   have g1 : (0 : Int) ≤ (n : Int) + 1 := by omega
   have g2 : ((n : Int) + 1).toNat = n + 1 := by omega
   have g3 : (0 : Int) ≤ (i : Int) + 1 := by omega
   have g4 : ((i : Int) + 1).toNat = i + 1 := by omega
   have g5 : (i : Int) + 1 ≤ (n : Int) + 1 := by omega
   have g6 : i ≤ n + 1 := by omega
   have g12 : (i : Int) ≤ (n : Int) + 1 := by omega
   have g7 : (n : Int) + 1 ≤ (c : Int) := by omega
   have g8 := HW1.out
   have g9 := HW3.out
   have g10 := hr1 W.drew rfl
   have g11 := hr2 W.drew rfl
   clear e1 e2 hNew hN1 hN2 hN1s hN2s hN1l hr1 hr2 hcap hfin hflen hXl hfl1 hpl1 hadd hcells hcl hcs htk hg hV hO hne hl hlt hp0 hi hn hin hnc hglt hvlt hgv hbg
   go_enter Try.func42, Try.ntmps42
   go_wp2
   have G10 := Aside0.mk g10
   have G11 := Aside0.mk g11
   clear g10 g11
   refine start_ (n := 9) (S := fun w' => True) (ds := []) #[false, false, false, false, false, false, false, false, false] (by kernel_rfl) rfl rfl trivial (fun hHeld => ?_)
   refine pure_ (i := 0) (N := some 69) (v := ?_) (a' := ?_) #[true, false, false, false, false, false, false, false, false] rfl rfl (by kernel_rfl) (fun _ _ _ h => h) (Or.inl ⟨by rfl, ?_⟩) ?_ ?_;rotate_left;(intro w';go_simp;with_reducible rfl);rotate_left;(simp only [Act.put, sIb, sC0, sCs, i64_w, i32_w];rfl);refine pure_ (i := 1) (N := some 70) (v := ?_) (a' := ?_) #[true, true, false, false, false, false, false, false, false] rfl rfl (by kernel_rfl) (fun _ _ _ h => h) (Or.inl ⟨by rfl, ?_⟩) ?_ ?_;rotate_left;(intro w';go_simp;with_reducible rfl);rotate_left;(simp only [Act.put, sIb, sC0, sCs, i64_w, i32_w];rfl);refine pure_ (i := 2) (N := some 71) (v := ?_) (a' := ?_) #[true, true, true, false, false, false, false, false, false] rfl rfl (by kernel_rfl) (fun _ _ _ h => h) (Or.inl ⟨by rfl, ?_⟩) ?_ ?_;rotate_left;(intro w';go_simp;with_reducible rfl);rotate_left;(simp only [Act.put, sIb, sC0, sCs, i64_w, i32_w];rfl);refine pure_ (i := 3) (N := some 72) (v := ?_) (a' := ?_) #[true, true, true, true, false, false, false, false, false] rfl rfl (by kernel_rfl) (fun _ _ _ h => h) (Or.inl ⟨by rfl, ?_⟩) ?_ ?_;rotate_left;(intro w';go_simp;with_reducible rfl);rotate_left;(simp only [Act.put, sIb, sC0, sCs, i64_w, i32_w];rfl);refine pure_ (i := 4) (N := some 73) (v := ?_) (a' := ?_) #[true, true, true, true, true, false, false, false, false] rfl rfl (by kernel_rfl) (fun _ _ _ h => h) (Or.inl ⟨by rfl, ?_⟩) ?_ ?_;rotate_left;(intro w';go_simp;with_reducible rfl);rotate_left;(simp only [Act.put, sIb, sC0, sCs, i64_w, i32_w];rfl);refine pure_ (i := 5) (N := some 74) (v := ?_) (a' := ?_) #[true, true, true, true, true, true, false, false, false] rfl rfl (by kernel_rfl) (fun _ _ _ h => h) (Or.inl ⟨by rfl, ?_⟩) ?_ ?_;rotate_left;(intro w';go_simp;with_reducible rfl);rotate_left;(simp only [Act.put, sIb, sC0, sCs, i64_w, i32_w];rfl);refine pure_ (i := 6) (N := some 75) (v := ?_) (a' := ?_) #[true, true, true, true, true, true, true, false, false] rfl rfl (by kernel_rfl) (fun _ _ _ h => h) (Or.inl ⟨by rfl, ?_⟩) ?_ ?_;rotate_left;(intro w';go_simp;with_reducible rfl);rotate_left;(simp only [Act.put, sIb, sC0, sCs, i64_w, i32_w];rfl);refine pure_ (i := 7) (N := some 76) (v := ?_) (a' := ?_) #[true, true, true, true, true, true, true, true, false] rfl rfl (by kernel_rfl) (fun _ _ _ h => h) (Or.inl ⟨by rfl, ?_⟩) ?_ ?_;rotate_left;(intro w';go_simp;with_reducible rfl);rotate_left;(simp only [Act.put, sIb, sC0, sCs, i64_w, i32_w];rfl)
   refine one_ (i := 8) (N := some 77) #[true, true, true, true, true, true, true, true, true] rfl rfl (by kernel_rfl) (by decide) (fun K hK => ?_)
   refine Rw.copy_step W.drew (by rfl) (.tmp 73) (.tmp 76) 22 22 rfl (.slice (some ⟨g, (i + 1) * 4, none⟩) (n - i) (c - (i + 1))) (.slice (some ⟨g, i * 4, none⟩) (n + 1 - i) (c - i)) rfl rfl (v' := goInt ((n - i : Nat) : Int)) (w' := W.drew.setRow g N1) (G10.out _ _) ?_
   refine hK.out _ _ trivial (fun hHeld => ?_)
   clear hK K;refine norm_ (a' := ?_) ?_ ?_;rotate_left
   ·show Act.put _ (some 77) _ = _
    simp only [Act.put, sIb, sC0, sCs, i64_w, i32_w];rfl
   refine done_ (by kernel_rfl) ?_
   have g11 := G11.out
   go_wp2;go_ret
   exact ⟨_, rfl, HFR.out, HBE.out⟩
end Go.Proofs.Ytopmjjnkolfciaa.Pr
end
section
namespace Go.Proofs.Ytopmjjnkolfciaa.Pr
open Go.RowKit Go.Proofs.YtopmjjnkolfciaaW.PrintWords Go.Proofs.YtopmjjnkolfciaaW.PrintLast Go.Proofs.YtopmjjnkolfciaaW.PrintMore
attribute [local go_sem] max2_int min2_int max_two min_two max_three min_three max_four min_four
attribute [local go_sem] Go.Proofs.Ytopmjjnkolfciaa.Hl.str_geq Go.Proofs.Ytopmjjnkolfciaa.Hl.str_gtr Go.Proofs.Ytopmjjnkolfciaa.Hl.str_leq
set_option linter.unusedVariables false
set_option linter.unusedSimpArgs false
theorem eqIn_nil {P : Program} (w : World) (d : Nat) (t e : TypeId) (a : Option Addr) (n c n' c' : Nat) (h : P.underlying t = some (.slice e)) : (Op.equalIn (d + 1) t (.slice a n c) (.slice none n' c')).run P w = .ok a.isNone w := by
 cases a <;> simp [Op.equalIn, run_underlying h]
theorem eql_nil {P : Program} (w : World) (t e : TypeId) (a : Option Addr) (n c n' c' : Nat) (h : P.underlying t = some (.slice e)) : (binOp .eql t (.slice a n c) (.slice none n' c')).run P w = .ok (.bool a.isNone) w := by
 simp only [binOp]
 simp [Op.equal, Op.maxDepth, eqIn_nil w 9999 t e a n c n' c' h]
def api_Extent_43.f (l0 : List S24) : Option (List S24) := if l0.length < 4398046511104 then some l0 else none
set_option maxHeartbeats 8000000 in
set_option maxRecDepth 100000 in
theorem api_Extent_43.calls (A0 : Option Addr) (c0 : Nat) (l0 : List (S24)) (r : List (S24)) (w : World) (hr0 : Kd.C k24 w A0 l0.length l0) (hc0 : l0.length ≤ c0) (h : api_Extent_43.f l0 = some r) :
  Calls Try.prog 43 #[.slice A0 l0.length c0] w fun e w' => ∃ v0_ : Value, e = .returned (v0_) ∧ Kd.R k24 24 w' w.heap.size (fun _ => True) v0_ r ∧ Below w.heap.size w w' := by
 unfold api_Extent_43.f at h
 by_cases hl : l0.length < 4398046511104
 ·rw [if_pos hl] at h
  obtain rfl := Option.some.inj h
  have hu26 := Try.underlying24
  cases A0 with
  | none =>
   obtain rfl : l0 = [] := by
    rcases Nat.eq_zero_or_pos l0.length with h0 | h0
    ·exact List.eq_nil_of_length_eq_zero h0
    ·obtain ⟨ad, e, _⟩ := hr0.2.2 h0
     cases e
   clear hr0
   have hq := fun W : World => eql_nil (P := Try.prog) W 22 24 none 0 c0 0 0 Try.underlying22
   simp only [Option.isNone_none] at hq
   go_enter Try.func43, Try.ntmps43
   go_wp2;go_ret
   exact ⟨_, rfl, Kd.R_nil _ _ _ _ _, Below.refl _ _⟩
  | some ad =>
   have HR0 := Aside0.mk hr0
   have HC0 := Aside0.mk hc0
   have HL := Aside0.mk hl
   clear hr0 hc0 hl h
   have hq := fun W : World => eql_nil (P := Try.prog) W 22 24 (some ad) l0.length c0 0 0 Try.underlying22
   simp only [Option.isNone_some] at hq
   go_enter Try.func43, Try.ntmps43
   go_wp2_with (first | ((with_reducible refine gate_builtin (b := .append) (xs := #[.tmp 5, .tmp 6]) rfl ?_); at_builtin; refine Kd.R_append_rows k24 (w0 := w) w.heap.size rfl (.tmp 5) (.tmp 6) 22 24 (.agg #[(.int .i64 0), (.int .i64 0), (.int .i64 0), (.bool false)]) 32 rfl Try.underlying22 info24 rfl (by decide) (by omega) v1 [] l0 _ _ _ (fun _ => True) (fun _ => False) rfl rfl ho1.out (Kd.C_below HR0.out hb1.out) (fun _ _ h => h) (fun _ h => h.elim) (fun _ _ => trivial) hb1.out hb1.out.size (by have := HL.out; simp only [List.length_nil]; omega) ?_; intro v2 w2 ho2 hb2 hg2 hat2; rw [List.nil_append] at ho2; have HO2 := Aside0.mk ho2; have HB2 := Aside0.mk hb2; clear ho2 hb2 hg2 hat2) | ((with_reducible refine gate_dst (N := 5) rfl ?_); refine Kd.R_lit k24 (w0 := w) _ 24 ?hg (N := 5) ?hd (xs := ([] : List S24)) (inner := []) (ok := fun _ => True) (okp := fun _ => True) ?hr ?hp (fun _ hk => hk) trivial (Below.refl _ _) (Nat.le_refl _) (by simp) ?_; (case hd => rfl); (case hg => rfl); (case hr => first | (go_simp; done) | (go_simp; rfl)); (case hp => exact (Reps.none _ _)); intro v1 w1 ho1' hb1' hg1 hn1; have ho1 := Aside0.mk ho1'; have hb1 := Aside0.mk hb1'; clear ho1' hb1' hg1 hn1))
   go_ret
   exact ⟨_, rfl, HO2.out, HB2.out⟩
 ·rw [if_neg hl] at h
  cases h
end Go.Proofs.Ytopmjjnkolfciaa.Pr
end
