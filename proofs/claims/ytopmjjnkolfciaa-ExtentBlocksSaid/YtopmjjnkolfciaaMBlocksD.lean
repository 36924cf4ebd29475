/- MBlocks: this session's texts for the one law, put together (part 4 of 6): what its program computes, function by function, and that this answers true; the row stands at the end of the last part. Conditions: those that each theorem names; the last theorem has none. -/
import Derived.Shelf.RegionOpen
import Derived.OwnWalkIn
import Derived.TacticsInMore
import Derived.LoopNIn
import Derived.LoopIn
import Derived.Outline
import Derived.Maps.OwnIn
import Derived.Test.YtopmjjnkolfciaaMBlocksC
section
namespace Go.Proofs.Ytopmjjnkolfciaa.Pr
open Go Go.RowKit Go.Shelf Go.Proofs.YtopmjjnkolfciaaW.PrintWords Go.Proofs.YtopmjjnkolfciaaW.PrintLast Go.Proofs.YtopmjjnkolfciaaW.PrintMore Go.Proofs.Ytopmjjnkolfciaa.Sq
attribute [local go_sem] max2_int min2_int max_two min_two max_three min_three max_four min_four
set_option linter.unusedVariables false
set_option linter.unusedSimpArgs false
def OffRow (W : World) (b k : Nat) : Prop := ∀ v, W.cell? ⟨b, 0, none⟩ = some v → v.ownBlock ≠ some k
def Free (d : Nat) (bs : List Nat) (W : World) (k : Nat) : Prop := k ≠ d + 1 ∧ ∀ b ∈ bs, k ≠ b ∧ OffRow W b k
def KpF (d : Nat) (bs : List Nat) (W W' : World) : Prop := W.heap.size ≤ W'.heap.size ∧ ∀ k cs t, W.heap[k]? = some (.cells cs t (0, 0)) → Free d bs W k → W'.heap[k]? = some (.cells cs t (0, 0)) ∧ Free d bs W' k
theorem KpF.trans {d : Nat} {bs : List Nat} {A B C : World} (h : KpF d bs A B) (g : KpF d bs B C) : KpF d bs A C :=
  ⟨Nat.le_trans h.1 g.1, fun k cs t hk hf => by
    obtain ⟨h1, h2⟩ := h.2 k cs t hk hf
    exact g.2 k cs t h1 h2⟩
theorem cell_of_heap {A B : World} {b : Nat} (h : B.heap[b]? = A.heap[b]?) : B.cell? ⟨b, 0, none⟩ = A.cell? ⟨b, 0, none⟩ := by
  unfold World.cell?; rw [h]
theorem KpF.put {d : Nat} {bs : List Nat} (hb : ∀ b ∈ bs, b < d) (W : World) (o : Obj) : KpF d bs W (W.putObj (d + 1) o) :=
  ⟨by simp [World.putObj], fun k cs t hk hf => ⟨(World.putObj_heap_other hf.1).trans hk, hf.1, fun b hbb => ⟨(hf.2 b hbb).1, fun v hv => (hf.2 b hbb).2 v (by
    rw [cell_of_heap (World.putObj_heap_other (by have := hb b hbb; omega))] at hv; exact hv)⟩⟩⟩
theorem Free.below {d : Nat} {bs : List Nat} {A B : World} {k : Nat} (hA : ∀ b ∈ bs, b < A.heap.size) (h : Below A.heap.size A B) (hf : Free d bs A k) : Free d bs B k :=
  ⟨hf.1, fun b hb => ⟨(hf.2 b hb).1, fun v hv => (hf.2 b hb).2 v (by
    rw [cell_of_heap (h.block b (hA b hb))] at hv; exact hv)⟩⟩
set_option maxHeartbeats 4000000 in
set_option maxRecDepth 100000 in
theorem part_calls (e : S24) (a b : Int) (W : World) (hm : mayE e = true) (ha0 : 0 ≤ a) (ha : a ≤ 256) (hb0 : 0 ≤ b) (hb : b ≤ 256) :
    Calls Try.prog 67 #[.agg #[.int .i64 e.f0, .int .i64 e.f1, .int .i64 e.f2, .bool e.f3], .int .i64 a, .int .i64 b] W fun r w' => r = .returned (.agg #[.int .i64 (partE e a b).f0, .int .i64 (partE e a b).f1, .int .i64 (partE e a b).f2, .bool (partE e a b).f3]) ∧ Below W.heap.size W w' := by
  have hu24 := Try.underlying24
  have hmm := mayE_facts hm
  obtain ⟨s1, hs1⟩ : ∃ s1, e.f1 + a = s1 := ⟨_, rfl⟩
  obtain ⟨s2, hs2⟩ : ∃ s2, e.f1 + (a - e.f0) = s2 := ⟨_, rfl⟩
  obtain ⟨s3, hs3⟩ : ∃ s3, b - a = s3 := ⟨_, rfl⟩
  have hw1 : wrap64 (e.f1 + a) = s1 := by unfold wrap64; omega
  have hw2 : wrap64 (s1 - e.f0) = s2 := by unfold wrap64; omega
  have hw3 : wrap64 (b - a) = s3 := by unfold wrap64; omega
  have HR := Aside0.mk (show partE e a b = ⟨a, s2, s3, e.f3⟩ by unfold partE; rw [hs2, hs3])
  clear hs1 hs2 hs3 hm hmm ha0 ha hb0 hb
  rw [HR.out]
  go_enter Try.func67, Try.ntmps67
  go_wp2
  exact bodyPost_ret (v := .agg #[.int .i64 a, .int .i64 s2, .int .i64 s3, .bool e.f3]) (by simp [results, Try.results67, go_sem]) rfl ⟨rfl, ((Below.refl _ _).alloc (Nat.le_refl _) _).alloc (by simp) _⟩
theorem if_maxI (x y m : Int) (h : max x y = m) : (if x < y then y else x) = m := by rw [← h]; split <;> omega
theorem if_minI (m e a : Int) (h : min m e = a) : (if e < m then e else m) = a := by rw [← h]; split <;> omega
theorem pieces_len3 (e : S24) (lo hi : Int) : (pieces3 e lo hi).length ≤ 3 := by
  unfold pieces3
  rw [List.length_append, List.length_append]
  have h : ∀ (c : Prop) [Decidable c] (q : S24 × Bool), (if c then [q] else []).length ≤ 1 := fun c _ q => by split <;> simp
  have h1 := h (e.f0 < cA e lo) (partE e e.f0 (cA e lo), false)
  have h2 := h (cA e lo < cA e hi) (partE e (cA e lo) (cA e hi), true)
  have h3 := h (max (cA e lo) (cA e hi) < e.f0 + e.f2) (partE e (max (cA e lo) (cA e hi)) (e.f0 + e.f2), false)
  omega
theorem piecesL_len (l : List S24) (lo hi : Int) : (piecesL l lo hi).length ≤ 3 * l.length := by
  induction l with
  | nil => simp [piecesL]
  | cons e l ih =>
    have := pieces_len3 e lo hi
    unfold piecesL at *
    rw [List.flatMap_cons, List.length_append, List.length_cons]
    omega
structure Own1 (d : Nat) (bs : List Nat) (W : World) (k : Nat) (cs : Array Value) (t : TypeId) : Prop where
  at_ : W.heap[k]? = some (.cells cs t (0, 0))
  free : Free d bs W k
theorem Own1.kept {d : Nat} {bs : List Nat} {A B : World} {k : Nat} {cs : Array Value} {t : TypeId} (h : Own1 d bs A k cs t) (hk : KpF d bs A B) : Own1 d bs B k cs t := by
  obtain ⟨h1, h2⟩ := hk.2 k _ _ h.at_ h.free
  exact ⟨h1, h2⟩
theorem Own1.below {d : Nat} {bs : List Nat} {A B : World} {k : Nat} {cs : Array Value} {t : TypeId} (h : Own1 d bs A k cs t) (hA : ∀ b ∈ bs, b < A.heap.size) (hk : Below A.heap.size A B) : Own1 d bs B k cs t :=
  ⟨blk_below h.at_ hk, h.free.below hA hk⟩
end Go.Proofs.Ytopmjjnkolfciaa.Pr
end
section
namespace Go.Proofs.Ytopmjjnkolfciaa.Pr
open Go.RowKit Go.Proofs.YtopmjjnkolfciaaW.PrintWords Go.Proofs.YtopmjjnkolfciaaW.PrintLast Go.Proofs.YtopmjjnkolfciaaW.PrintMore
attribute [local go_sem] max2_int min2_int max_two min_two max_three min_three max_four min_four
attribute [local go_sem] Go.Proofs.Ytopmjjnkolfciaa.Hl.str_geq Go.Proofs.Ytopmjjnkolfciaa.Hl.str_gtr Go.Proofs.Ytopmjjnkolfciaa.Hl.str_leq
set_option linter.unusedVariables false
set_option linter.unusedSimpArgs false
open Go.Shelf Go.Proofs.Ytopmjjnkolfciaa.Sq in
set_option maxHeartbeats 8000000 in
set_option maxRecDepth 100000 in
theorem split_in (n : Nat) (hn : 1 ≤ n) (l d : Nat) (bs : List Nat) (hbs : ∀ b ∈ bs, b < d) (bl bf bt : Nat) (A0 : Option Addr) (c0 : Nat) (L : List S24) (hc0 : L.length ≤ c0) (hL : L.length ≤ 60) (hall : ∀ e ∈ L, mayE e = true) (lo hi : Nat)
  (I : List (S24 × Bool) → World → Prop) (R : World → Prop) (Rx : Code → World → Prop) (N : Nat) (hN : 180 ≤ N)
  (hIC : ∀ pre W, I pre W → Kd.C k24 W A0 L.length L) (hIB : ∀ pre W W', I pre W → Below W.heap.size W W' → I pre W') (hIO : ∀ pre W, I pre W → ∀ k, W.heap.size ≤ k → ∀ b ∈ bs, OffRow W b k) (hRB : ∀ W W', R W → Below W.heap.size W W' → R W') (hRd : ∀ W, R W → d + 1 < W.heap.size)
  (hY : ∀ pre x W1, I pre W1 → R W1 → pre.length < N → YieldAt Fence.wide (n - 1) Try.prog l #[.agg #[.int .i64 x.1.f0, .int .i64 x.1.f1, .int .i64 x.1.f2, .bool x.1.f3], .bool x.2] W1 fun e W' =>
    (e = .returned (.bool true) ∧ I (pre ++ [x]) W' ∧ R W' ∧ KpF d bs W1 W') ∨ (e = .returned (.bool false) ∧ ∃ c : Code, False ∧ Rx c W'))
  (W : World) (hl : Own1 d bs W bl #[.slice A0 L.length c0] 22) (hf : Own1 d bs W bf #[.int .i64 lo] 3) (ht : Own1 d bs W bt #[.int .i64 hi] 3) (h0 : I [] W) (hr0 : R W) :
  CallsIn Fence.wide n Try.prog 66 #[.func (.yield l) #[] #[], .pointer (some ⟨bl, 0, none⟩), .pointer (some ⟨bf, 0, none⟩), .pointer (some ⟨bt, 0, none⟩)] W fun e W' => (∃ v, e = .returned v) ∧ I (piecesL L lo hi) W' ∧ R W' := by
 refine callsIn_of_wp Try.func66 rfl trivial ?_ rfl
 simp only [Try.ntmps66, List.size_toArray, List.length_cons, List.length_nil, Nat.reduceAdd, Nat.reduceSub, Array.replicate_succ, Array.replicate_zero, List.push_toArray, List.append_toArray, List.nil_append, List.cons_append]
 refine wpIn_wide.2 ?_
 have HL := Aside0.mk hl
 have HF := Aside0.mk hf
 have HT := Aside0.mk ht
 have HC0 := Aside0.mk hc0
 have HLL := Aside0.mk hL
 have HALL := Aside0.mk hall
 have H0 := Aside0.mk h0
 have HR0 := Aside0.mk hr0
 have hcl := (blk_cell hl.at_ 0).trans rfl
 clear hl hf ht hc0 hL hall h0 hr0;go_wp2;clear hcl
 go_loopg [11] L.length (fun kq v11 w' => ∃ (i : Nat), v11 = .int .i64 (i : Int) ∧ Aside0 (i + kq = L.length) ∧ Aside0 (I (piecesL (L.take i) lo hi) w') ∧ Aside0 (R w') ∧ Aside0 (Own1 d bs w' bl #[.slice A0 L.length c0] 22) ∧ Aside0 (Own1 d bs w' bf #[.int .i64 lo] 3) ∧ Aside0 (Own1 d bs w' bt #[.int .i64 hi] 3))
 case atStart => exact ⟨0, rfl, ⟨by omega⟩, H0, HR0, HL, HF, HT⟩
 case round =>
  obtain ⟨i, rfl, HK, HI, HR, HBL, HBF, HBT⟩ := hrel
  cases gk with
  | zero =>
   have ei : i = L.length := by have := HK.out; omega
   have hlt : decide (i < L.length) = false := decide_eq_false (by omega)
   have HI2 := Aside0.mk (show I (piecesL L lo hi) wr by have := HI.out; rwa [ei, List.take_length] at this)
   clear ei;go_wp2
   go_end0
   exact ⟨⟨_, rfl⟩, HI2.out, HR.out⟩
  | succ g =>
   have hil : i < L.length := by have := HK.out; omega
   have hlt : decide (i < L.length) = true := decide_eq_true (by omega)
   have hmay : mayE (rd_T24 L (i : Int)) = true := by rw [rd_in hil]; exact HALL.out _ (List.getElem_mem hil)
   have hi0 : (0 : Int) ≤ (i : Int) := by omega
   have hi1 : (i : Int) < (L.length : Int) := by omega
   have h0i : 0 ≤ (i : Int) ∧ (i : Int) < (L.length : Int) := ⟨hi0, hi1⟩
   obtain ⟨ad, ead, hca, hcb, hcc, hcd⟩ := at_T24 (hIC _ _ HI.out) (i : Int) hi0 hi1
   cases ead
   simp only [Int.toNat_natCast] at hca hcb hcc hcd
   obtain ⟨e, he⟩ : ∃ e, e = rd_T24 L (i : Int) := ⟨_, rfl⟩
   rw [← he] at hca hcb hcc hcd hmay
   have HE := Aside0.mk (show L.take (i + 1) = L.take i ++ [e] by rw [List.take_succ_eq_append_getElem hil, he, rd_in hil])
   have HMY := Aside0.mk hmay
   have HMM := Aside0.mk (mayE_facts hmay)
   clear he hmay;go_wp2
   have hiw : wrap64 ((i : Int) + 1) = ((i + 1 : Nat) : Int) := by have := HK.out; have := HLL.out; unfold wrap64; omega
   have HIW := Aside0.mk hiw
   have hsz := hRd _ HR.out
   have hbz : ∀ b ∈ bs, b < wr.heap.size := fun b hb => by have := hbs b hb; omega
   have hb1 := (Below.refl wr.heap.size wr).alloc (Nat.le_refl _) (.cells #[.int .i64 e.f0, .int .i64 e.f1, .int .i64 e.f2, .bool e.f3] 24)
   have HE1 : Aside0 (Own1 d bs _ wr.heap.size #[.int .i64 e.f0, .int .i64 e.f1, .int .i64 e.f2, .bool e.f3] 24) := ⟨⟨blk_new wr _, Free.below hbz hb1 ⟨by omega, fun b hb => ⟨by have := hbz b hb; omega, hIO _ _ HI.out _ (Nat.le_refl _) b hb⟩⟩⟩⟩
   have HI1 := Aside0.mk (hIB _ _ _ HI.out hb1)
   have HR1 := Aside0.mk (hRB _ _ HR.out hb1)
   have HBL1 := Aside0.mk (HBL.out.below hbz hb1)
   have HBF1 := Aside0.mk (HBF.out.below hbz hb1)
   have HBT1 := Aside0.mk (HBT.out.below hbz hb1)
   generalize wr.alloc (.cells #[.int .i64 e.f0, .int .i64 e.f1, .int .i64 e.f2, .bool e.f3] 24) = w1 at HE1 HI1 HR1 HBL1 HBF1 HBT1 ⊢
   generalize wr.heap.size = eb at HE1 ⊢
   clear hb1 hca hcb hcc hcd hiw hbz hsz
   obtain ⟨en, hen⟩ : ∃ en : Int, e.f0 + e.f2 = en := ⟨_, rfl⟩
   obtain ⟨m1, hm1⟩ : ∃ m1 : Int, max e.f0 (lo : Int) = m1 := ⟨_, rfl⟩
   obtain ⟨m2, hm2⟩ : ∃ m2 : Int, max e.f0 (hi : Int) = m2 := ⟨_, rfl⟩
   obtain ⟨a, ha⟩ : ∃ a : Int, min m1 en = a := ⟨_, rfl⟩
   obtain ⟨b, hb⟩ : ∃ b : Int, min m2 en = b := ⟨_, rfl⟩
   obtain ⟨mab, hmab⟩ : ∃ mab : Int, max a b = mab := ⟨_, rfl⟩
   have hx1 := if_maxI e.f0 lo m1 hm1
   have hx2 := if_maxI e.f0 hi m2 hm2
   have hx3 := if_minI m1 en a ha
   have hx4 := if_minI m2 en b hb
   have hx5 := if_maxI a b mab hmab
   have HA := Aside0.mk (show cA e lo = a by unfold cA; rw [hm1, hen, ha])
   have HB := Aside0.mk (show cA e hi = b by unfold cA; rw [hm2, hen, hb])
   have HMAB := Aside0.mk hmab
   have HBD := Aside0.mk (show 0 ≤ e.f0 ∧ e.f0 ≤ 256 ∧ 0 ≤ a ∧ a ≤ 256 ∧ 0 ≤ b ∧ b ≤ 256 ∧ 0 ≤ mab ∧ mab ≤ 256 ∧ 0 ≤ en ∧ en ≤ 256 by have := HMM.out; omega)
   have HEN := Aside0.mk hen
   have HENF := Aside0.mk (show extent_end.f e.f0 e.f1 e.f2 e.f3 = some en by unfold extent_end.f; congr 1; have := HMM.out; rw [hen]; unfold wrap64; omega)
   obtain ⟨P0, hP0⟩ : ∃ P0, P0 = piecesL (L.take i) lo hi := ⟨_, rfl⟩
   have HP := Aside0.mk hP0
   rw [← hP0] at HI1
   have HPN := Aside0.mk (show P0.length + 3 ≤ 180 by have := piecesL_len (L.take i) lo hi; rw [← hP0, List.length_take] at this; have := HLL.out; omega)
   have hce0 := (blk_cell HE1.out.at_ 0).trans rfl
   have hce1 := (blk_cell HE1.out.at_ 1).trans rfl
   have hce2 := (blk_cell HE1.out.at_ 2).trans rfl
   have hce3 := (blk_cell HE1.out.at_ 3).trans rfl
   have hcf := (blk_cell HBF1.out.at_ 0).trans rfl
   have hct := (blk_cell HBT1.out.at_ 0).trans rfl
   clear hen hm1 hm2 ha hb hmab hP0
   refine start_ (n := 16) (S := fun w' => w'.cell? ⟨eb, 0, none⟩ = some (.int .i64 e.f0) ∧ w'.cell? ⟨eb, 1, none⟩ = some (.int .i64 e.f1) ∧ w'.cell? ⟨eb, 2, none⟩ = some (.int .i64 e.f2) ∧ w'.cell? ⟨eb, 3, none⟩ = some (.bool e.f3) ∧ w'.cell? ⟨bf, 0, none⟩ = some (.int .i64 (lo : Int)) ∧ w'.cell? ⟨bt, 0, none⟩ = some (.int .i64 (hi : Int))) (ds := []) #[false, false, false, false, false, false, false, false, false, false, false, false, false, false, false, false] (by kernel_rfl) rfl rfl ⟨hce0, hce1, hce2, hce3, hcf, hct⟩ (fun hHeld => ?_)
   refine pure_ (i := 0) (N := some 15) (v := ?_) (a' := ?_) #[true, false, false, false, false, false, false, false, false, false, false, false, false, false, false, false] rfl rfl (by kernel_rfl) (fun _ _ _ h => h) (Or.inl ⟨by rfl, ?_⟩) ?_ ?_;rotate_left;(intro w';go_simp;with_reducible rfl);rotate_left;(simp only [Act.put, sIb, sC0, sCs, i64_w, i32_w];rfl);refine pure_ (i := 7) (N := some 22) (v := ?_) (a' := ?_) #[true, false, false, false, false, false, false, true, false, false, false, false, false, false, false, false] rfl rfl (by kernel_rfl) (fun _ _ _ h => h) (Or.inl ⟨by rfl, ?_⟩) ?_ ?_;rotate_left;(intro w';go_simp;with_reducible rfl);rotate_left;(simp only [Act.put, sIb, sC0, sCs, i64_w, i32_w];rfl);refine take_ (i := 1) (N := some 16) (v := ?_) (a' := ?_) #[true, true, false, false, false, false, false, true, false, false, false, false, false, false, false, false] rfl rfl (by kernel_rfl) (fun _ _ _ h => h) (Or.inl ⟨by rfl, ?_⟩) hHeld ?_ ?_;rotate_left
   ·rintro w' ⟨s0, s1, s2, s3, s4, s5⟩
    go_simp;with_reducible rfl
   rotate_left;(simp only [Act.put, sIb, sC0, sCs, i64_w, i32_w];rfl);refine take_ (i := 2) (N := some 17) (v := ?_) (a' := ?_) #[true, true, true, false, false, false, false, true, false, false, false, false, false, false, false, false] rfl rfl (by kernel_rfl) (fun _ _ _ h => h) (Or.inl ⟨by rfl, ?_⟩) hHeld ?_ ?_;rotate_left
   ·rintro w' ⟨s0, s1, s2, s3, s4, s5⟩
    go_simp;with_reducible rfl
   rotate_left;(simp only [Act.put, sIb, sC0, sCs, i64_w, i32_w];rfl);refine pure_ (i := 3) (N := some 18) (v := ?_) (a' := ?_) #[true, true, true, true, false, false, false, true, false, false, false, false, false, false, false, false] rfl rfl (by kernel_rfl) (fun _ _ _ h => h) (Or.inl ⟨by rfl, ?_⟩) ?_ ?_;rotate_left;(intro w';go_simp;with_reducible rfl);rotate_left;(simp only [Act.put, sIb, sC0, sCs, i64_w, i32_w];rfl);refine take_ (i := 4) (N := some 19) (v := ?_) (a' := ?_) #[true, true, true, true, true, false, false, true, false, false, false, false, false, false, false, false] rfl rfl (by kernel_rfl) (fun _ _ _ h => h) (Or.inl ⟨by rfl, ?_⟩) hHeld ?_ ?_;rotate_left
   ·rintro w' ⟨s0, s1, s2, s3, s4, s5⟩
    go_simp;with_reducible rfl
   rotate_left;(simp only [Act.put, sIb, sC0, sCs, i64_w, i32_w];rfl);refine take_ (i := 8) (N := some 23) (v := ?_) (a' := ?_) #[true, true, true, true, true, false, false, true, true, false, false, false, false, false, false, false] rfl rfl (by kernel_rfl) (fun _ _ _ h => h) (Or.inl ⟨by rfl, ?_⟩) hHeld ?_ ?_;rotate_left
   ·rintro w' ⟨s0, s1, s2, s3, s4, s5⟩
    go_simp;with_reducible rfl
   rotate_left;(simp only [Act.put, sIb, sC0, sCs, i64_w, i32_w];rfl);refine take_ (i := 9) (N := some 24) (v := ?_) (a' := ?_) #[true, true, true, true, true, false, false, true, true, true, false, false, false, false, false, false] rfl rfl (by kernel_rfl) (fun _ _ _ h => h) (Or.inl ⟨by rfl, ?_⟩) hHeld ?_ ?_;rotate_left
   ·rintro w' ⟨s0, s1, s2, s3, s4, s5⟩
    go_simp;with_reducible rfl
   rotate_left;(simp only [Act.put, sIb, sC0, sCs, i64_w, i32_w];rfl);refine pure_ (i := 10) (N := some 25) (v := ?_) (a' := ?_) #[true, true, true, true, true, false, false, true, true, true, true, false, false, false, false, false] rfl rfl (by kernel_rfl) (fun _ _ _ h => h) (Or.inl ⟨by rfl, ?_⟩) ?_ ?_;rotate_left;(intro w';go_simp;with_reducible rfl);rotate_left;(simp only [Act.put, sIb, sC0, sCs, i64_w, i32_w];rfl);refine take_ (i := 11) (N := some 26) (v := ?_) (a' := ?_) #[true, true, true, true, true, false, false, true, true, true, true, true, false, false, false, false] rfl rfl (by kernel_rfl) (fun _ _ _ h => h) (Or.inl ⟨by rfl, ?_⟩) hHeld ?_ ?_;rotate_left
   ·rintro w' ⟨s0, s1, s2, s3, s4, s5⟩
    go_simp;with_reducible rfl
   rotate_left;(simp only [Act.put, sIb, sC0, sCs, i64_w, i32_w];rfl)
   refine one_ (i := 5) (N := some 20) #[true, true, true, true, true, true, false, true, true, true, true, true, false, false, false, false] rfl rfl (by kernel_rfl) (by decide) (fun K hK => ?_)
   refine goes_ Try.func35 (by kernel_rfl) rfl #[.agg #[.int .i64 e.f0, .int .i64 e.f1, .int .i64 e.f2, .bool e.f3]] (by rfl) rfl rfl (by simp only [List.map_toArray, List.map_cons, List.map_nil]; rfl) ?_
   with_reducible refine (extent_end.calls e.f0 e.f1 e.f2 e.f3 en _ HENF.out).mono ?_
   rintro e5 w5 ⟨rfl, hb5⟩
   refine ⟨_, rfl, ?_⟩
   refine hK.out _ _ ⟨(hb5.cell (World.block_lt_of_cell? _ _ hHeld.1)).trans hHeld.1, (hb5.cell (World.block_lt_of_cell? _ _ hHeld.2.1)).trans hHeld.2.1, (hb5.cell (World.block_lt_of_cell? _ _ hHeld.2.2.1)).trans hHeld.2.2.1, (hb5.cell (World.block_lt_of_cell? _ _ hHeld.2.2.2.1)).trans hHeld.2.2.2.1, (hb5.cell (World.block_lt_of_cell? _ _ hHeld.2.2.2.2.1)).trans hHeld.2.2.2.2.1, (hb5.cell (World.block_lt_of_cell? _ _ hHeld.2.2.2.2.2)).trans hHeld.2.2.2.2.2⟩ (fun hHeld => ?_)
   clear hK K;refine norm_ (a' := ?_) ?_ ?_;rotate_left
   ·show Act.put _ (some 20) _ = _
    simp only [Act.put, sIb, sC0, sCs, i64_w, i32_w];rfl
   refine pure_ (i := 6) (N := some 21) (v := ?_) (a' := ?_) #[true, true, true, true, true, true, true, true, true, true, true, true, false, false, false, false] rfl rfl (by kernel_rfl) (fun _ _ _ h => h) (Or.inl ⟨by rfl, ?_⟩) ?_ ?_;rotate_left;(intro w';go_simp;with_reducible rfl);rotate_left;(simp only [Act.put, sIb, sC0, sCs, i64_w, i32_w];rfl)
   refine one_ (i := 12) (N := some 27) #[true, true, true, true, true, true, true, true, true, true, true, true, true, false, false, false] rfl rfl (by kernel_rfl) (by decide) (fun K hK => ?_)
   refine goes_ Try.func35 (by kernel_rfl) rfl #[.agg #[.int .i64 e.f0, .int .i64 e.f1, .int .i64 e.f2, .bool e.f3]] (by rfl) rfl rfl (by simp only [List.map_toArray, List.map_cons, List.map_nil]; rfl) ?_
   with_reducible refine (extent_end.calls e.f0 e.f1 e.f2 e.f3 en _ HENF.out).mono ?_
   rintro e6 w6 ⟨rfl, hb6⟩
   refine ⟨_, rfl, ?_⟩
   refine hK.out _ _ ⟨(hb6.cell (World.block_lt_of_cell? _ _ hHeld.1)).trans hHeld.1, (hb6.cell (World.block_lt_of_cell? _ _ hHeld.2.1)).trans hHeld.2.1, (hb6.cell (World.block_lt_of_cell? _ _ hHeld.2.2.1)).trans hHeld.2.2.1, (hb6.cell (World.block_lt_of_cell? _ _ hHeld.2.2.2.1)).trans hHeld.2.2.2.1, (hb6.cell (World.block_lt_of_cell? _ _ hHeld.2.2.2.2.1)).trans hHeld.2.2.2.2.1, (hb6.cell (World.block_lt_of_cell? _ _ hHeld.2.2.2.2.2)).trans hHeld.2.2.2.2.2⟩ (fun hHeld => ?_)
   clear hK K;refine norm_ (a' := ?_) ?_ ?_;rotate_left
   ·show Act.put _ (some 27) _ = _
    simp only [Act.put, sIb, sC0, sCs, i64_w, i32_w];rfl
   refine pure_ (i := 13) (N := some 28) (v := ?_) (a' := ?_) #[true, true, true, true, true, true, true, true, true, true, true, true, true, true, false, false] rfl rfl (by kernel_rfl) (fun _ _ _ h => h) (Or.inl ⟨by rfl, ?_⟩) ?_ ?_;rotate_left;(intro w';go_simp;with_reducible rfl);rotate_left;(simp only [Act.put, sIb, sC0, sCs, i64_w, i32_w];rfl);refine pure_ (i := 14) (N := some 7) (v := ?_) (a' := ?_) #[true, true, true, true, true, true, true, true, true, true, true, true, true, true, true, false] rfl rfl (by kernel_rfl) (fun _ _ _ h => h) (Or.inl ⟨by rfl, ?_⟩) ?_ ?_;rotate_left;(intro w';go_simp;with_reducible rfl);rotate_left;(simp only [Act.put, sIb, sC0, sCs, i64_w, i32_w];rfl);refine pure_ (i := 15) (N := some 8) (v := ?_) (a' := ?_) #[true, true, true, true, true, true, true, true, true, true, true, true, true, true, true, true] rfl rfl (by kernel_rfl) (fun _ _ _ h => h) (Or.inl ⟨by rfl, ?_⟩) ?_ ?_;rotate_left;(intro w';go_simp;with_reducible rfl);rotate_left;(simp only [Act.put, sIb, sC0, sCs, i64_w, i32_w];rfl)
   refine done_ (by kernel_rfl) ?_
   try rw [hx1, hx3]
   try rw [hx2, hx4]
   have hb16 : Below w1.heap.size w1 w6 := ((below_drew1 (Below.refl _ w1)).trans (hb5.mono (Nat.le_refl _))).trans (hb6.mono hb5.size)
   have hbz : ∀ b ∈ bs, b < w1.heap.size := fun b hb => by have := hbs b hb; have := hRd _ HR1.out; omega
   have HI3 := Aside0.mk (hIB _ _ _ HI1.out hb16)
   have HR3 := Aside0.mk (hRB _ _ HR1.out hb16)
   have HBL3 := Aside0.mk (HBL1.out.below hbz hb16)
   have HBF3 := Aside0.mk (HBF1.out.below hbz hb16)
   have HBT3 := Aside0.mk (HBT1.out.below hbz hb16)
   have HE3 := Aside0.mk (HE1.out.below hbz hb16)
   clear hce0 hce1 hce2 hce3 hcf hct hb5 hb6 hb16 hbz hx1 hx2 hx3 hx4 hHeld HI1 HR1 HBL1 HBF1 HBT1 HE1
   generalize w6 = w3 at HI3 HR3 HBL3 HBF3 HBT3 HE3 ⊢
   go_step
   go_step
   refine (wpIn_wide (n := n)).1 ?_
   by_cases hc1 : e.f0 < a
   ·by_cases hc2 : a < b
    ·by_cases hc3 : mab < en
     ·skip
      have hd1 : decide (e.f0 < a) = true := decide_eq_true hc1
      have HC1 := Aside0.mk hc1
      have hd2 : decide (a < b) = true := decide_eq_true hc2
      have HC2 := Aside0.mk hc2
      have hd3 : decide (mab < en) = true := decide_eq_true hc3
      have HC3 := Aside0.mk hc3
      clear hc1 hc2 hc3
      have hce0 := (blk_cell HE3.out.at_ 0).trans rfl
      have hce1 := (blk_cell HE3.out.at_ 1).trans rfl
      have hce2 := (blk_cell HE3.out.at_ 2).trans rfl
      have hce3 := (blk_cell HE3.out.at_ 3).trans rfl
      gi_wp2_with (first | (refine ⟨trivial, ?_⟩; gi_at_call 67; refine (callsIn_wide.2 (part_calls e e.f0 a _ HMY.out (by have := HBD.out; omega) (by have := HBD.out; omega) (by have := HBD.out; omega) (by have := HBD.out; omega))).mono ?_; rintro r w3c ⟨rfl, hb3c⟩; have hbz3c : ∀ b ∈ bs, b < _ := fun b hb => Nat.lt_trans (hbs b hb) (Nat.lt_trans (Nat.lt_succ_self d) (hRd _ HR3.out)); have HI3c := Aside0.mk (hIB _ _ _ HI3.out hb3c); have HR3c := Aside0.mk (hRB _ _ HR3.out hb3c); have HBL3c := Aside0.mk (HBL3.out.below hbz3c hb3c); have HBF3c := Aside0.mk (HBF3.out.below hbz3c hb3c); have HBT3c := Aside0.mk (HBT3.out.below hbz3c hb3c); have HE3c := Aside0.mk (HE3.out.below hbz3c hb3c); clear hbz3c; obtain ⟨fn, tmps, assign, body, hy, hRd4⟩ := hY P0 (partE e e.f0 a, false) w3c HI3c.out HR3c.out (by have := HPN.out; have := hN; (try simp only [List.length_append, List.length_cons, List.length_nil]); omega)) | ((with_reducible refine And.intro ?_ ?_); (first | exact trivial | exact fun _ _ => trivial)))
      refine hRd4.mono ?_
      clear hce0 hce1 hce2 hce3
      intro r w3y h9
      obtain ⟨rfl, hI3y, hR3y, hK3y⟩ := h9.elim id (fun h => by obtain ⟨_, c, hF, _⟩ := h; exact hF.elim)
      have HI3y := Aside0.mk hI3y
      have HR3y := Aside0.mk hR3y
      have HBL3y := Aside0.mk (HBL3c.out.kept hK3y)
      have HBF3y := Aside0.mk (HBF3c.out.kept hK3y)
      have HBT3y := Aside0.mk (HBT3c.out.kept hK3y)
      have HE3y := Aside0.mk (HE3c.out.kept hK3y)
      clear hI3y hR3y hK3y hy hRd4
      have hce0 := (blk_cell HE3y.out.at_ 0).trans rfl
      have hce1 := (blk_cell HE3y.out.at_ 1).trans rfl
      have hce2 := (blk_cell HE3y.out.at_ 2).trans rfl
      have hce3 := (blk_cell HE3y.out.at_ 3).trans rfl
      gi_wp2_with (first | (refine ⟨trivial, ?_⟩; gi_at_call 67; refine (callsIn_wide.2 (part_calls e a b _ HMY.out (by have := HBD.out; omega) (by have := HBD.out; omega) (by have := HBD.out; omega) (by have := HBD.out; omega))).mono ?_; rintro r w3yc ⟨rfl, hb3yc⟩; have hbz3yc : ∀ b ∈ bs, b < _ := fun b hb => Nat.lt_trans (hbs b hb) (Nat.lt_trans (Nat.lt_succ_self d) (hRd _ HR3y.out)); have HI3yc := Aside0.mk (hIB _ _ _ HI3y.out hb3yc); have HR3yc := Aside0.mk (hRB _ _ HR3y.out hb3yc); have HBL3yc := Aside0.mk (HBL3y.out.below hbz3yc hb3yc); have HBF3yc := Aside0.mk (HBF3y.out.below hbz3yc hb3yc); have HBT3yc := Aside0.mk (HBT3y.out.below hbz3yc hb3yc); have HE3yc := Aside0.mk (HE3y.out.below hbz3yc hb3yc); clear hbz3yc; obtain ⟨fn, tmps, assign, body, hy, hRd5⟩ := hY (P0 ++ [(partE e e.f0 a, false)]) (partE e a b, true) w3yc HI3yc.out HR3yc.out (by have := HPN.out; have := hN; (try simp only [List.length_append, List.length_cons, List.length_nil]); omega)) | ((with_reducible refine And.intro ?_ ?_); (first | exact trivial | exact fun _ _ => trivial)))
      refine hRd5.mono ?_
      clear hce0 hce1 hce2 hce3
      intro r w3yy h9
      obtain ⟨rfl, hI3yy, hR3yy, hK3yy⟩ := h9.elim id (fun h => by obtain ⟨_, c, hF, _⟩ := h; exact hF.elim)
      have HI3yy := Aside0.mk hI3yy
      have HR3yy := Aside0.mk hR3yy
      have HBL3yy := Aside0.mk (HBL3yc.out.kept hK3yy)
      have HBF3yy := Aside0.mk (HBF3yc.out.kept hK3yy)
      have HBT3yy := Aside0.mk (HBT3yc.out.kept hK3yy)
      have HE3yy := Aside0.mk (HE3yc.out.kept hK3yy)
      clear hI3yy hR3yy hK3yy hy hRd5
      have hce0 := (blk_cell HE3yy.out.at_ 0).trans rfl
      have hce1 := (blk_cell HE3yy.out.at_ 1).trans rfl
      have hce2 := (blk_cell HE3yy.out.at_ 2).trans rfl
      have hce3 := (blk_cell HE3yy.out.at_ 3).trans rfl
      gi_wp2_with ((with_reducible refine And.intro ?_ ?_); (first | exact trivial | exact fun _ _ => trivial))
      refine startW (m := 18) #[false, false, false, false, false, false, false, false, false, false, false, false, false, false, false, false, false, false] (by kernel_rfl) rfl rfl ?_;refine pureW (i := 2) (N := some 57) (v := ?_) (a' := ?_) #[false, false, true, false, false, false, false, false, false, false, false, false, false, false, false, false, false, false] rfl rfl (by kernel_rfl) (fun _ _ _ h => h) ⟨Or.inl ⟨by rfl, ?_⟩, fun _ => rfl⟩ ?_ ?_;rotate_left;(intro w';go_simp;with_reducible rfl);rotate_left;(simp only [Act.put, sIb, sC0, sCs, i64_w, i32_w];rfl);refine pureW (i := 3) (N := some 58) (v := ?_) (a' := ?_) #[false, false, true, true, false, false, false, false, false, false, false, false, false, false, false, false, false, false] rfl rfl (by kernel_rfl) (fun _ _ _ h => h) ⟨Or.inl ⟨by rfl, ?_⟩, fun _ => rfl⟩ ?_ ?_;rotate_left;(intro w';go_simp;with_reducible rfl);rotate_left;(simp only [Act.put, sIb, sC0, sCs, i64_w, i32_w];rfl);refine pureW (i := 4) (N := some 59) (v := ?_) (a' := ?_) #[false, false, true, true, true, false, false, false, false, false, false, false, false, false, false, false, false, false] rfl rfl (by kernel_rfl) (fun _ _ _ h => h) ⟨Or.inl ⟨by rfl, ?_⟩, fun _ => rfl⟩ ?_ ?_;rotate_left;(intro w';go_simp;with_reducible rfl);rotate_left;(simp only [Act.put, sIb, sC0, sCs, i64_w, i32_w];rfl)
      refine oneW (i := 0) (N := some 55) #[true, false, true, true, true, false, false, false, false, false, false, false, false, false, false, false, false, false] rfl rfl (by kernel_rfl) (fun K hK => ?_)
      refine valueW (w1 := ?_) (v := ?_) (by rfl) rfl ?_ ?_
      rotate_left 2
      ·go_simp
       constructor;(rfl);(rfl)
      refine hK.out _ _ ?_;clear hK K;refine normW (a' := ?_) ?_ ?_;rotate_left
      ·show Act.put _ (some 55) _ = _
       simp only [Act.put, sIb, sC0, sCs, i64_w, i32_w];rfl
      refine oneW (i := 1) (N := some 56) #[true, true, true, true, true, false, false, false, false, false, false, false, false, false, false, false, false, false] rfl rfl (by kernel_rfl) (fun K hK => ?_)
      refine goesW Try.func35 (by kernel_rfl) rfl #[.agg #[.int .i64 e.f0, .int .i64 e.f1, .int .i64 e.f2, .bool e.f3]] (by rfl) rfl rfl (by simp only [List.map_toArray, List.map_cons, List.map_nil]; rfl) ?_
      with_reducible refine (extent_end.calls e.f0 e.f1 e.f2 e.f3 en _ HENF.out).mono ?_
      rintro r6 w3yye ⟨rfl, hb3yye⟩
      refine ⟨_, rfl, ?_⟩
      clear hce0 hce1 hce2 hce3
      replace hb3yye := (below_drew1 (Below.refl _ w3yy)).trans (hb3yye.mono (Nat.le_refl _))
      have hbz3yye : ∀ b ∈ bs, b < _ := fun b hb => Nat.lt_trans (hbs b hb) (Nat.lt_trans (Nat.lt_succ_self d) (hRd _ HR3yy.out))
      have HI3yye := Aside0.mk (hIB _ _ _ HI3yy.out hb3yye)
      have HR3yye := Aside0.mk (hRB _ _ HR3yy.out hb3yye)
      have HBL3yye := Aside0.mk (HBL3yy.out.below hbz3yye hb3yye)
      have HBF3yye := Aside0.mk (HBF3yy.out.below hbz3yye hb3yye)
      have HBT3yye := Aside0.mk (HBT3yy.out.below hbz3yye hb3yye)
      have HE3yye := Aside0.mk (HE3yy.out.below hbz3yye hb3yye)
      clear hbz3yye
      have hce0 := (blk_cell HE3yye.out.at_ 0).trans rfl
      have hce1 := (blk_cell HE3yye.out.at_ 1).trans rfl
      have hce2 := (blk_cell HE3yye.out.at_ 2).trans rfl
      have hce3 := (blk_cell HE3yye.out.at_ 3).trans rfl
      refine hK.out _ _ ?_;clear hK K;refine normW (a' := ?_) ?_ ?_;rotate_left
      ·show Act.put _ (some 56) _ = _
       simp only [Act.put, sIb, sC0, sCs, i64_w, i32_w];rfl
      refine pureW (i := 5) (N := some 60) (v := ?_) (a' := ?_) #[true, true, true, true, true, true, false, false, false, false, false, false, false, false, false, false, false, false] rfl rfl (by kernel_rfl) (fun _ _ _ h => h) ⟨Or.inl ⟨by rfl, ?_⟩, fun _ => rfl⟩ ?_ ?_;rotate_left;(intro w';go_simp;with_reducible rfl);rotate_left;(simp only [Act.put, sIb, sC0, sCs, i64_w, i32_w];rfl);refine pureW (i := 6) (N := some 61) (v := ?_) (a' := ?_) #[true, true, true, true, true, true, true, false, false, false, false, false, false, false, false, false, false, false] rfl rfl (by kernel_rfl) (fun _ _ _ h => h) ⟨Or.inl ⟨by rfl, ?_⟩, fun _ => rfl⟩ ?_ ?_;rotate_left;(intro w';go_simp;with_reducible rfl);rotate_left;(simp only [Act.put, sIb, sC0, sCs, i64_w, i32_w];rfl);refine pureW (i := 7) (N := some 62) (v := ?_) (a' := ?_) #[true, true, true, true, true, true, true, true, false, false, false, false, false, false, false, false, false, false] rfl rfl (by kernel_rfl) (fun _ _ _ h => h) ⟨Or.inl ⟨by rfl, ?_⟩, fun _ => rfl⟩ ?_ ?_;rotate_left;(intro w';go_simp;with_reducible rfl);rotate_left;(simp only [Act.put, sIb, sC0, sCs, i64_w, i32_w];rfl);refine pureW (i := 9) (N := some 64) (v := ?_) (a' := ?_) #[true, true, true, true, true, true, true, true, false, true, false, false, false, false, false, false, false, false] rfl rfl (by kernel_rfl) (fun _ _ _ h => h) ⟨Or.inl ⟨by rfl, ?_⟩, fun _ => rfl⟩ ?_ ?_;rotate_left;(intro w';go_simp;with_reducible rfl);rotate_left;(simp only [Act.put, sIb, sC0, sCs, i64_w, i32_w];rfl);refine pureW (i := 10) (N := some 65) (v := ?_) (a' := ?_) #[true, true, true, true, true, true, true, true, false, true, true, false, false, false, false, false, false, false] rfl rfl (by kernel_rfl) (fun _ _ _ h => h) ⟨Or.inl ⟨by rfl, ?_⟩, fun _ => rfl⟩ ?_ ?_;rotate_left;(intro w';go_simp;with_reducible rfl);rotate_left;(simp only [Act.put, sIb, sC0, sCs, i64_w, i32_w];rfl);refine pureW (i := 11) (N := some 66) (v := ?_) (a' := ?_) #[true, true, true, true, true, true, true, true, false, true, true, true, false, false, false, false, false, false] rfl rfl (by kernel_rfl) (fun _ _ _ h => h) ⟨Or.inl ⟨by rfl, ?_⟩, fun _ => rfl⟩ ?_ ?_;rotate_left;(intro w';go_simp;with_reducible rfl);rotate_left;(simp only [Act.put, sIb, sC0, sCs, i64_w, i32_w];rfl)
      refine twoW (i := 8) (j := 12) (Ni := some 63) (Nj := some 67) #[true, true, true, true, true, true, true, true, true, true, true, true, false, false, false, false, false, false] #[true, true, true, true, true, true, true, true, false, true, true, true, true, false, false, false, false, false] rfl rfl rfl rfl (by kernel_rfl) (fun K hK => ?_) (fun K hK => ?_)
      focus
       refine valueW (w1 := ?_) (v := ?_) (by rfl) rfl ?_ ?_
       rotate_left 2
       ·go_simp
        constructor;(rfl);(rfl)
       refine hK.out _ _ ?_;clear hK K;refine normW (a' := ?_) ?_ ?_;rotate_left
       ·show Act.put _ (some 63) _ = _
        simp only [Act.put, sIb, sC0, sCs, i64_w, i32_w];rfl
       refine oneW (i := 12) (N := some 67) #[true, true, true, true, true, true, true, true, true, true, true, true, true, false, false, false, false, false] rfl rfl (by kernel_rfl) (fun K hK => ?_)
       refine valueW (w1 := ?_) (v := ?_) (by rfl) rfl ?_ ?_
       rotate_left 2
       ·go_simp
        constructor;(rfl);(rfl)
       refine hK.out _ _ ?_;clear hK K;refine normW (a' := ?_) ?_ ?_;rotate_left
       ·show Act.put _ (some 67) _ = _
        simp only [Act.put, sIb, sC0, sCs, i64_w, i32_w];rfl
       refine oneW (i := 13) (N := some 68) #[true, true, true, true, true, true, true, true, true, true, true, true, true, true, false, false, false, false] rfl rfl (by kernel_rfl) (fun K hK => ?_)
       refine goesW Try.func35 (by kernel_rfl) rfl #[.agg #[.int .i64 e.f0, .int .i64 e.f1, .int .i64 e.f2, .bool e.f3]] (by rfl) rfl rfl (by simp only [List.map_toArray, List.map_cons, List.map_nil]; rfl) ?_
       with_reducible refine (extent_end.calls e.f0 e.f1 e.f2 e.f3 en _ HENF.out).mono ?_
       rintro r6 w3yyee ⟨rfl, hb3yyee⟩
       refine ⟨_, rfl, ?_⟩
       clear hce0 hce1 hce2 hce3
       have hbz3yyee : ∀ b ∈ bs, b < _ := fun b hb => Nat.lt_trans (hbs b hb) (Nat.lt_trans (Nat.lt_succ_self d) (hRd _ HR3yye.out))
       have HI3yyee := Aside0.mk (hIB _ _ _ HI3yye.out hb3yyee)
       have HR3yyee := Aside0.mk (hRB _ _ HR3yye.out hb3yyee)
       have HBL3yyee := Aside0.mk (HBL3yye.out.below hbz3yyee hb3yyee)
       have HBF3yyee := Aside0.mk (HBF3yye.out.below hbz3yyee hb3yyee)
       have HBT3yyee := Aside0.mk (HBT3yye.out.below hbz3yyee hb3yyee)
       have HE3yyee := Aside0.mk (HE3yye.out.below hbz3yyee hb3yyee)
       clear hbz3yyee
       have hce0 := (blk_cell HE3yyee.out.at_ 0).trans rfl
       have hce1 := (blk_cell HE3yyee.out.at_ 1).trans rfl
       have hce2 := (blk_cell HE3yyee.out.at_ 2).trans rfl
       have hce3 := (blk_cell HE3yyee.out.at_ 3).trans rfl
       refine hK.out _ _ ?_;clear hK K;refine normW (a' := ?_) ?_ ?_;rotate_left
       ·show Act.put _ (some 68) _ = _
        simp only [Act.put, sIb, sC0, sCs, i64_w, i32_w];rfl
       refine oneW (i := 14) (N := some 69) #[true, true, true, true, true, true, true, true, true, true, true, true, true, true, true, false, false, false] rfl rfl (by kernel_rfl) (fun K hK => ?_)
       refine goesW Try.func67 (by kernel_rfl) rfl #[.agg #[.int .i64 e.f0, .int .i64 e.f1, .int .i64 e.f2, .bool e.f3], .int .i64 mab, .int .i64 en] (by rfl) rfl rfl (by simp only [List.map_toArray, List.map_cons, List.map_nil]; rfl) ?_
       with_reducible refine (part_calls e mab en _ HMY.out (by have := HBD.out; omega) (by have := HBD.out; omega) (by have := HBD.out; omega) (by have := HBD.out; omega)).mono ?_
       rintro r6 w3yyep ⟨rfl, hb3yyep⟩
       refine ⟨_, rfl, ?_⟩
       clear hce0 hce1 hce2 hce3
       have hbz3yyep : ∀ b ∈ bs, b < _ := fun b hb => Nat.lt_trans (hbs b hb) (Nat.lt_trans (Nat.lt_succ_self d) (hRd _ HR3yyee.out))
       have HI3yyep := Aside0.mk (hIB _ _ _ HI3yyee.out hb3yyep)
       have HR3yyep := Aside0.mk (hRB _ _ HR3yyee.out hb3yyep)
       have HBL3yyep := Aside0.mk (HBL3yyee.out.below hbz3yyep hb3yyep)
       have HBF3yyep := Aside0.mk (HBF3yyee.out.below hbz3yyep hb3yyep)
       have HBT3yyep := Aside0.mk (HBT3yyee.out.below hbz3yyep hb3yyep)
       have HE3yyep := Aside0.mk (HE3yyee.out.below hbz3yyep hb3yyep)
       clear hbz3yyep;refine hK.out _ _ ?_;clear hK K;refine normW (a' := ?_) ?_ ?_;rotate_left
       ·show Act.put _ (some 69) _ = _
        simp only [Act.put, sIb, sC0, sCs, i64_w, i32_w];rfl
       refine oneW (i := 15) (N := some 70) #[true, true, true, true, true, true, true, true, true, true, true, true, true, true, true, true, false, false] rfl rfl (by kernel_rfl) (fun K hK => ?_)
       refine yieldW #[.agg #[.int .i64 (partE e mab en).f0, .int .i64 (partE e mab en).f1, .int .i64 (partE e mab en).f2, .bool (partE e mab en).f3], .bool false] (by rfl) rfl rfl rfl (by simp only [List.map_toArray, List.map_cons, List.map_nil]; rfl) (hY ((P0 ++ [(partE e e.f0 a, false)]) ++ [(partE e a b, true)]) (partE e mab en, false) _ HI3yyep.out HR3yyep.out (by have := HPN.out; have := hN; (try simp only [List.length_append, List.length_cons, List.length_nil]); omega)) ?_
       intro r w3yyey h9
       obtain ⟨rfl, hI3yyey, hR3yyey, hK3yyey⟩ := h9.elim id (fun h => by obtain ⟨_, c, hF, _⟩ := h; exact hF.elim)
       have HI3yyey := Aside0.mk hI3yyey
       have HR3yyey := Aside0.mk hR3yyey
       have HBL3yyey := Aside0.mk (HBL3yyep.out.kept hK3yyey)
       have HBF3yyey := Aside0.mk (HBF3yyep.out.kept hK3yyey)
       have HBT3yyey := Aside0.mk (HBT3yyep.out.kept hK3yyey)
       have HE3yyey := Aside0.mk (HE3yyep.out.kept hK3yyey)
       clear hI3yyey hR3yyey hK3yyey
       refine ⟨_, rfl, ?_⟩
       refine hK.out _ _ ?_;clear hK K;refine normW (a' := ?_) ?_ ?_;rotate_left
       ·show Act.put _ (some 70) _ = _
        simp only [Act.put, sIb, sC0, sCs, i64_w, i32_w];rfl
       refine pureW (i := 16) (N := some 71) (v := ?_) (a' := ?_) #[true, true, true, true, true, true, true, true, true, true, true, true, true, true, true, true, true, false] rfl rfl (by kernel_rfl) (fun _ _ _ h => h) ⟨Or.inl ⟨by rfl, ?_⟩, fun _ => rfl⟩ ?_ ?_;rotate_left;(intro w';go_simp;with_reducible rfl);rotate_left;(simp only [Act.put, sIb, sC0, sCs, i64_w, i32_w];rfl);refine pureW (i := 17) (N := some 72) (v := ?_) (a' := ?_) #[true, true, true, true, true, true, true, true, true, true, true, true, true, true, true, true, true, true] rfl rfl (by kernel_rfl) (fun _ _ _ h => h) ⟨Or.inl ⟨by rfl, ?_⟩, fun _ => rfl⟩ ?_ ?_;rotate_left;(intro w';go_simp;with_reducible rfl);rotate_left;(simp only [Act.put, sIb, sC0, sCs, i64_w, i32_w];rfl)
       refine doneW (by kernel_rfl) ?_
      rotate_left 1
      focus
       refine valueW (w1 := ?_) (v := ?_) (by rfl) rfl ?_ ?_
       rotate_left 2
       ·go_simp
        constructor;(rfl);(rfl)
       refine hK.out _ _ ?_;clear hK K;refine normW (a' := ?_) ?_ ?_;rotate_left
       ·show Act.put _ (some 67) _ = _
        simp only [Act.put, sIb, sC0, sCs, i64_w, i32_w];rfl
       refine twoW (i := 8) (j := 13) (Ni := some 63) (Nj := some 68) #[true, true, true, true, true, true, true, true, true, true, true, true, true, false, false, false, false, false] #[true, true, true, true, true, true, true, true, false, true, true, true, true, true, false, false, false, false] rfl rfl rfl rfl (by kernel_rfl) (fun K hK => ?_) (fun K hK => ?_)
       focus
        refine valueW (w1 := ?_) (v := ?_) (by rfl) rfl ?_ ?_
        rotate_left 2
        ·go_simp
         constructor;(rfl);(rfl)
        refine hK.out _ _ ?_;clear hK K;refine normW (a' := ?_) ?_ ?_;rotate_left
        ·show Act.put _ (some 63) _ = _
         simp only [Act.put, sIb, sC0, sCs, i64_w, i32_w];rfl
        refine oneW (i := 13) (N := some 68) #[true, true, true, true, true, true, true, true, true, true, true, true, true, true, false, false, false, false] rfl rfl (by kernel_rfl) (fun K hK => ?_)
        refine goesW Try.func35 (by kernel_rfl) rfl #[.agg #[.int .i64 e.f0, .int .i64 e.f1, .int .i64 e.f2, .bool e.f3]] (by rfl) rfl rfl (by simp only [List.map_toArray, List.map_cons, List.map_nil]; rfl) ?_
        with_reducible refine (extent_end.calls e.f0 e.f1 e.f2 e.f3 en _ HENF.out).mono ?_
        rintro r6 w3yyee ⟨rfl, hb3yyee⟩
        refine ⟨_, rfl, ?_⟩
        clear hce0 hce1 hce2 hce3
        have hbz3yyee : ∀ b ∈ bs, b < _ := fun b hb => Nat.lt_trans (hbs b hb) (Nat.lt_trans (Nat.lt_succ_self d) (hRd _ HR3yye.out))
        have HI3yyee := Aside0.mk (hIB _ _ _ HI3yye.out hb3yyee)
        have HR3yyee := Aside0.mk (hRB _ _ HR3yye.out hb3yyee)
        have HBL3yyee := Aside0.mk (HBL3yye.out.below hbz3yyee hb3yyee)
        have HBF3yyee := Aside0.mk (HBF3yye.out.below hbz3yyee hb3yyee)
        have HBT3yyee := Aside0.mk (HBT3yye.out.below hbz3yyee hb3yyee)
        have HE3yyee := Aside0.mk (HE3yye.out.below hbz3yyee hb3yyee)
        clear hbz3yyee
        have hce0 := (blk_cell HE3yyee.out.at_ 0).trans rfl
        have hce1 := (blk_cell HE3yyee.out.at_ 1).trans rfl
        have hce2 := (blk_cell HE3yyee.out.at_ 2).trans rfl
        have hce3 := (blk_cell HE3yyee.out.at_ 3).trans rfl
        refine hK.out _ _ ?_;clear hK K;refine normW (a' := ?_) ?_ ?_;rotate_left
        ·show Act.put _ (some 68) _ = _
         simp only [Act.put, sIb, sC0, sCs, i64_w, i32_w];rfl
        refine oneW (i := 14) (N := some 69) #[true, true, true, true, true, true, true, true, true, true, true, true, true, true, true, false, false, false] rfl rfl (by kernel_rfl) (fun K hK => ?_)
        refine goesW Try.func67 (by kernel_rfl) rfl #[.agg #[.int .i64 e.f0, .int .i64 e.f1, .int .i64 e.f2, .bool e.f3], .int .i64 mab, .int .i64 en] (by rfl) rfl rfl (by simp only [List.map_toArray, List.map_cons, List.map_nil]; rfl) ?_
        with_reducible refine (part_calls e mab en _ HMY.out (by have := HBD.out; omega) (by have := HBD.out; omega) (by have := HBD.out; omega) (by have := HBD.out; omega)).mono ?_
        rintro r6 w3yyep ⟨rfl, hb3yyep⟩
        refine ⟨_, rfl, ?_⟩
        clear hce0 hce1 hce2 hce3
        have hbz3yyep : ∀ b ∈ bs, b < _ := fun b hb => Nat.lt_trans (hbs b hb) (Nat.lt_trans (Nat.lt_succ_self d) (hRd _ HR3yyee.out))
        have HI3yyep := Aside0.mk (hIB _ _ _ HI3yyee.out hb3yyep)
        have HR3yyep := Aside0.mk (hRB _ _ HR3yyee.out hb3yyep)
        have HBL3yyep := Aside0.mk (HBL3yyee.out.below hbz3yyep hb3yyep)
        have HBF3yyep := Aside0.mk (HBF3yyee.out.below hbz3yyep hb3yyep)
        have HBT3yyep := Aside0.mk (HBT3yyee.out.below hbz3yyep hb3yyep)
        have HE3yyep := Aside0.mk (HE3yyee.out.below hbz3yyep hb3yyep)
        clear hbz3yyep;refine hK.out _ _ ?_;clear hK K;refine normW (a' := ?_) ?_ ?_;rotate_left
        ·show Act.put _ (some 69) _ = _
         simp only [Act.put, sIb, sC0, sCs, i64_w, i32_w];rfl
        refine oneW (i := 15) (N := some 70) #[true, true, true, true, true, true, true, true, true, true, true, true, true, true, true, true, false, false] rfl rfl (by kernel_rfl) (fun K hK => ?_)
        refine yieldW #[.agg #[.int .i64 (partE e mab en).f0, .int .i64 (partE e mab en).f1, .int .i64 (partE e mab en).f2, .bool (partE e mab en).f3], .bool false] (by rfl) rfl rfl rfl (by simp only [List.map_toArray, List.map_cons, List.map_nil]; rfl) (hY ((P0 ++ [(partE e e.f0 a, false)]) ++ [(partE e a b, true)]) (partE e mab en, false) _ HI3yyep.out HR3yyep.out (by have := HPN.out; have := hN; (try simp only [List.length_append, List.length_cons, List.length_nil]); omega)) ?_
        intro r w3yyey h9
        obtain ⟨rfl, hI3yyey, hR3yyey, hK3yyey⟩ := h9.elim id (fun h => by obtain ⟨_, c, hF, _⟩ := h; exact hF.elim)
        have HI3yyey := Aside0.mk hI3yyey
        have HR3yyey := Aside0.mk hR3yyey
        have HBL3yyey := Aside0.mk (HBL3yyep.out.kept hK3yyey)
        have HBF3yyey := Aside0.mk (HBF3yyep.out.kept hK3yyey)
        have HBT3yyey := Aside0.mk (HBT3yyep.out.kept hK3yyey)
        have HE3yyey := Aside0.mk (HE3yyep.out.kept hK3yyey)
        clear hI3yyey hR3yyey hK3yyey
        refine ⟨_, rfl, ?_⟩
        refine hK.out _ _ ?_;clear hK K;refine normW (a' := ?_) ?_ ?_;rotate_left
        ·show Act.put _ (some 70) _ = _
         simp only [Act.put, sIb, sC0, sCs, i64_w, i32_w];rfl
        refine pureW (i := 16) (N := some 71) (v := ?_) (a' := ?_) #[true, true, true, true, true, true, true, true, true, true, true, true, true, true, true, true, true, false] rfl rfl (by kernel_rfl) (fun _ _ _ h => h) ⟨Or.inl ⟨by rfl, ?_⟩, fun _ => rfl⟩ ?_ ?_;rotate_left;(intro w';go_simp;with_reducible rfl);rotate_left;(simp only [Act.put, sIb, sC0, sCs, i64_w, i32_w];rfl);refine pureW (i := 17) (N := some 72) (v := ?_) (a' := ?_) #[true, true, true, true, true, true, true, true, true, true, true, true, true, true, true, true, true, true] rfl rfl (by kernel_rfl) (fun _ _ _ h => h) ⟨Or.inl ⟨by rfl, ?_⟩, fun _ => rfl⟩ ?_ ?_;rotate_left;(intro w';go_simp;with_reducible rfl);rotate_left;(simp only [Act.put, sIb, sC0, sCs, i64_w, i32_w];rfl)
        refine doneW (by kernel_rfl) ?_
       rotate_left 1
       focus
        refine goesW Try.func35 (by kernel_rfl) rfl #[.agg #[.int .i64 e.f0, .int .i64 e.f1, .int .i64 e.f2, .bool e.f3]] (by rfl) rfl rfl (by simp only [List.map_toArray, List.map_cons, List.map_nil]; rfl) ?_
        with_reducible refine (extent_end.calls e.f0 e.f1 e.f2 e.f3 en _ HENF.out).mono ?_
        rintro r6 w3yyee ⟨rfl, hb3yyee⟩
        refine ⟨_, rfl, ?_⟩
        clear hce0 hce1 hce2 hce3
        have hbz3yyee : ∀ b ∈ bs, b < _ := fun b hb => Nat.lt_trans (hbs b hb) (Nat.lt_trans (Nat.lt_succ_self d) (hRd _ HR3yye.out))
        have HI3yyee := Aside0.mk (hIB _ _ _ HI3yye.out hb3yyee)
        have HR3yyee := Aside0.mk (hRB _ _ HR3yye.out hb3yyee)
        have HBL3yyee := Aside0.mk (HBL3yye.out.below hbz3yyee hb3yyee)
        have HBF3yyee := Aside0.mk (HBF3yye.out.below hbz3yyee hb3yyee)
        have HBT3yyee := Aside0.mk (HBT3yye.out.below hbz3yyee hb3yyee)
        have HE3yyee := Aside0.mk (HE3yye.out.below hbz3yyee hb3yyee)
        clear hbz3yyee
        have hce0 := (blk_cell HE3yyee.out.at_ 0).trans rfl
        have hce1 := (blk_cell HE3yyee.out.at_ 1).trans rfl
        have hce2 := (blk_cell HE3yyee.out.at_ 2).trans rfl
        have hce3 := (blk_cell HE3yyee.out.at_ 3).trans rfl
        refine hK.out _ _ ?_;clear hK K;refine normW (a' := ?_) ?_ ?_;rotate_left
        ·show Act.put _ (some 68) _ = _
         simp only [Act.put, sIb, sC0, sCs, i64_w, i32_w];rfl
        refine oneW (i := 8) (N := some 63) #[true, true, true, true, true, true, true, true, true, true, true, true, true, true, false, false, false, false] rfl rfl (by kernel_rfl) (fun K hK => ?_)
        refine valueW (w1 := ?_) (v := ?_) (by rfl) rfl ?_ ?_
        rotate_left 2
        ·go_simp
         constructor;(rfl);(rfl)
        refine hK.out _ _ ?_;clear hK K;refine normW (a' := ?_) ?_ ?_;rotate_left
        ·show Act.put _ (some 63) _ = _
         simp only [Act.put, sIb, sC0, sCs, i64_w, i32_w];rfl
        refine oneW (i := 14) (N := some 69) #[true, true, true, true, true, true, true, true, true, true, true, true, true, true, true, false, false, false] rfl rfl (by kernel_rfl) (fun K hK => ?_)
        refine goesW Try.func67 (by kernel_rfl) rfl #[.agg #[.int .i64 e.f0, .int .i64 e.f1, .int .i64 e.f2, .bool e.f3], .int .i64 mab, .int .i64 en] (by rfl) rfl rfl (by simp only [List.map_toArray, List.map_cons, List.map_nil]; rfl) ?_
        with_reducible refine (part_calls e mab en _ HMY.out (by have := HBD.out; omega) (by have := HBD.out; omega) (by have := HBD.out; omega) (by have := HBD.out; omega)).mono ?_
        rintro r6 w3yyep ⟨rfl, hb3yyep⟩
        refine ⟨_, rfl, ?_⟩
        clear hce0 hce1 hce2 hce3
        have hbz3yyep : ∀ b ∈ bs, b < _ := fun b hb => Nat.lt_trans (hbs b hb) (Nat.lt_trans (Nat.lt_succ_self d) (hRd _ HR3yyee.out))
        have HI3yyep := Aside0.mk (hIB _ _ _ HI3yyee.out hb3yyep)
        have HR3yyep := Aside0.mk (hRB _ _ HR3yyee.out hb3yyep)
        have HBL3yyep := Aside0.mk (HBL3yyee.out.below hbz3yyep hb3yyep)
        have HBF3yyep := Aside0.mk (HBF3yyee.out.below hbz3yyep hb3yyep)
        have HBT3yyep := Aside0.mk (HBT3yyee.out.below hbz3yyep hb3yyep)
        have HE3yyep := Aside0.mk (HE3yyee.out.below hbz3yyep hb3yyep)
        clear hbz3yyep;refine hK.out _ _ ?_;clear hK K;refine normW (a' := ?_) ?_ ?_;rotate_left
        ·show Act.put _ (some 69) _ = _
         simp only [Act.put, sIb, sC0, sCs, i64_w, i32_w];rfl
        refine oneW (i := 15) (N := some 70) #[true, true, true, true, true, true, true, true, true, true, true, true, true, true, true, true, false, false] rfl rfl (by kernel_rfl) (fun K hK => ?_)
        refine yieldW #[.agg #[.int .i64 (partE e mab en).f0, .int .i64 (partE e mab en).f1, .int .i64 (partE e mab en).f2, .bool (partE e mab en).f3], .bool false] (by rfl) rfl rfl rfl (by simp only [List.map_toArray, List.map_cons, List.map_nil]; rfl) (hY ((P0 ++ [(partE e e.f0 a, false)]) ++ [(partE e a b, true)]) (partE e mab en, false) _ HI3yyep.out HR3yyep.out (by have := HPN.out; have := hN; (try simp only [List.length_append, List.length_cons, List.length_nil]); omega)) ?_
        intro r w3yyey h9
        obtain ⟨rfl, hI3yyey, hR3yyey, hK3yyey⟩ := h9.elim id (fun h => by obtain ⟨_, c, hF, _⟩ := h; exact hF.elim)
        have HI3yyey := Aside0.mk hI3yyey
        have HR3yyey := Aside0.mk hR3yyey
        have HBL3yyey := Aside0.mk (HBL3yyep.out.kept hK3yyey)
        have HBF3yyey := Aside0.mk (HBF3yyep.out.kept hK3yyey)
        have HBT3yyey := Aside0.mk (HBT3yyep.out.kept hK3yyey)
        have HE3yyey := Aside0.mk (HE3yyep.out.kept hK3yyey)
        clear hI3yyey hR3yyey hK3yyey
        refine ⟨_, rfl, ?_⟩
        refine hK.out _ _ ?_;clear hK K;refine normW (a' := ?_) ?_ ?_;rotate_left
        ·show Act.put _ (some 70) _ = _
         simp only [Act.put, sIb, sC0, sCs, i64_w, i32_w];rfl
        refine pureW (i := 16) (N := some 71) (v := ?_) (a' := ?_) #[true, true, true, true, true, true, true, true, true, true, true, true, true, true, true, true, true, false] rfl rfl (by kernel_rfl) (fun _ _ _ h => h) ⟨Or.inl ⟨by rfl, ?_⟩, fun _ => rfl⟩ ?_ ?_;rotate_left;(intro w';go_simp;with_reducible rfl);rotate_left;(simp only [Act.put, sIb, sC0, sCs, i64_w, i32_w];rfl);refine pureW (i := 17) (N := some 72) (v := ?_) (a' := ?_) #[true, true, true, true, true, true, true, true, true, true, true, true, true, true, true, true, true, true] rfl rfl (by kernel_rfl) (fun _ _ _ h => h) ⟨Or.inl ⟨by rfl, ?_⟩, fun _ => rfl⟩ ?_ ?_;rotate_left;(intro w';go_simp;with_reducible rfl);rotate_left;(simp only [Act.put, sIb, sC0, sCs, i64_w, i32_w];rfl)
        refine doneW (by kernel_rfl) ?_
      all_goals
       have HQ := Aside0.mk (show (((P0 ++ [(partE e e.f0 a, false)]) ++ [(partE e a b, true)]) ++ [(partE e mab en, false)]) = piecesL (L.take (i + 1)) lo hi by
        rw [HE.out]
        unfold piecesL
        rw [List.flatMap_append, List.flatMap_cons, List.flatMap_nil, List.append_nil]
        show _ = piecesL (L.take i) lo hi ++ pieces3 e lo hi
        rw [← HP.out]
        unfold pieces3
        rw [HA.out, HB.out, HMAB.out, HEN.out, if_pos (by have := HC1.out; omega), if_pos (by have := HC2.out; omega), if_pos (by have := HC3.out; omega)]; simp)
       gi_wp2
       go_wp2
       go_roundg g
       case measure => omega
       case rel => exact ⟨i + 1, by rw [HIW.out], ⟨by have := HK.out; omega⟩, ⟨by rw [← HQ.out]; exact HI3yyey.out⟩, HR3yyey, HBL3yyey, HBF3yyey, HBT3yyey⟩
     ·skip
      have hd1 : decide (e.f0 < a) = true := decide_eq_true hc1
      have HC1 := Aside0.mk hc1
      have hd2 : decide (a < b) = true := decide_eq_true hc2
      have HC2 := Aside0.mk hc2
      have hd3 : decide (mab < en) = false := decide_eq_false hc3
      have HC3 := Aside0.mk hc3
      clear hc1 hc2 hc3
      have hce0 := (blk_cell HE3.out.at_ 0).trans rfl
      have hce1 := (blk_cell HE3.out.at_ 1).trans rfl
      have hce2 := (blk_cell HE3.out.at_ 2).trans rfl
      have hce3 := (blk_cell HE3.out.at_ 3).trans rfl
      gi_wp2_with (first | (refine ⟨trivial, ?_⟩; gi_at_call 67; refine (callsIn_wide.2 (part_calls e e.f0 a _ HMY.out (by have := HBD.out; omega) (by have := HBD.out; omega) (by have := HBD.out; omega) (by have := HBD.out; omega))).mono ?_; rintro r w3c ⟨rfl, hb3c⟩; have hbz3c : ∀ b ∈ bs, b < _ := fun b hb => Nat.lt_trans (hbs b hb) (Nat.lt_trans (Nat.lt_succ_self d) (hRd _ HR3.out)); have HI3c := Aside0.mk (hIB _ _ _ HI3.out hb3c); have HR3c := Aside0.mk (hRB _ _ HR3.out hb3c); have HBL3c := Aside0.mk (HBL3.out.below hbz3c hb3c); have HBF3c := Aside0.mk (HBF3.out.below hbz3c hb3c); have HBT3c := Aside0.mk (HBT3.out.below hbz3c hb3c); have HE3c := Aside0.mk (HE3.out.below hbz3c hb3c); clear hbz3c; obtain ⟨fn, tmps, assign, body, hy, hRd4⟩ := hY P0 (partE e e.f0 a, false) w3c HI3c.out HR3c.out (by have := HPN.out; have := hN; (try simp only [List.length_append, List.length_cons, List.length_nil]); omega)) | ((with_reducible refine And.intro ?_ ?_); (first | exact trivial | exact fun _ _ => trivial)))
      refine hRd4.mono ?_
      clear hce0 hce1 hce2 hce3
      intro r w3y h9
      obtain ⟨rfl, hI3y, hR3y, hK3y⟩ := h9.elim id (fun h => by obtain ⟨_, c, hF, _⟩ := h; exact hF.elim)
      have HI3y := Aside0.mk hI3y
      have HR3y := Aside0.mk hR3y
      have HBL3y := Aside0.mk (HBL3c.out.kept hK3y)
      have HBF3y := Aside0.mk (HBF3c.out.kept hK3y)
      have HBT3y := Aside0.mk (HBT3c.out.kept hK3y)
      have HE3y := Aside0.mk (HE3c.out.kept hK3y)
      clear hI3y hR3y hK3y hy hRd4
      have hce0 := (blk_cell HE3y.out.at_ 0).trans rfl
      have hce1 := (blk_cell HE3y.out.at_ 1).trans rfl
      have hce2 := (blk_cell HE3y.out.at_ 2).trans rfl
      have hce3 := (blk_cell HE3y.out.at_ 3).trans rfl
      gi_wp2_with (first | (refine ⟨trivial, ?_⟩; gi_at_call 67; refine (callsIn_wide.2 (part_calls e a b _ HMY.out (by have := HBD.out; omega) (by have := HBD.out; omega) (by have := HBD.out; omega) (by have := HBD.out; omega))).mono ?_; rintro r w3yc ⟨rfl, hb3yc⟩; have hbz3yc : ∀ b ∈ bs, b < _ := fun b hb => Nat.lt_trans (hbs b hb) (Nat.lt_trans (Nat.lt_succ_self d) (hRd _ HR3y.out)); have HI3yc := Aside0.mk (hIB _ _ _ HI3y.out hb3yc); have HR3yc := Aside0.mk (hRB _ _ HR3y.out hb3yc); have HBL3yc := Aside0.mk (HBL3y.out.below hbz3yc hb3yc); have HBF3yc := Aside0.mk (HBF3y.out.below hbz3yc hb3yc); have HBT3yc := Aside0.mk (HBT3y.out.below hbz3yc hb3yc); have HE3yc := Aside0.mk (HE3y.out.below hbz3yc hb3yc); clear hbz3yc; obtain ⟨fn, tmps, assign, body, hy, hRd5⟩ := hY (P0 ++ [(partE e e.f0 a, false)]) (partE e a b, true) w3yc HI3yc.out HR3yc.out (by have := HPN.out; have := hN; (try simp only [List.length_append, List.length_cons, List.length_nil]); omega)) | ((with_reducible refine And.intro ?_ ?_); (first | exact trivial | exact fun _ _ => trivial)))
      refine hRd5.mono ?_
      clear hce0 hce1 hce2 hce3
      intro r w3yy h9
      obtain ⟨rfl, hI3yy, hR3yy, hK3yy⟩ := h9.elim id (fun h => by obtain ⟨_, c, hF, _⟩ := h; exact hF.elim)
      have HI3yy := Aside0.mk hI3yy
      have HR3yy := Aside0.mk hR3yy
      have HBL3yy := Aside0.mk (HBL3yc.out.kept hK3yy)
      have HBF3yy := Aside0.mk (HBF3yc.out.kept hK3yy)
      have HBT3yy := Aside0.mk (HBT3yc.out.kept hK3yy)
      have HE3yy := Aside0.mk (HE3yc.out.kept hK3yy)
      clear hI3yy hR3yy hK3yy hy hRd5
      have hce0 := (blk_cell HE3yy.out.at_ 0).trans rfl
      have hce1 := (blk_cell HE3yy.out.at_ 1).trans rfl
      have hce2 := (blk_cell HE3yy.out.at_ 2).trans rfl
      have hce3 := (blk_cell HE3yy.out.at_ 3).trans rfl
      gi_wp2_with ((with_reducible refine And.intro ?_ ?_); (first | exact trivial | exact fun _ _ => trivial))
      refine startW (m := 18) #[false, false, false, false, false, false, false, false, false, false, false, false, false, false, false, false, false, false] (by kernel_rfl) rfl rfl ?_;refine pureW (i := 2) (N := some 57) (v := ?_) (a' := ?_) #[false, false, true, false, false, false, false, false, false, false, false, false, false, false, false, false, false, false] rfl rfl (by kernel_rfl) (fun _ _ _ h => h) ⟨Or.inl ⟨by rfl, ?_⟩, fun _ => rfl⟩ ?_ ?_;rotate_left;(intro w';go_simp;with_reducible rfl);rotate_left;(simp only [Act.put, sIb, sC0, sCs, i64_w, i32_w];rfl);refine pureW (i := 3) (N := some 58) (v := ?_) (a' := ?_) #[false, false, true, true, false, false, false, false, false, false, false, false, false, false, false, false, false, false] rfl rfl (by kernel_rfl) (fun _ _ _ h => h) ⟨Or.inl ⟨by rfl, ?_⟩, fun _ => rfl⟩ ?_ ?_;rotate_left;(intro w';go_simp;with_reducible rfl);rotate_left;(simp only [Act.put, sIb, sC0, sCs, i64_w, i32_w];rfl);refine pureW (i := 4) (N := some 59) (v := ?_) (a' := ?_) #[false, false, true, true, true, false, false, false, false, false, false, false, false, false, false, false, false, false] rfl rfl (by kernel_rfl) (fun _ _ _ h => h) ⟨Or.inl ⟨by rfl, ?_⟩, fun _ => rfl⟩ ?_ ?_;rotate_left;(intro w';go_simp;with_reducible rfl);rotate_left;(simp only [Act.put, sIb, sC0, sCs, i64_w, i32_w];rfl)
      refine oneW (i := 0) (N := some 55) #[true, false, true, true, true, false, false, false, false, false, false, false, false, false, false, false, false, false] rfl rfl (by kernel_rfl) (fun K hK => ?_)
      refine valueW (w1 := ?_) (v := ?_) (by rfl) rfl ?_ ?_
      rotate_left 2
      ·go_simp
       constructor;(rfl);(rfl)
      refine hK.out _ _ ?_;clear hK K;refine normW (a' := ?_) ?_ ?_;rotate_left
      ·show Act.put _ (some 55) _ = _
       simp only [Act.put, sIb, sC0, sCs, i64_w, i32_w];rfl
      refine oneW (i := 1) (N := some 56) #[true, true, true, true, true, false, false, false, false, false, false, false, false, false, false, false, false, false] rfl rfl (by kernel_rfl) (fun K hK => ?_)
      refine goesW Try.func35 (by kernel_rfl) rfl #[.agg #[.int .i64 e.f0, .int .i64 e.f1, .int .i64 e.f2, .bool e.f3]] (by rfl) rfl rfl (by simp only [List.map_toArray, List.map_cons, List.map_nil]; rfl) ?_
      with_reducible refine (extent_end.calls e.f0 e.f1 e.f2 e.f3 en _ HENF.out).mono ?_
      rintro r6 w3yye ⟨rfl, hb3yye⟩
      refine ⟨_, rfl, ?_⟩
      clear hce0 hce1 hce2 hce3
      replace hb3yye := (below_drew1 (Below.refl _ w3yy)).trans (hb3yye.mono (Nat.le_refl _))
      have hbz3yye : ∀ b ∈ bs, b < _ := fun b hb => Nat.lt_trans (hbs b hb) (Nat.lt_trans (Nat.lt_succ_self d) (hRd _ HR3yy.out))
      have HI3yye := Aside0.mk (hIB _ _ _ HI3yy.out hb3yye)
      have HR3yye := Aside0.mk (hRB _ _ HR3yy.out hb3yye)
      have HBL3yye := Aside0.mk (HBL3yy.out.below hbz3yye hb3yye)
      have HBF3yye := Aside0.mk (HBF3yy.out.below hbz3yye hb3yye)
      have HBT3yye := Aside0.mk (HBT3yy.out.below hbz3yye hb3yye)
      have HE3yye := Aside0.mk (HE3yy.out.below hbz3yye hb3yye)
      clear hbz3yye
      have hce0 := (blk_cell HE3yye.out.at_ 0).trans rfl
      have hce1 := (blk_cell HE3yye.out.at_ 1).trans rfl
      have hce2 := (blk_cell HE3yye.out.at_ 2).trans rfl
      have hce3 := (blk_cell HE3yye.out.at_ 3).trans rfl
      refine hK.out _ _ ?_;clear hK K;refine normW (a' := ?_) ?_ ?_;rotate_left
      ·show Act.put _ (some 56) _ = _
       simp only [Act.put, sIb, sC0, sCs, i64_w, i32_w];rfl
      refine pureW (i := 5) (N := some 60) (v := ?_) (a' := ?_) #[true, true, true, true, true, true, false, false, false, false, false, false, false, false, false, false, false, false] rfl rfl (by kernel_rfl) (fun _ _ _ h => h) ⟨Or.inl ⟨by rfl, ?_⟩, fun _ => rfl⟩ ?_ ?_;rotate_left;(intro w';go_simp;with_reducible rfl);rotate_left;(simp only [Act.put, sIb, sC0, sCs, i64_w, i32_w];rfl);refine pureW (i := 6) (N := some 61) (v := ?_) (a' := ?_) #[true, true, true, true, true, true, true, false, false, false, false, false, false, false, false, false, false, false] rfl rfl (by kernel_rfl) (fun _ _ _ h => h) ⟨Or.inl ⟨by rfl, ?_⟩, fun _ => rfl⟩ ?_ ?_;rotate_left;(intro w';go_simp;with_reducible rfl);rotate_left;(simp only [Act.put, sIb, sC0, sCs, i64_w, i32_w];rfl);refine pureW (i := 7) (N := some 62) (v := undef) (a' := ?_) #[true, true, true, true, true, true, true, true, false, false, false, false, false, false, false, false, false, false] rfl rfl (by kernel_rfl) (fun _ _ _ h => h) ⟨Or.inr ⟨by rfl, rfl⟩, fun _ => rfl⟩ ?_ ?_;rotate_left;(simp only [Act.put, sIb, sC0, sCs, i64_w, i32_w];rfl);refine pureW (i := 8) (N := some 63) (v := undef) (a' := ?_) #[true, true, true, true, true, true, true, true, true, false, false, false, false, false, false, false, false, false] rfl rfl (by kernel_rfl) (fun _ _ _ h => h) ⟨Or.inr ⟨by rfl, rfl⟩, fun _ => rfl⟩ ?_ ?_;rotate_left;(simp only [Act.put, sIb, sC0, sCs, i64_w, i32_w];rfl);refine pureW (i := 9) (N := some 64) (v := undef) (a' := ?_) #[true, true, true, true, true, true, true, true, true, true, false, false, false, false, false, false, false, false] rfl rfl (by kernel_rfl) (fun _ _ _ h => h) ⟨Or.inr ⟨by rfl, rfl⟩, fun _ => rfl⟩ ?_ ?_;rotate_left;(simp only [Act.put, sIb, sC0, sCs, i64_w, i32_w];rfl);refine pureW (i := 10) (N := some 65) (v := undef) (a' := ?_) #[true, true, true, true, true, true, true, true, true, true, true, false, false, false, false, false, false, false] rfl rfl (by kernel_rfl) (fun _ _ _ h => h) ⟨Or.inr ⟨by rfl, rfl⟩, fun _ => rfl⟩ ?_ ?_;rotate_left;(simp only [Act.put, sIb, sC0, sCs, i64_w, i32_w];rfl);refine pureW (i := 11) (N := some 66) (v := undef) (a' := ?_) #[true, true, true, true, true, true, true, true, true, true, true, true, false, false, false, false, false, false] rfl rfl (by kernel_rfl) (fun _ _ _ h => h) ⟨Or.inr ⟨by rfl, rfl⟩, fun _ => rfl⟩ ?_ ?_;rotate_left;(simp only [Act.put, sIb, sC0, sCs, i64_w, i32_w];rfl);refine pureW (i := 12) (N := some 67) (v := undef) (a' := ?_) #[true, true, true, true, true, true, true, true, true, true, true, true, true, false, false, false, false, false] rfl rfl (by kernel_rfl) (fun _ _ _ h => h) ⟨Or.inr ⟨by rfl, rfl⟩, fun _ => rfl⟩ ?_ ?_;rotate_left;(simp only [Act.put, sIb, sC0, sCs, i64_w, i32_w];rfl)
      refine oneW (i := 13) (N := some 68) #[true, true, true, true, true, true, true, true, true, true, true, true, true, true, false, false, false, false] rfl rfl (by kernel_rfl) (fun K hK => ?_)
      refine offW (by rfl) ?_
      refine hK.out _ _ ?_;clear hK K;refine normW (a' := ?_) ?_ ?_;rotate_left
      ·show Act.put _ (some 68) _ = _
       simp only [Act.put, sIb, sC0, sCs, i64_w, i32_w];rfl
      refine oneW (i := 14) (N := some 69) #[true, true, true, true, true, true, true, true, true, true, true, true, true, true, true, false, false, false] rfl rfl (by kernel_rfl) (fun K hK => ?_)
      refine offW (by rfl) ?_
      refine hK.out _ _ ?_;clear hK K;refine normW (a' := ?_) ?_ ?_;rotate_left
      ·show Act.put _ (some 69) _ = _
       simp only [Act.put, sIb, sC0, sCs, i64_w, i32_w];rfl
      refine oneW (i := 15) (N := some 70) #[true, true, true, true, true, true, true, true, true, true, true, true, true, true, true, true, false, false] rfl rfl (by kernel_rfl) (fun K hK => ?_)
      refine offW (by rfl) ?_
      refine hK.out _ _ ?_;clear hK K;refine normW (a' := ?_) ?_ ?_;rotate_left
      ·show Act.put _ (some 70) _ = _
       simp only [Act.put, sIb, sC0, sCs, i64_w, i32_w];rfl
      refine pureW (i := 16) (N := some 71) (v := undef) (a' := ?_) #[true, true, true, true, true, true, true, true, true, true, true, true, true, true, true, true, true, false] rfl rfl (by kernel_rfl) (fun _ _ _ h => h) ⟨Or.inr ⟨by rfl, rfl⟩, fun _ => rfl⟩ ?_ ?_;rotate_left;(simp only [Act.put, sIb, sC0, sCs, i64_w, i32_w];rfl);refine pureW (i := 17) (N := some 72) (v := ?_) (a' := ?_) #[true, true, true, true, true, true, true, true, true, true, true, true, true, true, true, true, true, true] rfl rfl (by kernel_rfl) (fun _ _ _ h => h) ⟨Or.inl ⟨by rfl, ?_⟩, fun _ => rfl⟩ ?_ ?_;rotate_left;(intro w';go_simp;with_reducible rfl);rotate_left;(simp only [Act.put, sIb, sC0, sCs, i64_w, i32_w];rfl)
      refine doneW (by kernel_rfl) ?_
      all_goals
       have HQ := Aside0.mk (show ((P0 ++ [(partE e e.f0 a, false)]) ++ [(partE e a b, true)]) = piecesL (L.take (i + 1)) lo hi by
        rw [HE.out]
        unfold piecesL
        rw [List.flatMap_append, List.flatMap_cons, List.flatMap_nil, List.append_nil]
        show _ = piecesL (L.take i) lo hi ++ pieces3 e lo hi
        rw [← HP.out]
        unfold pieces3
        rw [HA.out, HB.out, HMAB.out, HEN.out, if_pos (by have := HC1.out; omega), if_pos (by have := HC2.out; omega), if_neg (by have := HC3.out; omega)]; simp)
       gi_wp2
       go_wp2
       go_roundg g
       case measure => omega
       case rel => exact ⟨i + 1, by rw [HIW.out], ⟨by have := HK.out; omega⟩, ⟨by rw [← HQ.out]; exact HI3yye.out⟩, HR3yye, HBL3yye, HBF3yye, HBT3yye⟩
    ·by_cases hc3 : mab < en
     ·skip
      have hd1 : decide (e.f0 < a) = true := decide_eq_true hc1
      have HC1 := Aside0.mk hc1
      have hd2 : decide (a < b) = false := decide_eq_false hc2
      have HC2 := Aside0.mk hc2
      have hd3 : decide (mab < en) = true := decide_eq_true hc3
      have HC3 := Aside0.mk hc3
      clear hc1 hc2 hc3
      have hce0 := (blk_cell HE3.out.at_ 0).trans rfl
      have hce1 := (blk_cell HE3.out.at_ 1).trans rfl
      have hce2 := (blk_cell HE3.out.at_ 2).trans rfl
      have hce3 := (blk_cell HE3.out.at_ 3).trans rfl
      gi_wp2_with (first | (refine ⟨trivial, ?_⟩; gi_at_call 67; refine (callsIn_wide.2 (part_calls e e.f0 a _ HMY.out (by have := HBD.out; omega) (by have := HBD.out; omega) (by have := HBD.out; omega) (by have := HBD.out; omega))).mono ?_; rintro r w3c ⟨rfl, hb3c⟩; have hbz3c : ∀ b ∈ bs, b < _ := fun b hb => Nat.lt_trans (hbs b hb) (Nat.lt_trans (Nat.lt_succ_self d) (hRd _ HR3.out)); have HI3c := Aside0.mk (hIB _ _ _ HI3.out hb3c); have HR3c := Aside0.mk (hRB _ _ HR3.out hb3c); have HBL3c := Aside0.mk (HBL3.out.below hbz3c hb3c); have HBF3c := Aside0.mk (HBF3.out.below hbz3c hb3c); have HBT3c := Aside0.mk (HBT3.out.below hbz3c hb3c); have HE3c := Aside0.mk (HE3.out.below hbz3c hb3c); clear hbz3c; obtain ⟨fn, tmps, assign, body, hy, hRd4⟩ := hY P0 (partE e e.f0 a, false) w3c HI3c.out HR3c.out (by have := HPN.out; have := hN; (try simp only [List.length_append, List.length_cons, List.length_nil]); omega)) | ((with_reducible refine And.intro ?_ ?_); (first | exact trivial | exact fun _ _ => trivial)))
      refine hRd4.mono ?_
      clear hce0 hce1 hce2 hce3
      intro r w3y h9
      obtain ⟨rfl, hI3y, hR3y, hK3y⟩ := h9.elim id (fun h => by obtain ⟨_, c, hF, _⟩ := h; exact hF.elim)
      have HI3y := Aside0.mk hI3y
      have HR3y := Aside0.mk hR3y
      have HBL3y := Aside0.mk (HBL3c.out.kept hK3y)
      have HBF3y := Aside0.mk (HBF3c.out.kept hK3y)
      have HBT3y := Aside0.mk (HBT3c.out.kept hK3y)
      have HE3y := Aside0.mk (HE3c.out.kept hK3y)
      clear hI3y hR3y hK3y hy hRd4
      have hce0 := (blk_cell HE3y.out.at_ 0).trans rfl
      have hce1 := (blk_cell HE3y.out.at_ 1).trans rfl
      have hce2 := (blk_cell HE3y.out.at_ 2).trans rfl
      have hce3 := (blk_cell HE3y.out.at_ 3).trans rfl
      gi_wp2_with ((with_reducible refine And.intro ?_ ?_); (first | exact trivial | exact fun _ _ => trivial))
      refine startW (m := 18) #[false, false, false, false, false, false, false, false, false, false, false, false, false, false, false, false, false, false] (by kernel_rfl) rfl rfl ?_;refine pureW (i := 2) (N := some 57) (v := ?_) (a' := ?_) #[false, false, true, false, false, false, false, false, false, false, false, false, false, false, false, false, false, false] rfl rfl (by kernel_rfl) (fun _ _ _ h => h) ⟨Or.inl ⟨by rfl, ?_⟩, fun _ => rfl⟩ ?_ ?_;rotate_left;(intro w';go_simp;with_reducible rfl);rotate_left;(simp only [Act.put, sIb, sC0, sCs, i64_w, i32_w];rfl);refine pureW (i := 3) (N := some 58) (v := ?_) (a' := ?_) #[false, false, true, true, false, false, false, false, false, false, false, false, false, false, false, false, false, false] rfl rfl (by kernel_rfl) (fun _ _ _ h => h) ⟨Or.inl ⟨by rfl, ?_⟩, fun _ => rfl⟩ ?_ ?_;rotate_left;(intro w';go_simp;with_reducible rfl);rotate_left;(simp only [Act.put, sIb, sC0, sCs, i64_w, i32_w];rfl);refine pureW (i := 4) (N := some 59) (v := ?_) (a' := ?_) #[false, false, true, true, true, false, false, false, false, false, false, false, false, false, false, false, false, false] rfl rfl (by kernel_rfl) (fun _ _ _ h => h) ⟨Or.inl ⟨by rfl, ?_⟩, fun _ => rfl⟩ ?_ ?_;rotate_left;(intro w';go_simp;with_reducible rfl);rotate_left;(simp only [Act.put, sIb, sC0, sCs, i64_w, i32_w];rfl)
      refine oneW (i := 0) (N := some 55) #[true, false, true, true, true, false, false, false, false, false, false, false, false, false, false, false, false, false] rfl rfl (by kernel_rfl) (fun K hK => ?_)
      refine valueW (w1 := ?_) (v := ?_) (by rfl) rfl ?_ ?_
      rotate_left 2
      ·go_simp
       constructor;(rfl);(rfl)
      refine hK.out _ _ ?_;clear hK K;refine normW (a' := ?_) ?_ ?_;rotate_left
      ·show Act.put _ (some 55) _ = _
       simp only [Act.put, sIb, sC0, sCs, i64_w, i32_w];rfl
      refine oneW (i := 1) (N := some 56) #[true, true, true, true, true, false, false, false, false, false, false, false, false, false, false, false, false, false] rfl rfl (by kernel_rfl) (fun K hK => ?_)
      refine goesW Try.func35 (by kernel_rfl) rfl #[.agg #[.int .i64 e.f0, .int .i64 e.f1, .int .i64 e.f2, .bool e.f3]] (by rfl) rfl rfl (by simp only [List.map_toArray, List.map_cons, List.map_nil]; rfl) ?_
      with_reducible refine (extent_end.calls e.f0 e.f1 e.f2 e.f3 en _ HENF.out).mono ?_
      rintro r6 w3ye ⟨rfl, hb3ye⟩
      refine ⟨_, rfl, ?_⟩
      clear hce0 hce1 hce2 hce3
      replace hb3ye := (below_drew1 (Below.refl _ w3y)).trans (hb3ye.mono (Nat.le_refl _))
      have hbz3ye : ∀ b ∈ bs, b < _ := fun b hb => Nat.lt_trans (hbs b hb) (Nat.lt_trans (Nat.lt_succ_self d) (hRd _ HR3y.out))
      have HI3ye := Aside0.mk (hIB _ _ _ HI3y.out hb3ye)
      have HR3ye := Aside0.mk (hRB _ _ HR3y.out hb3ye)
      have HBL3ye := Aside0.mk (HBL3y.out.below hbz3ye hb3ye)
      have HBF3ye := Aside0.mk (HBF3y.out.below hbz3ye hb3ye)
      have HBT3ye := Aside0.mk (HBT3y.out.below hbz3ye hb3ye)
      have HE3ye := Aside0.mk (HE3y.out.below hbz3ye hb3ye)
      clear hbz3ye
      have hce0 := (blk_cell HE3ye.out.at_ 0).trans rfl
      have hce1 := (blk_cell HE3ye.out.at_ 1).trans rfl
      have hce2 := (blk_cell HE3ye.out.at_ 2).trans rfl
      have hce3 := (blk_cell HE3ye.out.at_ 3).trans rfl
      refine hK.out _ _ ?_;clear hK K;refine normW (a' := ?_) ?_ ?_;rotate_left
      ·show Act.put _ (some 56) _ = _
       simp only [Act.put, sIb, sC0, sCs, i64_w, i32_w];rfl
      refine pureW (i := 5) (N := some 60) (v := ?_) (a' := ?_) #[true, true, true, true, true, true, false, false, false, false, false, false, false, false, false, false, false, false] rfl rfl (by kernel_rfl) (fun _ _ _ h => h) ⟨Or.inl ⟨by rfl, ?_⟩, fun _ => rfl⟩ ?_ ?_;rotate_left;(intro w';go_simp;with_reducible rfl);rotate_left;(simp only [Act.put, sIb, sC0, sCs, i64_w, i32_w];rfl);refine pureW (i := 6) (N := some 61) (v := ?_) (a' := ?_) #[true, true, true, true, true, true, true, false, false, false, false, false, false, false, false, false, false, false] rfl rfl (by kernel_rfl) (fun _ _ _ h => h) ⟨Or.inl ⟨by rfl, ?_⟩, fun _ => rfl⟩ ?_ ?_;rotate_left;(intro w';go_simp;with_reducible rfl);rotate_left;(simp only [Act.put, sIb, sC0, sCs, i64_w, i32_w];rfl);refine pureW (i := 7) (N := some 62) (v := ?_) (a' := ?_) #[true, true, true, true, true, true, true, true, false, false, false, false, false, false, false, false, false, false] rfl rfl (by kernel_rfl) (fun _ _ _ h => h) ⟨Or.inl ⟨by rfl, ?_⟩, fun _ => rfl⟩ ?_ ?_;rotate_left;(intro w';go_simp;with_reducible rfl);rotate_left;(simp only [Act.put, sIb, sC0, sCs, i64_w, i32_w];rfl);refine pureW (i := 9) (N := some 64) (v := ?_) (a' := ?_) #[true, true, true, true, true, true, true, true, false, true, false, false, false, false, false, false, false, false] rfl rfl (by kernel_rfl) (fun _ _ _ h => h) ⟨Or.inl ⟨by rfl, ?_⟩, fun _ => rfl⟩ ?_ ?_;rotate_left;(intro w';go_simp;with_reducible rfl);rotate_left;(simp only [Act.put, sIb, sC0, sCs, i64_w, i32_w];rfl);refine pureW (i := 10) (N := some 65) (v := ?_) (a' := ?_) #[true, true, true, true, true, true, true, true, false, true, true, false, false, false, false, false, false, false] rfl rfl (by kernel_rfl) (fun _ _ _ h => h) ⟨Or.inl ⟨by rfl, ?_⟩, fun _ => rfl⟩ ?_ ?_;rotate_left;(intro w';go_simp;with_reducible rfl);rotate_left;(simp only [Act.put, sIb, sC0, sCs, i64_w, i32_w];rfl);refine pureW (i := 11) (N := some 66) (v := ?_) (a' := ?_) #[true, true, true, true, true, true, true, true, false, true, true, true, false, false, false, false, false, false] rfl rfl (by kernel_rfl) (fun _ _ _ h => h) ⟨Or.inl ⟨by rfl, ?_⟩, fun _ => rfl⟩ ?_ ?_;rotate_left;(intro w';go_simp;with_reducible rfl);rotate_left;(simp only [Act.put, sIb, sC0, sCs, i64_w, i32_w];rfl)
      refine twoW (i := 8) (j := 12) (Ni := some 63) (Nj := some 67) #[true, true, true, true, true, true, true, true, true, true, true, true, false, false, false, false, false, false] #[true, true, true, true, true, true, true, true, false, true, true, true, true, false, false, false, false, false] rfl rfl rfl rfl (by kernel_rfl) (fun K hK => ?_) (fun K hK => ?_)
      focus
       refine valueW (w1 := ?_) (v := ?_) (by rfl) rfl ?_ ?_
       rotate_left 2
       ·go_simp
        constructor;(rfl);(rfl)
       refine hK.out _ _ ?_;clear hK K;refine normW (a' := ?_) ?_ ?_;rotate_left
       ·show Act.put _ (some 63) _ = _
        simp only [Act.put, sIb, sC0, sCs, i64_w, i32_w];rfl
       refine oneW (i := 12) (N := some 67) #[true, true, true, true, true, true, true, true, true, true, true, true, true, false, false, false, false, false] rfl rfl (by kernel_rfl) (fun K hK => ?_)
       refine valueW (w1 := ?_) (v := ?_) (by rfl) rfl ?_ ?_
       rotate_left 2
       ·go_simp
        constructor;(rfl);(rfl)
       refine hK.out _ _ ?_;clear hK K;refine normW (a' := ?_) ?_ ?_;rotate_left
       ·show Act.put _ (some 67) _ = _
        simp only [Act.put, sIb, sC0, sCs, i64_w, i32_w];rfl
       refine oneW (i := 13) (N := some 68) #[true, true, true, true, true, true, true, true, true, true, true, true, true, true, false, false, false, false] rfl rfl (by kernel_rfl) (fun K hK => ?_)
       refine goesW Try.func35 (by kernel_rfl) rfl #[.agg #[.int .i64 e.f0, .int .i64 e.f1, .int .i64 e.f2, .bool e.f3]] (by rfl) rfl rfl (by simp only [List.map_toArray, List.map_cons, List.map_nil]; rfl) ?_
       with_reducible refine (extent_end.calls e.f0 e.f1 e.f2 e.f3 en _ HENF.out).mono ?_
       rintro r6 w3yee ⟨rfl, hb3yee⟩
       refine ⟨_, rfl, ?_⟩
       clear hce0 hce1 hce2 hce3
       have hbz3yee : ∀ b ∈ bs, b < _ := fun b hb => Nat.lt_trans (hbs b hb) (Nat.lt_trans (Nat.lt_succ_self d) (hRd _ HR3ye.out))
       have HI3yee := Aside0.mk (hIB _ _ _ HI3ye.out hb3yee)
       have HR3yee := Aside0.mk (hRB _ _ HR3ye.out hb3yee)
       have HBL3yee := Aside0.mk (HBL3ye.out.below hbz3yee hb3yee)
       have HBF3yee := Aside0.mk (HBF3ye.out.below hbz3yee hb3yee)
       have HBT3yee := Aside0.mk (HBT3ye.out.below hbz3yee hb3yee)
       have HE3yee := Aside0.mk (HE3ye.out.below hbz3yee hb3yee)
       clear hbz3yee
       have hce0 := (blk_cell HE3yee.out.at_ 0).trans rfl
       have hce1 := (blk_cell HE3yee.out.at_ 1).trans rfl
       have hce2 := (blk_cell HE3yee.out.at_ 2).trans rfl
       have hce3 := (blk_cell HE3yee.out.at_ 3).trans rfl
       refine hK.out _ _ ?_;clear hK K;refine normW (a' := ?_) ?_ ?_;rotate_left
       ·show Act.put _ (some 68) _ = _
        simp only [Act.put, sIb, sC0, sCs, i64_w, i32_w];rfl
       refine oneW (i := 14) (N := some 69) #[true, true, true, true, true, true, true, true, true, true, true, true, true, true, true, false, false, false] rfl rfl (by kernel_rfl) (fun K hK => ?_)
       refine goesW Try.func67 (by kernel_rfl) rfl #[.agg #[.int .i64 e.f0, .int .i64 e.f1, .int .i64 e.f2, .bool e.f3], .int .i64 mab, .int .i64 en] (by rfl) rfl rfl (by simp only [List.map_toArray, List.map_cons, List.map_nil]; rfl) ?_
       with_reducible refine (part_calls e mab en _ HMY.out (by have := HBD.out; omega) (by have := HBD.out; omega) (by have := HBD.out; omega) (by have := HBD.out; omega)).mono ?_
       rintro r6 w3yep ⟨rfl, hb3yep⟩
       refine ⟨_, rfl, ?_⟩
       clear hce0 hce1 hce2 hce3
       have hbz3yep : ∀ b ∈ bs, b < _ := fun b hb => Nat.lt_trans (hbs b hb) (Nat.lt_trans (Nat.lt_succ_self d) (hRd _ HR3yee.out))
       have HI3yep := Aside0.mk (hIB _ _ _ HI3yee.out hb3yep)
       have HR3yep := Aside0.mk (hRB _ _ HR3yee.out hb3yep)
       have HBL3yep := Aside0.mk (HBL3yee.out.below hbz3yep hb3yep)
       have HBF3yep := Aside0.mk (HBF3yee.out.below hbz3yep hb3yep)
       have HBT3yep := Aside0.mk (HBT3yee.out.below hbz3yep hb3yep)
       have HE3yep := Aside0.mk (HE3yee.out.below hbz3yep hb3yep)
       clear hbz3yep;refine hK.out _ _ ?_;clear hK K;refine normW (a' := ?_) ?_ ?_;rotate_left
       ·show Act.put _ (some 69) _ = _
        simp only [Act.put, sIb, sC0, sCs, i64_w, i32_w];rfl
       refine oneW (i := 15) (N := some 70) #[true, true, true, true, true, true, true, true, true, true, true, true, true, true, true, true, false, false] rfl rfl (by kernel_rfl) (fun K hK => ?_)
       refine yieldW #[.agg #[.int .i64 (partE e mab en).f0, .int .i64 (partE e mab en).f1, .int .i64 (partE e mab en).f2, .bool (partE e mab en).f3], .bool false] (by rfl) rfl rfl rfl (by simp only [List.map_toArray, List.map_cons, List.map_nil]; rfl) (hY (P0 ++ [(partE e e.f0 a, false)]) (partE e mab en, false) _ HI3yep.out HR3yep.out (by have := HPN.out; have := hN; (try simp only [List.length_append, List.length_cons, List.length_nil]); omega)) ?_
       intro r w3yey h9
       obtain ⟨rfl, hI3yey, hR3yey, hK3yey⟩ := h9.elim id (fun h => by obtain ⟨_, c, hF, _⟩ := h; exact hF.elim)
       have HI3yey := Aside0.mk hI3yey
       have HR3yey := Aside0.mk hR3yey
       have HBL3yey := Aside0.mk (HBL3yep.out.kept hK3yey)
       have HBF3yey := Aside0.mk (HBF3yep.out.kept hK3yey)
       have HBT3yey := Aside0.mk (HBT3yep.out.kept hK3yey)
       have HE3yey := Aside0.mk (HE3yep.out.kept hK3yey)
       clear hI3yey hR3yey hK3yey
       refine ⟨_, rfl, ?_⟩
       refine hK.out _ _ ?_;clear hK K;refine normW (a' := ?_) ?_ ?_;rotate_left
       ·show Act.put _ (some 70) _ = _
        simp only [Act.put, sIb, sC0, sCs, i64_w, i32_w];rfl
       refine pureW (i := 16) (N := some 71) (v := ?_) (a' := ?_) #[true, true, true, true, true, true, true, true, true, true, true, true, true, true, true, true, true, false] rfl rfl (by kernel_rfl) (fun _ _ _ h => h) ⟨Or.inl ⟨by rfl, ?_⟩, fun _ => rfl⟩ ?_ ?_;rotate_left;(intro w';go_simp;with_reducible rfl);rotate_left;(simp only [Act.put, sIb, sC0, sCs, i64_w, i32_w];rfl);refine pureW (i := 17) (N := some 72) (v := ?_) (a' := ?_) #[true, true, true, true, true, true, true, true, true, true, true, true, true, true, true, true, true, true] rfl rfl (by kernel_rfl) (fun _ _ _ h => h) ⟨Or.inl ⟨by rfl, ?_⟩, fun _ => rfl⟩ ?_ ?_;rotate_left;(intro w';go_simp;with_reducible rfl);rotate_left;(simp only [Act.put, sIb, sC0, sCs, i64_w, i32_w];rfl)
       refine doneW (by kernel_rfl) ?_
      rotate_left 1
      focus
       refine valueW (w1 := ?_) (v := ?_) (by rfl) rfl ?_ ?_
       rotate_left 2
       ·go_simp
        constructor;(rfl);(rfl)
       refine hK.out _ _ ?_;clear hK K;refine normW (a' := ?_) ?_ ?_;rotate_left
       ·show Act.put _ (some 67) _ = _
        simp only [Act.put, sIb, sC0, sCs, i64_w, i32_w];rfl
       refine twoW (i := 8) (j := 13) (Ni := some 63) (Nj := some 68) #[true, true, true, true, true, true, true, true, true, true, true, true, true, false, false, false, false, false] #[true, true, true, true, true, true, true, true, false, true, true, true, true, true, false, false, false, false] rfl rfl rfl rfl (by kernel_rfl) (fun K hK => ?_) (fun K hK => ?_)
       focus
        refine valueW (w1 := ?_) (v := ?_) (by rfl) rfl ?_ ?_
        rotate_left 2
        ·go_simp
         constructor;(rfl);(rfl)
        refine hK.out _ _ ?_;clear hK K;refine normW (a' := ?_) ?_ ?_;rotate_left
        ·show Act.put _ (some 63) _ = _
         simp only [Act.put, sIb, sC0, sCs, i64_w, i32_w];rfl
        refine oneW (i := 13) (N := some 68) #[true, true, true, true, true, true, true, true, true, true, true, true, true, true, false, false, false, false] rfl rfl (by kernel_rfl) (fun K hK => ?_)
        refine goesW Try.func35 (by kernel_rfl) rfl #[.agg #[.int .i64 e.f0, .int .i64 e.f1, .int .i64 e.f2, .bool e.f3]] (by rfl) rfl rfl (by simp only [List.map_toArray, List.map_cons, List.map_nil]; rfl) ?_
        with_reducible refine (extent_end.calls e.f0 e.f1 e.f2 e.f3 en _ HENF.out).mono ?_
        rintro r6 w3yee ⟨rfl, hb3yee⟩
        refine ⟨_, rfl, ?_⟩
        clear hce0 hce1 hce2 hce3
        have hbz3yee : ∀ b ∈ bs, b < _ := fun b hb => Nat.lt_trans (hbs b hb) (Nat.lt_trans (Nat.lt_succ_self d) (hRd _ HR3ye.out))
        have HI3yee := Aside0.mk (hIB _ _ _ HI3ye.out hb3yee)
        have HR3yee := Aside0.mk (hRB _ _ HR3ye.out hb3yee)
        have HBL3yee := Aside0.mk (HBL3ye.out.below hbz3yee hb3yee)
        have HBF3yee := Aside0.mk (HBF3ye.out.below hbz3yee hb3yee)
        have HBT3yee := Aside0.mk (HBT3ye.out.below hbz3yee hb3yee)
        have HE3yee := Aside0.mk (HE3ye.out.below hbz3yee hb3yee)
        clear hbz3yee
        have hce0 := (blk_cell HE3yee.out.at_ 0).trans rfl
        have hce1 := (blk_cell HE3yee.out.at_ 1).trans rfl
        have hce2 := (blk_cell HE3yee.out.at_ 2).trans rfl
        have hce3 := (blk_cell HE3yee.out.at_ 3).trans rfl
        refine hK.out _ _ ?_;clear hK K;refine normW (a' := ?_) ?_ ?_;rotate_left
        ·show Act.put _ (some 68) _ = _
         simp only [Act.put, sIb, sC0, sCs, i64_w, i32_w];rfl
        refine oneW (i := 14) (N := some 69) #[true, true, true, true, true, true, true, true, true, true, true, true, true, true, true, false, false, false] rfl rfl (by kernel_rfl) (fun K hK => ?_)
        refine goesW Try.func67 (by kernel_rfl) rfl #[.agg #[.int .i64 e.f0, .int .i64 e.f1, .int .i64 e.f2, .bool e.f3], .int .i64 mab, .int .i64 en] (by rfl) rfl rfl (by simp only [List.map_toArray, List.map_cons, List.map_nil]; rfl) ?_
        with_reducible refine (part_calls e mab en _ HMY.out (by have := HBD.out; omega) (by have := HBD.out; omega) (by have := HBD.out; omega) (by have := HBD.out; omega)).mono ?_
        rintro r6 w3yep ⟨rfl, hb3yep⟩
        refine ⟨_, rfl, ?_⟩
        clear hce0 hce1 hce2 hce3
        have hbz3yep : ∀ b ∈ bs, b < _ := fun b hb => Nat.lt_trans (hbs b hb) (Nat.lt_trans (Nat.lt_succ_self d) (hRd _ HR3yee.out))
        have HI3yep := Aside0.mk (hIB _ _ _ HI3yee.out hb3yep)
        have HR3yep := Aside0.mk (hRB _ _ HR3yee.out hb3yep)
        have HBL3yep := Aside0.mk (HBL3yee.out.below hbz3yep hb3yep)
        have HBF3yep := Aside0.mk (HBF3yee.out.below hbz3yep hb3yep)
        have HBT3yep := Aside0.mk (HBT3yee.out.below hbz3yep hb3yep)
        have HE3yep := Aside0.mk (HE3yee.out.below hbz3yep hb3yep)
        clear hbz3yep;refine hK.out _ _ ?_;clear hK K;refine normW (a' := ?_) ?_ ?_;rotate_left
        ·show Act.put _ (some 69) _ = _
         simp only [Act.put, sIb, sC0, sCs, i64_w, i32_w];rfl
        refine oneW (i := 15) (N := some 70) #[true, true, true, true, true, true, true, true, true, true, true, true, true, true, true, true, false, false] rfl rfl (by kernel_rfl) (fun K hK => ?_)
        refine yieldW #[.agg #[.int .i64 (partE e mab en).f0, .int .i64 (partE e mab en).f1, .int .i64 (partE e mab en).f2, .bool (partE e mab en).f3], .bool false] (by rfl) rfl rfl rfl (by simp only [List.map_toArray, List.map_cons, List.map_nil]; rfl) (hY (P0 ++ [(partE e e.f0 a, false)]) (partE e mab en, false) _ HI3yep.out HR3yep.out (by have := HPN.out; have := hN; (try simp only [List.length_append, List.length_cons, List.length_nil]); omega)) ?_
        intro r w3yey h9
        obtain ⟨rfl, hI3yey, hR3yey, hK3yey⟩ := h9.elim id (fun h => by obtain ⟨_, c, hF, _⟩ := h; exact hF.elim)
        have HI3yey := Aside0.mk hI3yey
        have HR3yey := Aside0.mk hR3yey
        have HBL3yey := Aside0.mk (HBL3yep.out.kept hK3yey)
        have HBF3yey := Aside0.mk (HBF3yep.out.kept hK3yey)
        have HBT3yey := Aside0.mk (HBT3yep.out.kept hK3yey)
        have HE3yey := Aside0.mk (HE3yep.out.kept hK3yey)
        clear hI3yey hR3yey hK3yey
        refine ⟨_, rfl, ?_⟩
        refine hK.out _ _ ?_;clear hK K;refine normW (a' := ?_) ?_ ?_;rotate_left
        ·show Act.put _ (some 70) _ = _
         simp only [Act.put, sIb, sC0, sCs, i64_w, i32_w];rfl
        refine pureW (i := 16) (N := some 71) (v := ?_) (a' := ?_) #[true, true, true, true, true, true, true, true, true, true, true, true, true, true, true, true, true, false] rfl rfl (by kernel_rfl) (fun _ _ _ h => h) ⟨Or.inl ⟨by rfl, ?_⟩, fun _ => rfl⟩ ?_ ?_;rotate_left;(intro w';go_simp;with_reducible rfl);rotate_left;(simp only [Act.put, sIb, sC0, sCs, i64_w, i32_w];rfl);refine pureW (i := 17) (N := some 72) (v := ?_) (a' := ?_) #[true, true, true, true, true, true, true, true, true, true, true, true, true, true, true, true, true, true] rfl rfl (by kernel_rfl) (fun _ _ _ h => h) ⟨Or.inl ⟨by rfl, ?_⟩, fun _ => rfl⟩ ?_ ?_;rotate_left;(intro w';go_simp;with_reducible rfl);rotate_left;(simp only [Act.put, sIb, sC0, sCs, i64_w, i32_w];rfl)
        refine doneW (by kernel_rfl) ?_
       rotate_left 1
       focus
        refine goesW Try.func35 (by kernel_rfl) rfl #[.agg #[.int .i64 e.f0, .int .i64 e.f1, .int .i64 e.f2, .bool e.f3]] (by rfl) rfl rfl (by simp only [List.map_toArray, List.map_cons, List.map_nil]; rfl) ?_
        with_reducible refine (extent_end.calls e.f0 e.f1 e.f2 e.f3 en _ HENF.out).mono ?_
        rintro r6 w3yee ⟨rfl, hb3yee⟩
        refine ⟨_, rfl, ?_⟩
        clear hce0 hce1 hce2 hce3
        have hbz3yee : ∀ b ∈ bs, b < _ := fun b hb => Nat.lt_trans (hbs b hb) (Nat.lt_trans (Nat.lt_succ_self d) (hRd _ HR3ye.out))
        have HI3yee := Aside0.mk (hIB _ _ _ HI3ye.out hb3yee)
        have HR3yee := Aside0.mk (hRB _ _ HR3ye.out hb3yee)
        have HBL3yee := Aside0.mk (HBL3ye.out.below hbz3yee hb3yee)
        have HBF3yee := Aside0.mk (HBF3ye.out.below hbz3yee hb3yee)
        have HBT3yee := Aside0.mk (HBT3ye.out.below hbz3yee hb3yee)
        have HE3yee := Aside0.mk (HE3ye.out.below hbz3yee hb3yee)
        clear hbz3yee
        have hce0 := (blk_cell HE3yee.out.at_ 0).trans rfl
        have hce1 := (blk_cell HE3yee.out.at_ 1).trans rfl
        have hce2 := (blk_cell HE3yee.out.at_ 2).trans rfl
        have hce3 := (blk_cell HE3yee.out.at_ 3).trans rfl
        refine hK.out _ _ ?_;clear hK K;refine normW (a' := ?_) ?_ ?_;rotate_left
        ·show Act.put _ (some 68) _ = _
         simp only [Act.put, sIb, sC0, sCs, i64_w, i32_w];rfl
        refine oneW (i := 8) (N := some 63) #[true, true, true, true, true, true, true, true, true, true, true, true, true, true, false, false, false, false] rfl rfl (by kernel_rfl) (fun K hK => ?_)
        refine valueW (w1 := ?_) (v := ?_) (by rfl) rfl ?_ ?_
        rotate_left 2
        ·go_simp
         constructor;(rfl);(rfl)
        refine hK.out _ _ ?_;clear hK K;refine normW (a' := ?_) ?_ ?_;rotate_left
        ·show Act.put _ (some 63) _ = _
         simp only [Act.put, sIb, sC0, sCs, i64_w, i32_w];rfl
        refine oneW (i := 14) (N := some 69) #[true, true, true, true, true, true, true, true, true, true, true, true, true, true, true, false, false, false] rfl rfl (by kernel_rfl) (fun K hK => ?_)
        refine goesW Try.func67 (by kernel_rfl) rfl #[.agg #[.int .i64 e.f0, .int .i64 e.f1, .int .i64 e.f2, .bool e.f3], .int .i64 mab, .int .i64 en] (by rfl) rfl rfl (by simp only [List.map_toArray, List.map_cons, List.map_nil]; rfl) ?_
        with_reducible refine (part_calls e mab en _ HMY.out (by have := HBD.out; omega) (by have := HBD.out; omega) (by have := HBD.out; omega) (by have := HBD.out; omega)).mono ?_
        rintro r6 w3yep ⟨rfl, hb3yep⟩
        refine ⟨_, rfl, ?_⟩
        clear hce0 hce1 hce2 hce3
        have hbz3yep : ∀ b ∈ bs, b < _ := fun b hb => Nat.lt_trans (hbs b hb) (Nat.lt_trans (Nat.lt_succ_self d) (hRd _ HR3yee.out))
        have HI3yep := Aside0.mk (hIB _ _ _ HI3yee.out hb3yep)
        have HR3yep := Aside0.mk (hRB _ _ HR3yee.out hb3yep)
        have HBL3yep := Aside0.mk (HBL3yee.out.below hbz3yep hb3yep)
        have HBF3yep := Aside0.mk (HBF3yee.out.below hbz3yep hb3yep)
        have HBT3yep := Aside0.mk (HBT3yee.out.below hbz3yep hb3yep)
        have HE3yep := Aside0.mk (HE3yee.out.below hbz3yep hb3yep)
        clear hbz3yep;refine hK.out _ _ ?_;clear hK K;refine normW (a' := ?_) ?_ ?_;rotate_left
        ·show Act.put _ (some 69) _ = _
         simp only [Act.put, sIb, sC0, sCs, i64_w, i32_w];rfl
        refine oneW (i := 15) (N := some 70) #[true, true, true, true, true, true, true, true, true, true, true, true, true, true, true, true, false, false] rfl rfl (by kernel_rfl) (fun K hK => ?_)
        refine yieldW #[.agg #[.int .i64 (partE e mab en).f0, .int .i64 (partE e mab en).f1, .int .i64 (partE e mab en).f2, .bool (partE e mab en).f3], .bool false] (by rfl) rfl rfl rfl (by simp only [List.map_toArray, List.map_cons, List.map_nil]; rfl) (hY (P0 ++ [(partE e e.f0 a, false)]) (partE e mab en, false) _ HI3yep.out HR3yep.out (by have := HPN.out; have := hN; (try simp only [List.length_append, List.length_cons, List.length_nil]); omega)) ?_
        intro r w3yey h9
        obtain ⟨rfl, hI3yey, hR3yey, hK3yey⟩ := h9.elim id (fun h => by obtain ⟨_, c, hF, _⟩ := h; exact hF.elim)
        have HI3yey := Aside0.mk hI3yey
        have HR3yey := Aside0.mk hR3yey
        have HBL3yey := Aside0.mk (HBL3yep.out.kept hK3yey)
        have HBF3yey := Aside0.mk (HBF3yep.out.kept hK3yey)
        have HBT3yey := Aside0.mk (HBT3yep.out.kept hK3yey)
        have HE3yey := Aside0.mk (HE3yep.out.kept hK3yey)
        clear hI3yey hR3yey hK3yey
        refine ⟨_, rfl, ?_⟩
        refine hK.out _ _ ?_;clear hK K;refine normW (a' := ?_) ?_ ?_;rotate_left
        ·show Act.put _ (some 70) _ = _
         simp only [Act.put, sIb, sC0, sCs, i64_w, i32_w];rfl
        refine pureW (i := 16) (N := some 71) (v := ?_) (a' := ?_) #[true, true, true, true, true, true, true, true, true, true, true, true, true, true, true, true, true, false] rfl rfl (by kernel_rfl) (fun _ _ _ h => h) ⟨Or.inl ⟨by rfl, ?_⟩, fun _ => rfl⟩ ?_ ?_;rotate_left;(intro w';go_simp;with_reducible rfl);rotate_left;(simp only [Act.put, sIb, sC0, sCs, i64_w, i32_w];rfl);refine pureW (i := 17) (N := some 72) (v := ?_) (a' := ?_) #[true, true, true, true, true, true, true, true, true, true, true, true, true, true, true, true, true, true] rfl rfl (by kernel_rfl) (fun _ _ _ h => h) ⟨Or.inl ⟨by rfl, ?_⟩, fun _ => rfl⟩ ?_ ?_;rotate_left;(intro w';go_simp;with_reducible rfl);rotate_left;(simp only [Act.put, sIb, sC0, sCs, i64_w, i32_w];rfl)
        refine doneW (by kernel_rfl) ?_
      all_goals
       have HQ := Aside0.mk (show ((P0 ++ [(partE e e.f0 a, false)]) ++ [(partE e mab en, false)]) = piecesL (L.take (i + 1)) lo hi by
        rw [HE.out]
        unfold piecesL
        rw [List.flatMap_append, List.flatMap_cons, List.flatMap_nil, List.append_nil]
        show _ = piecesL (L.take i) lo hi ++ pieces3 e lo hi
        rw [← HP.out]
        unfold pieces3
        rw [HA.out, HB.out, HMAB.out, HEN.out, if_pos (by have := HC1.out; omega), if_neg (by have := HC2.out; omega), if_pos (by have := HC3.out; omega)]; simp)
       gi_wp2
       go_wp2
       go_roundg g
       case measure => omega
       case rel => exact ⟨i + 1, by rw [HIW.out], ⟨by have := HK.out; omega⟩, ⟨by rw [← HQ.out]; exact HI3yey.out⟩, HR3yey, HBL3yey, HBF3yey, HBT3yey⟩
     ·skip
      have hd1 : decide (e.f0 < a) = true := decide_eq_true hc1
      have HC1 := Aside0.mk hc1
      have hd2 : decide (a < b) = false := decide_eq_false hc2
      have HC2 := Aside0.mk hc2
      have hd3 : decide (mab < en) = false := decide_eq_false hc3
      have HC3 := Aside0.mk hc3
      clear hc1 hc2 hc3
      have hce0 := (blk_cell HE3.out.at_ 0).trans rfl
      have hce1 := (blk_cell HE3.out.at_ 1).trans rfl
      have hce2 := (blk_cell HE3.out.at_ 2).trans rfl
      have hce3 := (blk_cell HE3.out.at_ 3).trans rfl
      gi_wp2_with (first | (refine ⟨trivial, ?_⟩; gi_at_call 67; refine (callsIn_wide.2 (part_calls e e.f0 a _ HMY.out (by have := HBD.out; omega) (by have := HBD.out; omega) (by have := HBD.out; omega) (by have := HBD.out; omega))).mono ?_; rintro r w3c ⟨rfl, hb3c⟩; have hbz3c : ∀ b ∈ bs, b < _ := fun b hb => Nat.lt_trans (hbs b hb) (Nat.lt_trans (Nat.lt_succ_self d) (hRd _ HR3.out)); have HI3c := Aside0.mk (hIB _ _ _ HI3.out hb3c); have HR3c := Aside0.mk (hRB _ _ HR3.out hb3c); have HBL3c := Aside0.mk (HBL3.out.below hbz3c hb3c); have HBF3c := Aside0.mk (HBF3.out.below hbz3c hb3c); have HBT3c := Aside0.mk (HBT3.out.below hbz3c hb3c); have HE3c := Aside0.mk (HE3.out.below hbz3c hb3c); clear hbz3c; obtain ⟨fn, tmps, assign, body, hy, hRd4⟩ := hY P0 (partE e e.f0 a, false) w3c HI3c.out HR3c.out (by have := HPN.out; have := hN; (try simp only [List.length_append, List.length_cons, List.length_nil]); omega)) | ((with_reducible refine And.intro ?_ ?_); (first | exact trivial | exact fun _ _ => trivial)))
      refine hRd4.mono ?_
      clear hce0 hce1 hce2 hce3
      intro r w3y h9
      obtain ⟨rfl, hI3y, hR3y, hK3y⟩ := h9.elim id (fun h => by obtain ⟨_, c, hF, _⟩ := h; exact hF.elim)
      have HI3y := Aside0.mk hI3y
      have HR3y := Aside0.mk hR3y
      have HBL3y := Aside0.mk (HBL3c.out.kept hK3y)
      have HBF3y := Aside0.mk (HBF3c.out.kept hK3y)
      have HBT3y := Aside0.mk (HBT3c.out.kept hK3y)
      have HE3y := Aside0.mk (HE3c.out.kept hK3y)
      clear hI3y hR3y hK3y hy hRd4
      have hce0 := (blk_cell HE3y.out.at_ 0).trans rfl
      have hce1 := (blk_cell HE3y.out.at_ 1).trans rfl
      have hce2 := (blk_cell HE3y.out.at_ 2).trans rfl
      have hce3 := (blk_cell HE3y.out.at_ 3).trans rfl
      gi_wp2_with ((with_reducible refine And.intro ?_ ?_); (first | exact trivial | exact fun _ _ => trivial))
      refine startW (m := 18) #[false, false, false, false, false, false, false, false, false, false, false, false, false, false, false, false, false, false] (by kernel_rfl) rfl rfl ?_;refine pureW (i := 2) (N := some 57) (v := ?_) (a' := ?_) #[false, false, true, false, false, false, false, false, false, false, false, false, false, false, false, false, false, false] rfl rfl (by kernel_rfl) (fun _ _ _ h => h) ⟨Or.inl ⟨by rfl, ?_⟩, fun _ => rfl⟩ ?_ ?_;rotate_left;(intro w';go_simp;with_reducible rfl);rotate_left;(simp only [Act.put, sIb, sC0, sCs, i64_w, i32_w];rfl);refine pureW (i := 3) (N := some 58) (v := ?_) (a' := ?_) #[false, false, true, true, false, false, false, false, false, false, false, false, false, false, false, false, false, false] rfl rfl (by kernel_rfl) (fun _ _ _ h => h) ⟨Or.inl ⟨by rfl, ?_⟩, fun _ => rfl⟩ ?_ ?_;rotate_left;(intro w';go_simp;with_reducible rfl);rotate_left;(simp only [Act.put, sIb, sC0, sCs, i64_w, i32_w];rfl);refine pureW (i := 4) (N := some 59) (v := ?_) (a' := ?_) #[false, false, true, true, true, false, false, false, false, false, false, false, false, false, false, false, false, false] rfl rfl (by kernel_rfl) (fun _ _ _ h => h) ⟨Or.inl ⟨by rfl, ?_⟩, fun _ => rfl⟩ ?_ ?_;rotate_left;(intro w';go_simp;with_reducible rfl);rotate_left;(simp only [Act.put, sIb, sC0, sCs, i64_w, i32_w];rfl)
      refine oneW (i := 0) (N := some 55) #[true, false, true, true, true, false, false, false, false, false, false, false, false, false, false, false, false, false] rfl rfl (by kernel_rfl) (fun K hK => ?_)
      refine valueW (w1 := ?_) (v := ?_) (by rfl) rfl ?_ ?_
      rotate_left 2
      ·go_simp
       constructor;(rfl);(rfl)
      refine hK.out _ _ ?_;clear hK K;refine normW (a' := ?_) ?_ ?_;rotate_left
      ·show Act.put _ (some 55) _ = _
       simp only [Act.put, sIb, sC0, sCs, i64_w, i32_w];rfl
      refine oneW (i := 1) (N := some 56) #[true, true, true, true, true, false, false, false, false, false, false, false, false, false, false, false, false, false] rfl rfl (by kernel_rfl) (fun K hK => ?_)
      refine goesW Try.func35 (by kernel_rfl) rfl #[.agg #[.int .i64 e.f0, .int .i64 e.f1, .int .i64 e.f2, .bool e.f3]] (by rfl) rfl rfl (by simp only [List.map_toArray, List.map_cons, List.map_nil]; rfl) ?_
      with_reducible refine (extent_end.calls e.f0 e.f1 e.f2 e.f3 en _ HENF.out).mono ?_
      rintro r6 w3ye ⟨rfl, hb3ye⟩
      refine ⟨_, rfl, ?_⟩
      clear hce0 hce1 hce2 hce3
      replace hb3ye := (below_drew1 (Below.refl _ w3y)).trans (hb3ye.mono (Nat.le_refl _))
      have hbz3ye : ∀ b ∈ bs, b < _ := fun b hb => Nat.lt_trans (hbs b hb) (Nat.lt_trans (Nat.lt_succ_self d) (hRd _ HR3y.out))
      have HI3ye := Aside0.mk (hIB _ _ _ HI3y.out hb3ye)
      have HR3ye := Aside0.mk (hRB _ _ HR3y.out hb3ye)
      have HBL3ye := Aside0.mk (HBL3y.out.below hbz3ye hb3ye)
      have HBF3ye := Aside0.mk (HBF3y.out.below hbz3ye hb3ye)
      have HBT3ye := Aside0.mk (HBT3y.out.below hbz3ye hb3ye)
      have HE3ye := Aside0.mk (HE3y.out.below hbz3ye hb3ye)
      clear hbz3ye
      have hce0 := (blk_cell HE3ye.out.at_ 0).trans rfl
      have hce1 := (blk_cell HE3ye.out.at_ 1).trans rfl
      have hce2 := (blk_cell HE3ye.out.at_ 2).trans rfl
      have hce3 := (blk_cell HE3ye.out.at_ 3).trans rfl
      refine hK.out _ _ ?_;clear hK K;refine normW (a' := ?_) ?_ ?_;rotate_left
      ·show Act.put _ (some 56) _ = _
       simp only [Act.put, sIb, sC0, sCs, i64_w, i32_w];rfl
      refine pureW (i := 5) (N := some 60) (v := ?_) (a' := ?_) #[true, true, true, true, true, true, false, false, false, false, false, false, false, false, false, false, false, false] rfl rfl (by kernel_rfl) (fun _ _ _ h => h) ⟨Or.inl ⟨by rfl, ?_⟩, fun _ => rfl⟩ ?_ ?_;rotate_left;(intro w';go_simp;with_reducible rfl);rotate_left;(simp only [Act.put, sIb, sC0, sCs, i64_w, i32_w];rfl);refine pureW (i := 6) (N := some 61) (v := ?_) (a' := ?_) #[true, true, true, true, true, true, true, false, false, false, false, false, false, false, false, false, false, false] rfl rfl (by kernel_rfl) (fun _ _ _ h => h) ⟨Or.inl ⟨by rfl, ?_⟩, fun _ => rfl⟩ ?_ ?_;rotate_left;(intro w';go_simp;with_reducible rfl);rotate_left;(simp only [Act.put, sIb, sC0, sCs, i64_w, i32_w];rfl);refine pureW (i := 7) (N := some 62) (v := undef) (a' := ?_) #[true, true, true, true, true, true, true, true, false, false, false, false, false, false, false, false, false, false] rfl rfl (by kernel_rfl) (fun _ _ _ h => h) ⟨Or.inr ⟨by rfl, rfl⟩, fun _ => rfl⟩ ?_ ?_;rotate_left;(simp only [Act.put, sIb, sC0, sCs, i64_w, i32_w];rfl);refine pureW (i := 8) (N := some 63) (v := undef) (a' := ?_) #[true, true, true, true, true, true, true, true, true, false, false, false, false, false, false, false, false, false] rfl rfl (by kernel_rfl) (fun _ _ _ h => h) ⟨Or.inr ⟨by rfl, rfl⟩, fun _ => rfl⟩ ?_ ?_;rotate_left;(simp only [Act.put, sIb, sC0, sCs, i64_w, i32_w];rfl);refine pureW (i := 9) (N := some 64) (v := undef) (a' := ?_) #[true, true, true, true, true, true, true, true, true, true, false, false, false, false, false, false, false, false] rfl rfl (by kernel_rfl) (fun _ _ _ h => h) ⟨Or.inr ⟨by rfl, rfl⟩, fun _ => rfl⟩ ?_ ?_;rotate_left;(simp only [Act.put, sIb, sC0, sCs, i64_w, i32_w];rfl);refine pureW (i := 10) (N := some 65) (v := undef) (a' := ?_) #[true, true, true, true, true, true, true, true, true, true, true, false, false, false, false, false, false, false] rfl rfl (by kernel_rfl) (fun _ _ _ h => h) ⟨Or.inr ⟨by rfl, rfl⟩, fun _ => rfl⟩ ?_ ?_;rotate_left;(simp only [Act.put, sIb, sC0, sCs, i64_w, i32_w];rfl);refine pureW (i := 11) (N := some 66) (v := undef) (a' := ?_) #[true, true, true, true, true, true, true, true, true, true, true, true, false, false, false, false, false, false] rfl rfl (by kernel_rfl) (fun _ _ _ h => h) ⟨Or.inr ⟨by rfl, rfl⟩, fun _ => rfl⟩ ?_ ?_;rotate_left;(simp only [Act.put, sIb, sC0, sCs, i64_w, i32_w];rfl);refine pureW (i := 12) (N := some 67) (v := undef) (a' := ?_) #[true, true, true, true, true, true, true, true, true, true, true, true, true, false, false, false, false, false] rfl rfl (by kernel_rfl) (fun _ _ _ h => h) ⟨Or.inr ⟨by rfl, rfl⟩, fun _ => rfl⟩ ?_ ?_;rotate_left;(simp only [Act.put, sIb, sC0, sCs, i64_w, i32_w];rfl)
      refine oneW (i := 13) (N := some 68) #[true, true, true, true, true, true, true, true, true, true, true, true, true, true, false, false, false, false] rfl rfl (by kernel_rfl) (fun K hK => ?_)
      refine offW (by rfl) ?_
      refine hK.out _ _ ?_;clear hK K;refine normW (a' := ?_) ?_ ?_;rotate_left
      ·show Act.put _ (some 68) _ = _
       simp only [Act.put, sIb, sC0, sCs, i64_w, i32_w];rfl
      refine oneW (i := 14) (N := some 69) #[true, true, true, true, true, true, true, true, true, true, true, true, true, true, true, false, false, false] rfl rfl (by kernel_rfl) (fun K hK => ?_)
      refine offW (by rfl) ?_
      refine hK.out _ _ ?_;clear hK K;refine normW (a' := ?_) ?_ ?_;rotate_left
      ·show Act.put _ (some 69) _ = _
       simp only [Act.put, sIb, sC0, sCs, i64_w, i32_w];rfl
      refine oneW (i := 15) (N := some 70) #[true, true, true, true, true, true, true, true, true, true, true, true, true, true, true, true, false, false] rfl rfl (by kernel_rfl) (fun K hK => ?_)
      refine offW (by rfl) ?_
      refine hK.out _ _ ?_;clear hK K;refine normW (a' := ?_) ?_ ?_;rotate_left
      ·show Act.put _ (some 70) _ = _
       simp only [Act.put, sIb, sC0, sCs, i64_w, i32_w];rfl
      refine pureW (i := 16) (N := some 71) (v := undef) (a' := ?_) #[true, true, true, true, true, true, true, true, true, true, true, true, true, true, true, true, true, false] rfl rfl (by kernel_rfl) (fun _ _ _ h => h) ⟨Or.inr ⟨by rfl, rfl⟩, fun _ => rfl⟩ ?_ ?_;rotate_left;(simp only [Act.put, sIb, sC0, sCs, i64_w, i32_w];rfl);refine pureW (i := 17) (N := some 72) (v := ?_) (a' := ?_) #[true, true, true, true, true, true, true, true, true, true, true, true, true, true, true, true, true, true] rfl rfl (by kernel_rfl) (fun _ _ _ h => h) ⟨Or.inl ⟨by rfl, ?_⟩, fun _ => rfl⟩ ?_ ?_;rotate_left;(intro w';go_simp;with_reducible rfl);rotate_left;(simp only [Act.put, sIb, sC0, sCs, i64_w, i32_w];rfl)
      refine doneW (by kernel_rfl) ?_
      all_goals
       have HQ := Aside0.mk (show (P0 ++ [(partE e e.f0 a, false)]) = piecesL (L.take (i + 1)) lo hi by
        rw [HE.out]
        unfold piecesL
        rw [List.flatMap_append, List.flatMap_cons, List.flatMap_nil, List.append_nil]
        show _ = piecesL (L.take i) lo hi ++ pieces3 e lo hi
        rw [← HP.out]
        unfold pieces3
        rw [HA.out, HB.out, HMAB.out, HEN.out, if_pos (by have := HC1.out; omega), if_neg (by have := HC2.out; omega), if_neg (by have := HC3.out; omega)]; simp)
       gi_wp2
       go_wp2
       go_roundg g
       case measure => omega
       case rel => exact ⟨i + 1, by rw [HIW.out], ⟨by have := HK.out; omega⟩, ⟨by rw [← HQ.out]; exact HI3ye.out⟩, HR3ye, HBL3ye, HBF3ye, HBT3ye⟩
   ·by_cases hc2 : a < b
    ·by_cases hc3 : mab < en
     ·skip
      have hd1 : decide (e.f0 < a) = false := decide_eq_false hc1
      have HC1 := Aside0.mk hc1
      have hd2 : decide (a < b) = true := decide_eq_true hc2
      have HC2 := Aside0.mk hc2
      have hd3 : decide (mab < en) = true := decide_eq_true hc3
      have HC3 := Aside0.mk hc3
      clear hc1 hc2 hc3
      have hce0 := (blk_cell HE3.out.at_ 0).trans rfl
      have hce1 := (blk_cell HE3.out.at_ 1).trans rfl
      have hce2 := (blk_cell HE3.out.at_ 2).trans rfl
      have hce3 := (blk_cell HE3.out.at_ 3).trans rfl
      gi_wp2_with (first | (refine ⟨trivial, ?_⟩; gi_at_call 67; refine (callsIn_wide.2 (part_calls e a b _ HMY.out (by have := HBD.out; omega) (by have := HBD.out; omega) (by have := HBD.out; omega) (by have := HBD.out; omega))).mono ?_; rintro r w3c ⟨rfl, hb3c⟩; have hbz3c : ∀ b ∈ bs, b < _ := fun b hb => Nat.lt_trans (hbs b hb) (Nat.lt_trans (Nat.lt_succ_self d) (hRd _ HR3.out)); have HI3c := Aside0.mk (hIB _ _ _ HI3.out hb3c); have HR3c := Aside0.mk (hRB _ _ HR3.out hb3c); have HBL3c := Aside0.mk (HBL3.out.below hbz3c hb3c); have HBF3c := Aside0.mk (HBF3.out.below hbz3c hb3c); have HBT3c := Aside0.mk (HBT3.out.below hbz3c hb3c); have HE3c := Aside0.mk (HE3.out.below hbz3c hb3c); clear hbz3c; obtain ⟨fn, tmps, assign, body, hy, hRd5⟩ := hY P0 (partE e a b, true) w3c HI3c.out HR3c.out (by have := HPN.out; have := hN; (try simp only [List.length_append, List.length_cons, List.length_nil]); omega)) | ((with_reducible refine And.intro ?_ ?_); (first | exact trivial | exact fun _ _ => trivial)))
      refine hRd5.mono ?_
      clear hce0 hce1 hce2 hce3
      intro r w3y h9
      obtain ⟨rfl, hI3y, hR3y, hK3y⟩ := h9.elim id (fun h => by obtain ⟨_, c, hF, _⟩ := h; exact hF.elim)
      have HI3y := Aside0.mk hI3y
      have HR3y := Aside0.mk hR3y
      have HBL3y := Aside0.mk (HBL3c.out.kept hK3y)
      have HBF3y := Aside0.mk (HBF3c.out.kept hK3y)
      have HBT3y := Aside0.mk (HBT3c.out.kept hK3y)
      have HE3y := Aside0.mk (HE3c.out.kept hK3y)
      clear hI3y hR3y hK3y hy hRd5
      have hce0 := (blk_cell HE3y.out.at_ 0).trans rfl
      have hce1 := (blk_cell HE3y.out.at_ 1).trans rfl
      have hce2 := (blk_cell HE3y.out.at_ 2).trans rfl
      have hce3 := (blk_cell HE3y.out.at_ 3).trans rfl
      gi_wp2_with ((with_reducible refine And.intro ?_ ?_); (first | exact trivial | exact fun _ _ => trivial))
      refine startW (m := 18) #[false, false, false, false, false, false, false, false, false, false, false, false, false, false, false, false, false, false] (by kernel_rfl) rfl rfl ?_;refine pureW (i := 2) (N := some 57) (v := ?_) (a' := ?_) #[false, false, true, false, false, false, false, false, false, false, false, false, false, false, false, false, false, false] rfl rfl (by kernel_rfl) (fun _ _ _ h => h) ⟨Or.inl ⟨by rfl, ?_⟩, fun _ => rfl⟩ ?_ ?_;rotate_left;(intro w';go_simp;with_reducible rfl);rotate_left;(simp only [Act.put, sIb, sC0, sCs, i64_w, i32_w];rfl);refine pureW (i := 3) (N := some 58) (v := ?_) (a' := ?_) #[false, false, true, true, false, false, false, false, false, false, false, false, false, false, false, false, false, false] rfl rfl (by kernel_rfl) (fun _ _ _ h => h) ⟨Or.inl ⟨by rfl, ?_⟩, fun _ => rfl⟩ ?_ ?_;rotate_left;(intro w';go_simp;with_reducible rfl);rotate_left;(simp only [Act.put, sIb, sC0, sCs, i64_w, i32_w];rfl);refine pureW (i := 4) (N := some 59) (v := ?_) (a' := ?_) #[false, false, true, true, true, false, false, false, false, false, false, false, false, false, false, false, false, false] rfl rfl (by kernel_rfl) (fun _ _ _ h => h) ⟨Or.inl ⟨by rfl, ?_⟩, fun _ => rfl⟩ ?_ ?_;rotate_left;(intro w';go_simp;with_reducible rfl);rotate_left;(simp only [Act.put, sIb, sC0, sCs, i64_w, i32_w];rfl)
      refine oneW (i := 0) (N := some 55) #[true, false, true, true, true, false, false, false, false, false, false, false, false, false, false, false, false, false] rfl rfl (by kernel_rfl) (fun K hK => ?_)
      refine valueW (w1 := ?_) (v := ?_) (by rfl) rfl ?_ ?_
      rotate_left 2
      ·go_simp
       constructor;(rfl);(rfl)
      refine hK.out _ _ ?_;clear hK K;refine normW (a' := ?_) ?_ ?_;rotate_left
      ·show Act.put _ (some 55) _ = _
       simp only [Act.put, sIb, sC0, sCs, i64_w, i32_w];rfl
      refine oneW (i := 1) (N := some 56) #[true, true, true, true, true, false, false, false, false, false, false, false, false, false, false, false, false, false] rfl rfl (by kernel_rfl) (fun K hK => ?_)
      refine goesW Try.func35 (by kernel_rfl) rfl #[.agg #[.int .i64 e.f0, .int .i64 e.f1, .int .i64 e.f2, .bool e.f3]] (by rfl) rfl rfl (by simp only [List.map_toArray, List.map_cons, List.map_nil]; rfl) ?_
      with_reducible refine (extent_end.calls e.f0 e.f1 e.f2 e.f3 en _ HENF.out).mono ?_
      rintro r6 w3ye ⟨rfl, hb3ye⟩
      refine ⟨_, rfl, ?_⟩
      clear hce0 hce1 hce2 hce3
      replace hb3ye := (below_drew1 (Below.refl _ w3y)).trans (hb3ye.mono (Nat.le_refl _))
      have hbz3ye : ∀ b ∈ bs, b < _ := fun b hb => Nat.lt_trans (hbs b hb) (Nat.lt_trans (Nat.lt_succ_self d) (hRd _ HR3y.out))
      have HI3ye := Aside0.mk (hIB _ _ _ HI3y.out hb3ye)
      have HR3ye := Aside0.mk (hRB _ _ HR3y.out hb3ye)
      have HBL3ye := Aside0.mk (HBL3y.out.below hbz3ye hb3ye)
      have HBF3ye := Aside0.mk (HBF3y.out.below hbz3ye hb3ye)
      have HBT3ye := Aside0.mk (HBT3y.out.below hbz3ye hb3ye)
      have HE3ye := Aside0.mk (HE3y.out.below hbz3ye hb3ye)
      clear hbz3ye
      have hce0 := (blk_cell HE3ye.out.at_ 0).trans rfl
      have hce1 := (blk_cell HE3ye.out.at_ 1).trans rfl
      have hce2 := (blk_cell HE3ye.out.at_ 2).trans rfl
      have hce3 := (blk_cell HE3ye.out.at_ 3).trans rfl
      refine hK.out _ _ ?_;clear hK K;refine normW (a' := ?_) ?_ ?_;rotate_left
      ·show Act.put _ (some 56) _ = _
       simp only [Act.put, sIb, sC0, sCs, i64_w, i32_w];rfl
      refine pureW (i := 5) (N := some 60) (v := ?_) (a' := ?_) #[true, true, true, true, true, true, false, false, false, false, false, false, false, false, false, false, false, false] rfl rfl (by kernel_rfl) (fun _ _ _ h => h) ⟨Or.inl ⟨by rfl, ?_⟩, fun _ => rfl⟩ ?_ ?_;rotate_left;(intro w';go_simp;with_reducible rfl);rotate_left;(simp only [Act.put, sIb, sC0, sCs, i64_w, i32_w];rfl);refine pureW (i := 6) (N := some 61) (v := ?_) (a' := ?_) #[true, true, true, true, true, true, true, false, false, false, false, false, false, false, false, false, false, false] rfl rfl (by kernel_rfl) (fun _ _ _ h => h) ⟨Or.inl ⟨by rfl, ?_⟩, fun _ => rfl⟩ ?_ ?_;rotate_left;(intro w';go_simp;with_reducible rfl);rotate_left;(simp only [Act.put, sIb, sC0, sCs, i64_w, i32_w];rfl);refine pureW (i := 7) (N := some 62) (v := ?_) (a' := ?_) #[true, true, true, true, true, true, true, true, false, false, false, false, false, false, false, false, false, false] rfl rfl (by kernel_rfl) (fun _ _ _ h => h) ⟨Or.inl ⟨by rfl, ?_⟩, fun _ => rfl⟩ ?_ ?_;rotate_left;(intro w';go_simp;with_reducible rfl);rotate_left;(simp only [Act.put, sIb, sC0, sCs, i64_w, i32_w];rfl);refine pureW (i := 9) (N := some 64) (v := ?_) (a' := ?_) #[true, true, true, true, true, true, true, true, false, true, false, false, false, false, false, false, false, false] rfl rfl (by kernel_rfl) (fun _ _ _ h => h) ⟨Or.inl ⟨by rfl, ?_⟩, fun _ => rfl⟩ ?_ ?_;rotate_left;(intro w';go_simp;with_reducible rfl);rotate_left;(simp only [Act.put, sIb, sC0, sCs, i64_w, i32_w];rfl);refine pureW (i := 10) (N := some 65) (v := ?_) (a' := ?_) #[true, true, true, true, true, true, true, true, false, true, true, false, false, false, false, false, false, false] rfl rfl (by kernel_rfl) (fun _ _ _ h => h) ⟨Or.inl ⟨by rfl, ?_⟩, fun _ => rfl⟩ ?_ ?_;rotate_left;(intro w';go_simp;with_reducible rfl);rotate_left;(simp only [Act.put, sIb, sC0, sCs, i64_w, i32_w];rfl);refine pureW (i := 11) (N := some 66) (v := ?_) (a' := ?_) #[true, true, true, true, true, true, true, true, false, true, true, true, false, false, false, false, false, false] rfl rfl (by kernel_rfl) (fun _ _ _ h => h) ⟨Or.inl ⟨by rfl, ?_⟩, fun _ => rfl⟩ ?_ ?_;rotate_left;(intro w';go_simp;with_reducible rfl);rotate_left;(simp only [Act.put, sIb, sC0, sCs, i64_w, i32_w];rfl)
      refine twoW (i := 8) (j := 12) (Ni := some 63) (Nj := some 67) #[true, true, true, true, true, true, true, true, true, true, true, true, false, false, false, false, false, false] #[true, true, true, true, true, true, true, true, false, true, true, true, true, false, false, false, false, false] rfl rfl rfl rfl (by kernel_rfl) (fun K hK => ?_) (fun K hK => ?_)
      focus
       refine valueW (w1 := ?_) (v := ?_) (by rfl) rfl ?_ ?_
       rotate_left 2
       ·go_simp
        constructor;(rfl);(rfl)
       refine hK.out _ _ ?_;clear hK K;refine normW (a' := ?_) ?_ ?_;rotate_left
       ·show Act.put _ (some 63) _ = _
        simp only [Act.put, sIb, sC0, sCs, i64_w, i32_w];rfl
       refine oneW (i := 12) (N := some 67) #[true, true, true, true, true, true, true, true, true, true, true, true, true, false, false, false, false, false] rfl rfl (by kernel_rfl) (fun K hK => ?_)
       refine valueW (w1 := ?_) (v := ?_) (by rfl) rfl ?_ ?_
       rotate_left 2
       ·go_simp
        constructor;(rfl);(rfl)
       refine hK.out _ _ ?_;clear hK K;refine normW (a' := ?_) ?_ ?_;rotate_left
       ·show Act.put _ (some 67) _ = _
        simp only [Act.put, sIb, sC0, sCs, i64_w, i32_w];rfl
       refine oneW (i := 13) (N := some 68) #[true, true, true, true, true, true, true, true, true, true, true, true, true, true, false, false, false, false] rfl rfl (by kernel_rfl) (fun K hK => ?_)
       refine goesW Try.func35 (by kernel_rfl) rfl #[.agg #[.int .i64 e.f0, .int .i64 e.f1, .int .i64 e.f2, .bool e.f3]] (by rfl) rfl rfl (by simp only [List.map_toArray, List.map_cons, List.map_nil]; rfl) ?_
       with_reducible refine (extent_end.calls e.f0 e.f1 e.f2 e.f3 en _ HENF.out).mono ?_
       rintro r6 w3yee ⟨rfl, hb3yee⟩
       refine ⟨_, rfl, ?_⟩
       clear hce0 hce1 hce2 hce3
       have hbz3yee : ∀ b ∈ bs, b < _ := fun b hb => Nat.lt_trans (hbs b hb) (Nat.lt_trans (Nat.lt_succ_self d) (hRd _ HR3ye.out))
       have HI3yee := Aside0.mk (hIB _ _ _ HI3ye.out hb3yee)
       have HR3yee := Aside0.mk (hRB _ _ HR3ye.out hb3yee)
       have HBL3yee := Aside0.mk (HBL3ye.out.below hbz3yee hb3yee)
       have HBF3yee := Aside0.mk (HBF3ye.out.below hbz3yee hb3yee)
       have HBT3yee := Aside0.mk (HBT3ye.out.below hbz3yee hb3yee)
       have HE3yee := Aside0.mk (HE3ye.out.below hbz3yee hb3yee)
       clear hbz3yee
       have hce0 := (blk_cell HE3yee.out.at_ 0).trans rfl
       have hce1 := (blk_cell HE3yee.out.at_ 1).trans rfl
       have hce2 := (blk_cell HE3yee.out.at_ 2).trans rfl
       have hce3 := (blk_cell HE3yee.out.at_ 3).trans rfl
       refine hK.out _ _ ?_;clear hK K;refine normW (a' := ?_) ?_ ?_;rotate_left
       ·show Act.put _ (some 68) _ = _
        simp only [Act.put, sIb, sC0, sCs, i64_w, i32_w];rfl
       refine oneW (i := 14) (N := some 69) #[true, true, true, true, true, true, true, true, true, true, true, true, true, true, true, false, false, false] rfl rfl (by kernel_rfl) (fun K hK => ?_)
       refine goesW Try.func67 (by kernel_rfl) rfl #[.agg #[.int .i64 e.f0, .int .i64 e.f1, .int .i64 e.f2, .bool e.f3], .int .i64 mab, .int .i64 en] (by rfl) rfl rfl (by simp only [List.map_toArray, List.map_cons, List.map_nil]; rfl) ?_
       with_reducible refine (part_calls e mab en _ HMY.out (by have := HBD.out; omega) (by have := HBD.out; omega) (by have := HBD.out; omega) (by have := HBD.out; omega)).mono ?_
       rintro r6 w3yep ⟨rfl, hb3yep⟩
       refine ⟨_, rfl, ?_⟩
       clear hce0 hce1 hce2 hce3
       have hbz3yep : ∀ b ∈ bs, b < _ := fun b hb => Nat.lt_trans (hbs b hb) (Nat.lt_trans (Nat.lt_succ_self d) (hRd _ HR3yee.out))
       have HI3yep := Aside0.mk (hIB _ _ _ HI3yee.out hb3yep)
       have HR3yep := Aside0.mk (hRB _ _ HR3yee.out hb3yep)
       have HBL3yep := Aside0.mk (HBL3yee.out.below hbz3yep hb3yep)
       have HBF3yep := Aside0.mk (HBF3yee.out.below hbz3yep hb3yep)
       have HBT3yep := Aside0.mk (HBT3yee.out.below hbz3yep hb3yep)
       have HE3yep := Aside0.mk (HE3yee.out.below hbz3yep hb3yep)
       clear hbz3yep;refine hK.out _ _ ?_;clear hK K;refine normW (a' := ?_) ?_ ?_;rotate_left
       ·show Act.put _ (some 69) _ = _
        simp only [Act.put, sIb, sC0, sCs, i64_w, i32_w];rfl
       refine oneW (i := 15) (N := some 70) #[true, true, true, true, true, true, true, true, true, true, true, true, true, true, true, true, false, false] rfl rfl (by kernel_rfl) (fun K hK => ?_)
       refine yieldW #[.agg #[.int .i64 (partE e mab en).f0, .int .i64 (partE e mab en).f1, .int .i64 (partE e mab en).f2, .bool (partE e mab en).f3], .bool false] (by rfl) rfl rfl rfl (by simp only [List.map_toArray, List.map_cons, List.map_nil]; rfl) (hY (P0 ++ [(partE e a b, true)]) (partE e mab en, false) _ HI3yep.out HR3yep.out (by have := HPN.out; have := hN; (try simp only [List.length_append, List.length_cons, List.length_nil]); omega)) ?_
       intro r w3yey h9
       obtain ⟨rfl, hI3yey, hR3yey, hK3yey⟩ := h9.elim id (fun h => by obtain ⟨_, c, hF, _⟩ := h; exact hF.elim)
       have HI3yey := Aside0.mk hI3yey
       have HR3yey := Aside0.mk hR3yey
       have HBL3yey := Aside0.mk (HBL3yep.out.kept hK3yey)
       have HBF3yey := Aside0.mk (HBF3yep.out.kept hK3yey)
       have HBT3yey := Aside0.mk (HBT3yep.out.kept hK3yey)
       have HE3yey := Aside0.mk (HE3yep.out.kept hK3yey)
       clear hI3yey hR3yey hK3yey
       refine ⟨_, rfl, ?_⟩
       refine hK.out _ _ ?_;clear hK K;refine normW (a' := ?_) ?_ ?_;rotate_left
       ·show Act.put _ (some 70) _ = _
        simp only [Act.put, sIb, sC0, sCs, i64_w, i32_w];rfl
       refine pureW (i := 16) (N := some 71) (v := ?_) (a' := ?_) #[true, true, true, true, true, true, true, true, true, true, true, true, true, true, true, true, true, false] rfl rfl (by kernel_rfl) (fun _ _ _ h => h) ⟨Or.inl ⟨by rfl, ?_⟩, fun _ => rfl⟩ ?_ ?_;rotate_left;(intro w';go_simp;with_reducible rfl);rotate_left;(simp only [Act.put, sIb, sC0, sCs, i64_w, i32_w];rfl);refine pureW (i := 17) (N := some 72) (v := ?_) (a' := ?_) #[true, true, true, true, true, true, true, true, true, true, true, true, true, true, true, true, true, true] rfl rfl (by kernel_rfl) (fun _ _ _ h => h) ⟨Or.inl ⟨by rfl, ?_⟩, fun _ => rfl⟩ ?_ ?_;rotate_left;(intro w';go_simp;with_reducible rfl);rotate_left;(simp only [Act.put, sIb, sC0, sCs, i64_w, i32_w];rfl)
       refine doneW (by kernel_rfl) ?_
      rotate_left 1
      focus
       refine valueW (w1 := ?_) (v := ?_) (by rfl) rfl ?_ ?_
       rotate_left 2
       ·go_simp
        constructor;(rfl);(rfl)
       refine hK.out _ _ ?_;clear hK K;refine normW (a' := ?_) ?_ ?_;rotate_left
       ·show Act.put _ (some 67) _ = _
        simp only [Act.put, sIb, sC0, sCs, i64_w, i32_w];rfl
       refine twoW (i := 8) (j := 13) (Ni := some 63) (Nj := some 68) #[true, true, true, true, true, true, true, true, true, true, true, true, true, false, false, false, false, false] #[true, true, true, true, true, true, true, true, false, true, true, true, true, true, false, false, false, false] rfl rfl rfl rfl (by kernel_rfl) (fun K hK => ?_) (fun K hK => ?_)
       focus
        refine valueW (w1 := ?_) (v := ?_) (by rfl) rfl ?_ ?_
        rotate_left 2
        ·go_simp
         constructor;(rfl);(rfl)
        refine hK.out _ _ ?_;clear hK K;refine normW (a' := ?_) ?_ ?_;rotate_left
        ·show Act.put _ (some 63) _ = _
         simp only [Act.put, sIb, sC0, sCs, i64_w, i32_w];rfl
        refine oneW (i := 13) (N := some 68) #[true, true, true, true, true, true, true, true, true, true, true, true, true, true, false, false, false, false] rfl rfl (by kernel_rfl) (fun K hK => ?_)
        refine goesW Try.func35 (by kernel_rfl) rfl #[.agg #[.int .i64 e.f0, .int .i64 e.f1, .int .i64 e.f2, .bool e.f3]] (by rfl) rfl rfl (by simp only [List.map_toArray, List.map_cons, List.map_nil]; rfl) ?_
        with_reducible refine (extent_end.calls e.f0 e.f1 e.f2 e.f3 en _ HENF.out).mono ?_
        rintro r6 w3yee ⟨rfl, hb3yee⟩
        refine ⟨_, rfl, ?_⟩
        clear hce0 hce1 hce2 hce3
        have hbz3yee : ∀ b ∈ bs, b < _ := fun b hb => Nat.lt_trans (hbs b hb) (Nat.lt_trans (Nat.lt_succ_self d) (hRd _ HR3ye.out))
        have HI3yee := Aside0.mk (hIB _ _ _ HI3ye.out hb3yee)
        have HR3yee := Aside0.mk (hRB _ _ HR3ye.out hb3yee)
        have HBL3yee := Aside0.mk (HBL3ye.out.below hbz3yee hb3yee)
        have HBF3yee := Aside0.mk (HBF3ye.out.below hbz3yee hb3yee)
        have HBT3yee := Aside0.mk (HBT3ye.out.below hbz3yee hb3yee)
        have HE3yee := Aside0.mk (HE3ye.out.below hbz3yee hb3yee)
        clear hbz3yee
        have hce0 := (blk_cell HE3yee.out.at_ 0).trans rfl
        have hce1 := (blk_cell HE3yee.out.at_ 1).trans rfl
        have hce2 := (blk_cell HE3yee.out.at_ 2).trans rfl
        have hce3 := (blk_cell HE3yee.out.at_ 3).trans rfl
        refine hK.out _ _ ?_;clear hK K;refine normW (a' := ?_) ?_ ?_;rotate_left
        ·show Act.put _ (some 68) _ = _
         simp only [Act.put, sIb, sC0, sCs, i64_w, i32_w];rfl
        refine oneW (i := 14) (N := some 69) #[true, true, true, true, true, true, true, true, true, true, true, true, true, true, true, false, false, false] rfl rfl (by kernel_rfl) (fun K hK => ?_)
        refine goesW Try.func67 (by kernel_rfl) rfl #[.agg #[.int .i64 e.f0, .int .i64 e.f1, .int .i64 e.f2, .bool e.f3], .int .i64 mab, .int .i64 en] (by rfl) rfl rfl (by simp only [List.map_toArray, List.map_cons, List.map_nil]; rfl) ?_
        with_reducible refine (part_calls e mab en _ HMY.out (by have := HBD.out; omega) (by have := HBD.out; omega) (by have := HBD.out; omega) (by have := HBD.out; omega)).mono ?_
        rintro r6 w3yep ⟨rfl, hb3yep⟩
        refine ⟨_, rfl, ?_⟩
        clear hce0 hce1 hce2 hce3
        have hbz3yep : ∀ b ∈ bs, b < _ := fun b hb => Nat.lt_trans (hbs b hb) (Nat.lt_trans (Nat.lt_succ_self d) (hRd _ HR3yee.out))
        have HI3yep := Aside0.mk (hIB _ _ _ HI3yee.out hb3yep)
        have HR3yep := Aside0.mk (hRB _ _ HR3yee.out hb3yep)
        have HBL3yep := Aside0.mk (HBL3yee.out.below hbz3yep hb3yep)
        have HBF3yep := Aside0.mk (HBF3yee.out.below hbz3yep hb3yep)
        have HBT3yep := Aside0.mk (HBT3yee.out.below hbz3yep hb3yep)
        have HE3yep := Aside0.mk (HE3yee.out.below hbz3yep hb3yep)
        clear hbz3yep;refine hK.out _ _ ?_;clear hK K;refine normW (a' := ?_) ?_ ?_;rotate_left
        ·show Act.put _ (some 69) _ = _
         simp only [Act.put, sIb, sC0, sCs, i64_w, i32_w];rfl
        refine oneW (i := 15) (N := some 70) #[true, true, true, true, true, true, true, true, true, true, true, true, true, true, true, true, false, false] rfl rfl (by kernel_rfl) (fun K hK => ?_)
        refine yieldW #[.agg #[.int .i64 (partE e mab en).f0, .int .i64 (partE e mab en).f1, .int .i64 (partE e mab en).f2, .bool (partE e mab en).f3], .bool false] (by rfl) rfl rfl rfl (by simp only [List.map_toArray, List.map_cons, List.map_nil]; rfl) (hY (P0 ++ [(partE e a b, true)]) (partE e mab en, false) _ HI3yep.out HR3yep.out (by have := HPN.out; have := hN; (try simp only [List.length_append, List.length_cons, List.length_nil]); omega)) ?_
        intro r w3yey h9
        obtain ⟨rfl, hI3yey, hR3yey, hK3yey⟩ := h9.elim id (fun h => by obtain ⟨_, c, hF, _⟩ := h; exact hF.elim)
        have HI3yey := Aside0.mk hI3yey
        have HR3yey := Aside0.mk hR3yey
        have HBL3yey := Aside0.mk (HBL3yep.out.kept hK3yey)
        have HBF3yey := Aside0.mk (HBF3yep.out.kept hK3yey)
        have HBT3yey := Aside0.mk (HBT3yep.out.kept hK3yey)
        have HE3yey := Aside0.mk (HE3yep.out.kept hK3yey)
        clear hI3yey hR3yey hK3yey
        refine ⟨_, rfl, ?_⟩
        refine hK.out _ _ ?_;clear hK K;refine normW (a' := ?_) ?_ ?_;rotate_left
        ·show Act.put _ (some 70) _ = _
         simp only [Act.put, sIb, sC0, sCs, i64_w, i32_w];rfl
        refine pureW (i := 16) (N := some 71) (v := ?_) (a' := ?_) #[true, true, true, true, true, true, true, true, true, true, true, true, true, true, true, true, true, false] rfl rfl (by kernel_rfl) (fun _ _ _ h => h) ⟨Or.inl ⟨by rfl, ?_⟩, fun _ => rfl⟩ ?_ ?_;rotate_left;(intro w';go_simp;with_reducible rfl);rotate_left;(simp only [Act.put, sIb, sC0, sCs, i64_w, i32_w];rfl);refine pureW (i := 17) (N := some 72) (v := ?_) (a' := ?_) #[true, true, true, true, true, true, true, true, true, true, true, true, true, true, true, true, true, true] rfl rfl (by kernel_rfl) (fun _ _ _ h => h) ⟨Or.inl ⟨by rfl, ?_⟩, fun _ => rfl⟩ ?_ ?_;rotate_left;(intro w';go_simp;with_reducible rfl);rotate_left;(simp only [Act.put, sIb, sC0, sCs, i64_w, i32_w];rfl)
        refine doneW (by kernel_rfl) ?_
       rotate_left 1
       focus
        refine goesW Try.func35 (by kernel_rfl) rfl #[.agg #[.int .i64 e.f0, .int .i64 e.f1, .int .i64 e.f2, .bool e.f3]] (by rfl) rfl rfl (by simp only [List.map_toArray, List.map_cons, List.map_nil]; rfl) ?_
        with_reducible refine (extent_end.calls e.f0 e.f1 e.f2 e.f3 en _ HENF.out).mono ?_
        rintro r6 w3yee ⟨rfl, hb3yee⟩
        refine ⟨_, rfl, ?_⟩
        clear hce0 hce1 hce2 hce3
        have hbz3yee : ∀ b ∈ bs, b < _ := fun b hb => Nat.lt_trans (hbs b hb) (Nat.lt_trans (Nat.lt_succ_self d) (hRd _ HR3ye.out))
        have HI3yee := Aside0.mk (hIB _ _ _ HI3ye.out hb3yee)
        have HR3yee := Aside0.mk (hRB _ _ HR3ye.out hb3yee)
        have HBL3yee := Aside0.mk (HBL3ye.out.below hbz3yee hb3yee)
        have HBF3yee := Aside0.mk (HBF3ye.out.below hbz3yee hb3yee)
        have HBT3yee := Aside0.mk (HBT3ye.out.below hbz3yee hb3yee)
        have HE3yee := Aside0.mk (HE3ye.out.below hbz3yee hb3yee)
        clear hbz3yee
        have hce0 := (blk_cell HE3yee.out.at_ 0).trans rfl
        have hce1 := (blk_cell HE3yee.out.at_ 1).trans rfl
        have hce2 := (blk_cell HE3yee.out.at_ 2).trans rfl
        have hce3 := (blk_cell HE3yee.out.at_ 3).trans rfl
        refine hK.out _ _ ?_;clear hK K;refine normW (a' := ?_) ?_ ?_;rotate_left
        ·show Act.put _ (some 68) _ = _
         simp only [Act.put, sIb, sC0, sCs, i64_w, i32_w];rfl
        refine oneW (i := 8) (N := some 63) #[true, true, true, true, true, true, true, true, true, true, true, true, true, true, false, false, false, false] rfl rfl (by kernel_rfl) (fun K hK => ?_)
        refine valueW (w1 := ?_) (v := ?_) (by rfl) rfl ?_ ?_
        rotate_left 2
        ·go_simp
         constructor;(rfl);(rfl)
        refine hK.out _ _ ?_;clear hK K;refine normW (a' := ?_) ?_ ?_;rotate_left
        ·show Act.put _ (some 63) _ = _
         simp only [Act.put, sIb, sC0, sCs, i64_w, i32_w];rfl
        refine oneW (i := 14) (N := some 69) #[true, true, true, true, true, true, true, true, true, true, true, true, true, true, true, false, false, false] rfl rfl (by kernel_rfl) (fun K hK => ?_)
        refine goesW Try.func67 (by kernel_rfl) rfl #[.agg #[.int .i64 e.f0, .int .i64 e.f1, .int .i64 e.f2, .bool e.f3], .int .i64 mab, .int .i64 en] (by rfl) rfl rfl (by simp only [List.map_toArray, List.map_cons, List.map_nil]; rfl) ?_
        with_reducible refine (part_calls e mab en _ HMY.out (by have := HBD.out; omega) (by have := HBD.out; omega) (by have := HBD.out; omega) (by have := HBD.out; omega)).mono ?_
        rintro r6 w3yep ⟨rfl, hb3yep⟩
        refine ⟨_, rfl, ?_⟩
        clear hce0 hce1 hce2 hce3
        have hbz3yep : ∀ b ∈ bs, b < _ := fun b hb => Nat.lt_trans (hbs b hb) (Nat.lt_trans (Nat.lt_succ_self d) (hRd _ HR3yee.out))
        have HI3yep := Aside0.mk (hIB _ _ _ HI3yee.out hb3yep)
        have HR3yep := Aside0.mk (hRB _ _ HR3yee.out hb3yep)
        have HBL3yep := Aside0.mk (HBL3yee.out.below hbz3yep hb3yep)
        have HBF3yep := Aside0.mk (HBF3yee.out.below hbz3yep hb3yep)
        have HBT3yep := Aside0.mk (HBT3yee.out.below hbz3yep hb3yep)
        have HE3yep := Aside0.mk (HE3yee.out.below hbz3yep hb3yep)
        clear hbz3yep;refine hK.out _ _ ?_;clear hK K;refine normW (a' := ?_) ?_ ?_;rotate_left
        ·show Act.put _ (some 69) _ = _
         simp only [Act.put, sIb, sC0, sCs, i64_w, i32_w];rfl
        refine oneW (i := 15) (N := some 70) #[true, true, true, true, true, true, true, true, true, true, true, true, true, true, true, true, false, false] rfl rfl (by kernel_rfl) (fun K hK => ?_)
        refine yieldW #[.agg #[.int .i64 (partE e mab en).f0, .int .i64 (partE e mab en).f1, .int .i64 (partE e mab en).f2, .bool (partE e mab en).f3], .bool false] (by rfl) rfl rfl rfl (by simp only [List.map_toArray, List.map_cons, List.map_nil]; rfl) (hY (P0 ++ [(partE e a b, true)]) (partE e mab en, false) _ HI3yep.out HR3yep.out (by have := HPN.out; have := hN; (try simp only [List.length_append, List.length_cons, List.length_nil]); omega)) ?_
        intro r w3yey h9
        obtain ⟨rfl, hI3yey, hR3yey, hK3yey⟩ := h9.elim id (fun h => by obtain ⟨_, c, hF, _⟩ := h; exact hF.elim)
        have HI3yey := Aside0.mk hI3yey
        have HR3yey := Aside0.mk hR3yey
        have HBL3yey := Aside0.mk (HBL3yep.out.kept hK3yey)
        have HBF3yey := Aside0.mk (HBF3yep.out.kept hK3yey)
        have HBT3yey := Aside0.mk (HBT3yep.out.kept hK3yey)
        have HE3yey := Aside0.mk (HE3yep.out.kept hK3yey)
        clear hI3yey hR3yey hK3yey
        refine ⟨_, rfl, ?_⟩
        refine hK.out _ _ ?_;clear hK K;refine normW (a' := ?_) ?_ ?_;rotate_left
        ·show Act.put _ (some 70) _ = _
         simp only [Act.put, sIb, sC0, sCs, i64_w, i32_w];rfl
        refine pureW (i := 16) (N := some 71) (v := ?_) (a' := ?_) #[true, true, true, true, true, true, true, true, true, true, true, true, true, true, true, true, true, false] rfl rfl (by kernel_rfl) (fun _ _ _ h => h) ⟨Or.inl ⟨by rfl, ?_⟩, fun _ => rfl⟩ ?_ ?_;rotate_left;(intro w';go_simp;with_reducible rfl);rotate_left;(simp only [Act.put, sIb, sC0, sCs, i64_w, i32_w];rfl);refine pureW (i := 17) (N := some 72) (v := ?_) (a' := ?_) #[true, true, true, true, true, true, true, true, true, true, true, true, true, true, true, true, true, true] rfl rfl (by kernel_rfl) (fun _ _ _ h => h) ⟨Or.inl ⟨by rfl, ?_⟩, fun _ => rfl⟩ ?_ ?_;rotate_left;(intro w';go_simp;with_reducible rfl);rotate_left;(simp only [Act.put, sIb, sC0, sCs, i64_w, i32_w];rfl)
        refine doneW (by kernel_rfl) ?_
      all_goals
       have HQ := Aside0.mk (show ((P0 ++ [(partE e a b, true)]) ++ [(partE e mab en, false)]) = piecesL (L.take (i + 1)) lo hi by
        rw [HE.out]
        unfold piecesL
        rw [List.flatMap_append, List.flatMap_cons, List.flatMap_nil, List.append_nil]
        show _ = piecesL (L.take i) lo hi ++ pieces3 e lo hi
        rw [← HP.out]
        unfold pieces3
        rw [HA.out, HB.out, HMAB.out, HEN.out, if_neg (by have := HC1.out; omega), if_pos (by have := HC2.out; omega), if_pos (by have := HC3.out; omega)]; simp)
       gi_wp2
       go_wp2
       go_roundg g
       case measure => omega
       case rel => exact ⟨i + 1, by rw [HIW.out], ⟨by have := HK.out; omega⟩, ⟨by rw [← HQ.out]; exact HI3yey.out⟩, HR3yey, HBL3yey, HBF3yey, HBT3yey⟩
     ·skip
      have hd1 : decide (e.f0 < a) = false := decide_eq_false hc1
      have HC1 := Aside0.mk hc1
      have hd2 : decide (a < b) = true := decide_eq_true hc2
      have HC2 := Aside0.mk hc2
      have hd3 : decide (mab < en) = false := decide_eq_false hc3
      have HC3 := Aside0.mk hc3
      clear hc1 hc2 hc3
      have hce0 := (blk_cell HE3.out.at_ 0).trans rfl
      have hce1 := (blk_cell HE3.out.at_ 1).trans rfl
      have hce2 := (blk_cell HE3.out.at_ 2).trans rfl
      have hce3 := (blk_cell HE3.out.at_ 3).trans rfl
      gi_wp2_with (first | (refine ⟨trivial, ?_⟩; gi_at_call 67; refine (callsIn_wide.2 (part_calls e a b _ HMY.out (by have := HBD.out; omega) (by have := HBD.out; omega) (by have := HBD.out; omega) (by have := HBD.out; omega))).mono ?_; rintro r w3c ⟨rfl, hb3c⟩; have hbz3c : ∀ b ∈ bs, b < _ := fun b hb => Nat.lt_trans (hbs b hb) (Nat.lt_trans (Nat.lt_succ_self d) (hRd _ HR3.out)); have HI3c := Aside0.mk (hIB _ _ _ HI3.out hb3c); have HR3c := Aside0.mk (hRB _ _ HR3.out hb3c); have HBL3c := Aside0.mk (HBL3.out.below hbz3c hb3c); have HBF3c := Aside0.mk (HBF3.out.below hbz3c hb3c); have HBT3c := Aside0.mk (HBT3.out.below hbz3c hb3c); have HE3c := Aside0.mk (HE3.out.below hbz3c hb3c); clear hbz3c; obtain ⟨fn, tmps, assign, body, hy, hRd5⟩ := hY P0 (partE e a b, true) w3c HI3c.out HR3c.out (by have := HPN.out; have := hN; (try simp only [List.length_append, List.length_cons, List.length_nil]); omega)) | ((with_reducible refine And.intro ?_ ?_); (first | exact trivial | exact fun _ _ => trivial)))
      refine hRd5.mono ?_
      clear hce0 hce1 hce2 hce3
      intro r w3y h9
      obtain ⟨rfl, hI3y, hR3y, hK3y⟩ := h9.elim id (fun h => by obtain ⟨_, c, hF, _⟩ := h; exact hF.elim)
      have HI3y := Aside0.mk hI3y
      have HR3y := Aside0.mk hR3y
      have HBL3y := Aside0.mk (HBL3c.out.kept hK3y)
      have HBF3y := Aside0.mk (HBF3c.out.kept hK3y)
      have HBT3y := Aside0.mk (HBT3c.out.kept hK3y)
      have HE3y := Aside0.mk (HE3c.out.kept hK3y)
      clear hI3y hR3y hK3y hy hRd5
      have hce0 := (blk_cell HE3y.out.at_ 0).trans rfl
      have hce1 := (blk_cell HE3y.out.at_ 1).trans rfl
      have hce2 := (blk_cell HE3y.out.at_ 2).trans rfl
      have hce3 := (blk_cell HE3y.out.at_ 3).trans rfl
      gi_wp2_with ((with_reducible refine And.intro ?_ ?_); (first | exact trivial | exact fun _ _ => trivial))
      refine startW (m := 18) #[false, false, false, false, false, false, false, false, false, false, false, false, false, false, false, false, false, false] (by kernel_rfl) rfl rfl ?_;refine pureW (i := 2) (N := some 57) (v := ?_) (a' := ?_) #[false, false, true, false, false, false, false, false, false, false, false, false, false, false, false, false, false, false] rfl rfl (by kernel_rfl) (fun _ _ _ h => h) ⟨Or.inl ⟨by rfl, ?_⟩, fun _ => rfl⟩ ?_ ?_;rotate_left;(intro w';go_simp;with_reducible rfl);rotate_left;(simp only [Act.put, sIb, sC0, sCs, i64_w, i32_w];rfl);refine pureW (i := 3) (N := some 58) (v := ?_) (a' := ?_) #[false, false, true, true, false, false, false, false, false, false, false, false, false, false, false, false, false, false] rfl rfl (by kernel_rfl) (fun _ _ _ h => h) ⟨Or.inl ⟨by rfl, ?_⟩, fun _ => rfl⟩ ?_ ?_;rotate_left;(intro w';go_simp;with_reducible rfl);rotate_left;(simp only [Act.put, sIb, sC0, sCs, i64_w, i32_w];rfl);refine pureW (i := 4) (N := some 59) (v := ?_) (a' := ?_) #[false, false, true, true, true, false, false, false, false, false, false, false, false, false, false, false, false, false] rfl rfl (by kernel_rfl) (fun _ _ _ h => h) ⟨Or.inl ⟨by rfl, ?_⟩, fun _ => rfl⟩ ?_ ?_;rotate_left;(intro w';go_simp;with_reducible rfl);rotate_left;(simp only [Act.put, sIb, sC0, sCs, i64_w, i32_w];rfl)
      refine oneW (i := 0) (N := some 55) #[true, false, true, true, true, false, false, false, false, false, false, false, false, false, false, false, false, false] rfl rfl (by kernel_rfl) (fun K hK => ?_)
      refine valueW (w1 := ?_) (v := ?_) (by rfl) rfl ?_ ?_
      rotate_left 2
      ·go_simp
       constructor;(rfl);(rfl)
      refine hK.out _ _ ?_;clear hK K;refine normW (a' := ?_) ?_ ?_;rotate_left
      ·show Act.put _ (some 55) _ = _
       simp only [Act.put, sIb, sC0, sCs, i64_w, i32_w];rfl
      refine oneW (i := 1) (N := some 56) #[true, true, true, true, true, false, false, false, false, false, false, false, false, false, false, false, false, false] rfl rfl (by kernel_rfl) (fun K hK => ?_)
      refine goesW Try.func35 (by kernel_rfl) rfl #[.agg #[.int .i64 e.f0, .int .i64 e.f1, .int .i64 e.f2, .bool e.f3]] (by rfl) rfl rfl (by simp only [List.map_toArray, List.map_cons, List.map_nil]; rfl) ?_
      with_reducible refine (extent_end.calls e.f0 e.f1 e.f2 e.f3 en _ HENF.out).mono ?_
      rintro r6 w3ye ⟨rfl, hb3ye⟩
      refine ⟨_, rfl, ?_⟩
      clear hce0 hce1 hce2 hce3
      replace hb3ye := (below_drew1 (Below.refl _ w3y)).trans (hb3ye.mono (Nat.le_refl _))
      have hbz3ye : ∀ b ∈ bs, b < _ := fun b hb => Nat.lt_trans (hbs b hb) (Nat.lt_trans (Nat.lt_succ_self d) (hRd _ HR3y.out))
      have HI3ye := Aside0.mk (hIB _ _ _ HI3y.out hb3ye)
      have HR3ye := Aside0.mk (hRB _ _ HR3y.out hb3ye)
      have HBL3ye := Aside0.mk (HBL3y.out.below hbz3ye hb3ye)
      have HBF3ye := Aside0.mk (HBF3y.out.below hbz3ye hb3ye)
      have HBT3ye := Aside0.mk (HBT3y.out.below hbz3ye hb3ye)
      have HE3ye := Aside0.mk (HE3y.out.below hbz3ye hb3ye)
      clear hbz3ye
      have hce0 := (blk_cell HE3ye.out.at_ 0).trans rfl
      have hce1 := (blk_cell HE3ye.out.at_ 1).trans rfl
      have hce2 := (blk_cell HE3ye.out.at_ 2).trans rfl
      have hce3 := (blk_cell HE3ye.out.at_ 3).trans rfl
      refine hK.out _ _ ?_;clear hK K;refine normW (a' := ?_) ?_ ?_;rotate_left
      ·show Act.put _ (some 56) _ = _
       simp only [Act.put, sIb, sC0, sCs, i64_w, i32_w];rfl
      refine pureW (i := 5) (N := some 60) (v := ?_) (a' := ?_) #[true, true, true, true, true, true, false, false, false, false, false, false, false, false, false, false, false, false] rfl rfl (by kernel_rfl) (fun _ _ _ h => h) ⟨Or.inl ⟨by rfl, ?_⟩, fun _ => rfl⟩ ?_ ?_;rotate_left;(intro w';go_simp;with_reducible rfl);rotate_left;(simp only [Act.put, sIb, sC0, sCs, i64_w, i32_w];rfl);refine pureW (i := 6) (N := some 61) (v := ?_) (a' := ?_) #[true, true, true, true, true, true, true, false, false, false, false, false, false, false, false, false, false, false] rfl rfl (by kernel_rfl) (fun _ _ _ h => h) ⟨Or.inl ⟨by rfl, ?_⟩, fun _ => rfl⟩ ?_ ?_;rotate_left;(intro w';go_simp;with_reducible rfl);rotate_left;(simp only [Act.put, sIb, sC0, sCs, i64_w, i32_w];rfl);refine pureW (i := 7) (N := some 62) (v := undef) (a' := ?_) #[true, true, true, true, true, true, true, true, false, false, false, false, false, false, false, false, false, false] rfl rfl (by kernel_rfl) (fun _ _ _ h => h) ⟨Or.inr ⟨by rfl, rfl⟩, fun _ => rfl⟩ ?_ ?_;rotate_left;(simp only [Act.put, sIb, sC0, sCs, i64_w, i32_w];rfl);refine pureW (i := 8) (N := some 63) (v := undef) (a' := ?_) #[true, true, true, true, true, true, true, true, true, false, false, false, false, false, false, false, false, false] rfl rfl (by kernel_rfl) (fun _ _ _ h => h) ⟨Or.inr ⟨by rfl, rfl⟩, fun _ => rfl⟩ ?_ ?_;rotate_left;(simp only [Act.put, sIb, sC0, sCs, i64_w, i32_w];rfl);refine pureW (i := 9) (N := some 64) (v := undef) (a' := ?_) #[true, true, true, true, true, true, true, true, true, true, false, false, false, false, false, false, false, false] rfl rfl (by kernel_rfl) (fun _ _ _ h => h) ⟨Or.inr ⟨by rfl, rfl⟩, fun _ => rfl⟩ ?_ ?_;rotate_left;(simp only [Act.put, sIb, sC0, sCs, i64_w, i32_w];rfl);refine pureW (i := 10) (N := some 65) (v := undef) (a' := ?_) #[true, true, true, true, true, true, true, true, true, true, true, false, false, false, false, false, false, false] rfl rfl (by kernel_rfl) (fun _ _ _ h => h) ⟨Or.inr ⟨by rfl, rfl⟩, fun _ => rfl⟩ ?_ ?_;rotate_left;(simp only [Act.put, sIb, sC0, sCs, i64_w, i32_w];rfl);refine pureW (i := 11) (N := some 66) (v := undef) (a' := ?_) #[true, true, true, true, true, true, true, true, true, true, true, true, false, false, false, false, false, false] rfl rfl (by kernel_rfl) (fun _ _ _ h => h) ⟨Or.inr ⟨by rfl, rfl⟩, fun _ => rfl⟩ ?_ ?_;rotate_left;(simp only [Act.put, sIb, sC0, sCs, i64_w, i32_w];rfl);refine pureW (i := 12) (N := some 67) (v := undef) (a' := ?_) #[true, true, true, true, true, true, true, true, true, true, true, true, true, false, false, false, false, false] rfl rfl (by kernel_rfl) (fun _ _ _ h => h) ⟨Or.inr ⟨by rfl, rfl⟩, fun _ => rfl⟩ ?_ ?_;rotate_left;(simp only [Act.put, sIb, sC0, sCs, i64_w, i32_w];rfl)
      refine oneW (i := 13) (N := some 68) #[true, true, true, true, true, true, true, true, true, true, true, true, true, true, false, false, false, false] rfl rfl (by kernel_rfl) (fun K hK => ?_)
      refine offW (by rfl) ?_
      refine hK.out _ _ ?_;clear hK K;refine normW (a' := ?_) ?_ ?_;rotate_left
      ·show Act.put _ (some 68) _ = _
       simp only [Act.put, sIb, sC0, sCs, i64_w, i32_w];rfl
      refine oneW (i := 14) (N := some 69) #[true, true, true, true, true, true, true, true, true, true, true, true, true, true, true, false, false, false] rfl rfl (by kernel_rfl) (fun K hK => ?_)
      refine offW (by rfl) ?_
      refine hK.out _ _ ?_;clear hK K;refine normW (a' := ?_) ?_ ?_;rotate_left
      ·show Act.put _ (some 69) _ = _
       simp only [Act.put, sIb, sC0, sCs, i64_w, i32_w];rfl
      refine oneW (i := 15) (N := some 70) #[true, true, true, true, true, true, true, true, true, true, true, true, true, true, true, true, false, false] rfl rfl (by kernel_rfl) (fun K hK => ?_)
      refine offW (by rfl) ?_
      refine hK.out _ _ ?_;clear hK K;refine normW (a' := ?_) ?_ ?_;rotate_left
      ·show Act.put _ (some 70) _ = _
       simp only [Act.put, sIb, sC0, sCs, i64_w, i32_w];rfl
      refine pureW (i := 16) (N := some 71) (v := undef) (a' := ?_) #[true, true, true, true, true, true, true, true, true, true, true, true, true, true, true, true, true, false] rfl rfl (by kernel_rfl) (fun _ _ _ h => h) ⟨Or.inr ⟨by rfl, rfl⟩, fun _ => rfl⟩ ?_ ?_;rotate_left;(simp only [Act.put, sIb, sC0, sCs, i64_w, i32_w];rfl);refine pureW (i := 17) (N := some 72) (v := ?_) (a' := ?_) #[true, true, true, true, true, true, true, true, true, true, true, true, true, true, true, true, true, true] rfl rfl (by kernel_rfl) (fun _ _ _ h => h) ⟨Or.inl ⟨by rfl, ?_⟩, fun _ => rfl⟩ ?_ ?_;rotate_left;(intro w';go_simp;with_reducible rfl);rotate_left;(simp only [Act.put, sIb, sC0, sCs, i64_w, i32_w];rfl)
      refine doneW (by kernel_rfl) ?_
      all_goals
       have HQ := Aside0.mk (show (P0 ++ [(partE e a b, true)]) = piecesL (L.take (i + 1)) lo hi by
        rw [HE.out]
        unfold piecesL
        rw [List.flatMap_append, List.flatMap_cons, List.flatMap_nil, List.append_nil]
        show _ = piecesL (L.take i) lo hi ++ pieces3 e lo hi
        rw [← HP.out]
        unfold pieces3
        rw [HA.out, HB.out, HMAB.out, HEN.out, if_neg (by have := HC1.out; omega), if_pos (by have := HC2.out; omega), if_neg (by have := HC3.out; omega)]; simp)
       gi_wp2
       go_wp2
       go_roundg g
       case measure => omega
       case rel => exact ⟨i + 1, by rw [HIW.out], ⟨by have := HK.out; omega⟩, ⟨by rw [← HQ.out]; exact HI3ye.out⟩, HR3ye, HBL3ye, HBF3ye, HBT3ye⟩
    ·by_cases hc3 : mab < en
     ·skip
      have hd1 : decide (e.f0 < a) = false := decide_eq_false hc1
      have HC1 := Aside0.mk hc1
      have hd2 : decide (a < b) = false := decide_eq_false hc2
      have HC2 := Aside0.mk hc2
      have hd3 : decide (mab < en) = true := decide_eq_true hc3
      have HC3 := Aside0.mk hc3
      clear hc1 hc2 hc3
      have hce0 := (blk_cell HE3.out.at_ 0).trans rfl
      have hce1 := (blk_cell HE3.out.at_ 1).trans rfl
      have hce2 := (blk_cell HE3.out.at_ 2).trans rfl
      have hce3 := (blk_cell HE3.out.at_ 3).trans rfl
      gi_wp2_with ((with_reducible refine And.intro ?_ ?_); (first | exact trivial | exact fun _ _ => trivial))
      refine startW (m := 18) #[false, false, false, false, false, false, false, false, false, false, false, false, false, false, false, false, false, false] (by kernel_rfl) rfl rfl ?_;refine pureW (i := 2) (N := some 57) (v := ?_) (a' := ?_) #[false, false, true, false, false, false, false, false, false, false, false, false, false, false, false, false, false, false] rfl rfl (by kernel_rfl) (fun _ _ _ h => h) ⟨Or.inl ⟨by rfl, ?_⟩, fun _ => rfl⟩ ?_ ?_;rotate_left;(intro w';go_simp;with_reducible rfl);rotate_left;(simp only [Act.put, sIb, sC0, sCs, i64_w, i32_w];rfl);refine pureW (i := 3) (N := some 58) (v := ?_) (a' := ?_) #[false, false, true, true, false, false, false, false, false, false, false, false, false, false, false, false, false, false] rfl rfl (by kernel_rfl) (fun _ _ _ h => h) ⟨Or.inl ⟨by rfl, ?_⟩, fun _ => rfl⟩ ?_ ?_;rotate_left;(intro w';go_simp;with_reducible rfl);rotate_left;(simp only [Act.put, sIb, sC0, sCs, i64_w, i32_w];rfl);refine pureW (i := 4) (N := some 59) (v := ?_) (a' := ?_) #[false, false, true, true, true, false, false, false, false, false, false, false, false, false, false, false, false, false] rfl rfl (by kernel_rfl) (fun _ _ _ h => h) ⟨Or.inl ⟨by rfl, ?_⟩, fun _ => rfl⟩ ?_ ?_;rotate_left;(intro w';go_simp;with_reducible rfl);rotate_left;(simp only [Act.put, sIb, sC0, sCs, i64_w, i32_w];rfl)
      refine oneW (i := 0) (N := some 55) #[true, false, true, true, true, false, false, false, false, false, false, false, false, false, false, false, false, false] rfl rfl (by kernel_rfl) (fun K hK => ?_)
      refine valueW (w1 := ?_) (v := ?_) (by rfl) rfl ?_ ?_
      rotate_left 2
      ·go_simp
       constructor;(rfl);(rfl)
      refine hK.out _ _ ?_;clear hK K;refine normW (a' := ?_) ?_ ?_;rotate_left
      ·show Act.put _ (some 55) _ = _
       simp only [Act.put, sIb, sC0, sCs, i64_w, i32_w];rfl
      refine oneW (i := 1) (N := some 56) #[true, true, true, true, true, false, false, false, false, false, false, false, false, false, false, false, false, false] rfl rfl (by kernel_rfl) (fun K hK => ?_)
      refine goesW Try.func35 (by kernel_rfl) rfl #[.agg #[.int .i64 e.f0, .int .i64 e.f1, .int .i64 e.f2, .bool e.f3]] (by rfl) rfl rfl (by simp only [List.map_toArray, List.map_cons, List.map_nil]; rfl) ?_
      with_reducible refine (extent_end.calls e.f0 e.f1 e.f2 e.f3 en _ HENF.out).mono ?_
      rintro r6 w3e ⟨rfl, hb3e⟩
      refine ⟨_, rfl, ?_⟩
      clear hce0 hce1 hce2 hce3
      replace hb3e := (below_drew1 (Below.refl _ w3)).trans (hb3e.mono (Nat.le_refl _))
      have hbz3e : ∀ b ∈ bs, b < _ := fun b hb => Nat.lt_trans (hbs b hb) (Nat.lt_trans (Nat.lt_succ_self d) (hRd _ HR3.out))
      have HI3e := Aside0.mk (hIB _ _ _ HI3.out hb3e)
      have HR3e := Aside0.mk (hRB _ _ HR3.out hb3e)
      have HBL3e := Aside0.mk (HBL3.out.below hbz3e hb3e)
      have HBF3e := Aside0.mk (HBF3.out.below hbz3e hb3e)
      have HBT3e := Aside0.mk (HBT3.out.below hbz3e hb3e)
      have HE3e := Aside0.mk (HE3.out.below hbz3e hb3e)
      clear hbz3e
      have hce0 := (blk_cell HE3e.out.at_ 0).trans rfl
      have hce1 := (blk_cell HE3e.out.at_ 1).trans rfl
      have hce2 := (blk_cell HE3e.out.at_ 2).trans rfl
      have hce3 := (blk_cell HE3e.out.at_ 3).trans rfl
      refine hK.out _ _ ?_;clear hK K;refine normW (a' := ?_) ?_ ?_;rotate_left
      ·show Act.put _ (some 56) _ = _
       simp only [Act.put, sIb, sC0, sCs, i64_w, i32_w];rfl
      refine pureW (i := 5) (N := some 60) (v := ?_) (a' := ?_) #[true, true, true, true, true, true, false, false, false, false, false, false, false, false, false, false, false, false] rfl rfl (by kernel_rfl) (fun _ _ _ h => h) ⟨Or.inl ⟨by rfl, ?_⟩, fun _ => rfl⟩ ?_ ?_;rotate_left;(intro w';go_simp;with_reducible rfl);rotate_left;(simp only [Act.put, sIb, sC0, sCs, i64_w, i32_w];rfl);refine pureW (i := 6) (N := some 61) (v := ?_) (a' := ?_) #[true, true, true, true, true, true, true, false, false, false, false, false, false, false, false, false, false, false] rfl rfl (by kernel_rfl) (fun _ _ _ h => h) ⟨Or.inl ⟨by rfl, ?_⟩, fun _ => rfl⟩ ?_ ?_;rotate_left;(intro w';go_simp;with_reducible rfl);rotate_left;(simp only [Act.put, sIb, sC0, sCs, i64_w, i32_w];rfl);refine pureW (i := 7) (N := some 62) (v := ?_) (a' := ?_) #[true, true, true, true, true, true, true, true, false, false, false, false, false, false, false, false, false, false] rfl rfl (by kernel_rfl) (fun _ _ _ h => h) ⟨Or.inl ⟨by rfl, ?_⟩, fun _ => rfl⟩ ?_ ?_;rotate_left;(intro w';go_simp;with_reducible rfl);rotate_left;(simp only [Act.put, sIb, sC0, sCs, i64_w, i32_w];rfl);refine pureW (i := 9) (N := some 64) (v := ?_) (a' := ?_) #[true, true, true, true, true, true, true, true, false, true, false, false, false, false, false, false, false, false] rfl rfl (by kernel_rfl) (fun _ _ _ h => h) ⟨Or.inl ⟨by rfl, ?_⟩, fun _ => rfl⟩ ?_ ?_;rotate_left;(intro w';go_simp;with_reducible rfl);rotate_left;(simp only [Act.put, sIb, sC0, sCs, i64_w, i32_w];rfl);refine pureW (i := 10) (N := some 65) (v := ?_) (a' := ?_) #[true, true, true, true, true, true, true, true, false, true, true, false, false, false, false, false, false, false] rfl rfl (by kernel_rfl) (fun _ _ _ h => h) ⟨Or.inl ⟨by rfl, ?_⟩, fun _ => rfl⟩ ?_ ?_;rotate_left;(intro w';go_simp;with_reducible rfl);rotate_left;(simp only [Act.put, sIb, sC0, sCs, i64_w, i32_w];rfl);refine pureW (i := 11) (N := some 66) (v := ?_) (a' := ?_) #[true, true, true, true, true, true, true, true, false, true, true, true, false, false, false, false, false, false] rfl rfl (by kernel_rfl) (fun _ _ _ h => h) ⟨Or.inl ⟨by rfl, ?_⟩, fun _ => rfl⟩ ?_ ?_;rotate_left;(intro w';go_simp;with_reducible rfl);rotate_left;(simp only [Act.put, sIb, sC0, sCs, i64_w, i32_w];rfl)
      refine twoW (i := 8) (j := 12) (Ni := some 63) (Nj := some 67) #[true, true, true, true, true, true, true, true, true, true, true, true, false, false, false, false, false, false] #[true, true, true, true, true, true, true, true, false, true, true, true, true, false, false, false, false, false] rfl rfl rfl rfl (by kernel_rfl) (fun K hK => ?_) (fun K hK => ?_)
      focus
       refine valueW (w1 := ?_) (v := ?_) (by rfl) rfl ?_ ?_
       rotate_left 2
       ·go_simp
        constructor;(rfl);(rfl)
       refine hK.out _ _ ?_;clear hK K;refine normW (a' := ?_) ?_ ?_;rotate_left
       ·show Act.put _ (some 63) _ = _
        simp only [Act.put, sIb, sC0, sCs, i64_w, i32_w];rfl
       refine oneW (i := 12) (N := some 67) #[true, true, true, true, true, true, true, true, true, true, true, true, true, false, false, false, false, false] rfl rfl (by kernel_rfl) (fun K hK => ?_)
       refine valueW (w1 := ?_) (v := ?_) (by rfl) rfl ?_ ?_
       rotate_left 2
       ·go_simp
        constructor;(rfl);(rfl)
       refine hK.out _ _ ?_;clear hK K;refine normW (a' := ?_) ?_ ?_;rotate_left
       ·show Act.put _ (some 67) _ = _
        simp only [Act.put, sIb, sC0, sCs, i64_w, i32_w];rfl
       refine oneW (i := 13) (N := some 68) #[true, true, true, true, true, true, true, true, true, true, true, true, true, true, false, false, false, false] rfl rfl (by kernel_rfl) (fun K hK => ?_)
       refine goesW Try.func35 (by kernel_rfl) rfl #[.agg #[.int .i64 e.f0, .int .i64 e.f1, .int .i64 e.f2, .bool e.f3]] (by rfl) rfl rfl (by simp only [List.map_toArray, List.map_cons, List.map_nil]; rfl) ?_
       with_reducible refine (extent_end.calls e.f0 e.f1 e.f2 e.f3 en _ HENF.out).mono ?_
       rintro r6 w3ee ⟨rfl, hb3ee⟩
       refine ⟨_, rfl, ?_⟩
       clear hce0 hce1 hce2 hce3
       have hbz3ee : ∀ b ∈ bs, b < _ := fun b hb => Nat.lt_trans (hbs b hb) (Nat.lt_trans (Nat.lt_succ_self d) (hRd _ HR3e.out))
       have HI3ee := Aside0.mk (hIB _ _ _ HI3e.out hb3ee)
       have HR3ee := Aside0.mk (hRB _ _ HR3e.out hb3ee)
       have HBL3ee := Aside0.mk (HBL3e.out.below hbz3ee hb3ee)
       have HBF3ee := Aside0.mk (HBF3e.out.below hbz3ee hb3ee)
       have HBT3ee := Aside0.mk (HBT3e.out.below hbz3ee hb3ee)
       have HE3ee := Aside0.mk (HE3e.out.below hbz3ee hb3ee)
       clear hbz3ee
       have hce0 := (blk_cell HE3ee.out.at_ 0).trans rfl
       have hce1 := (blk_cell HE3ee.out.at_ 1).trans rfl
       have hce2 := (blk_cell HE3ee.out.at_ 2).trans rfl
       have hce3 := (blk_cell HE3ee.out.at_ 3).trans rfl
       refine hK.out _ _ ?_;clear hK K;refine normW (a' := ?_) ?_ ?_;rotate_left
       ·show Act.put _ (some 68) _ = _
        simp only [Act.put, sIb, sC0, sCs, i64_w, i32_w];rfl
       refine oneW (i := 14) (N := some 69) #[true, true, true, true, true, true, true, true, true, true, true, true, true, true, true, false, false, false] rfl rfl (by kernel_rfl) (fun K hK => ?_)
       refine goesW Try.func67 (by kernel_rfl) rfl #[.agg #[.int .i64 e.f0, .int .i64 e.f1, .int .i64 e.f2, .bool e.f3], .int .i64 mab, .int .i64 en] (by rfl) rfl rfl (by simp only [List.map_toArray, List.map_cons, List.map_nil]; rfl) ?_
       with_reducible refine (part_calls e mab en _ HMY.out (by have := HBD.out; omega) (by have := HBD.out; omega) (by have := HBD.out; omega) (by have := HBD.out; omega)).mono ?_
       rintro r6 w3ep ⟨rfl, hb3ep⟩
       refine ⟨_, rfl, ?_⟩
       clear hce0 hce1 hce2 hce3
       have hbz3ep : ∀ b ∈ bs, b < _ := fun b hb => Nat.lt_trans (hbs b hb) (Nat.lt_trans (Nat.lt_succ_self d) (hRd _ HR3ee.out))
       have HI3ep := Aside0.mk (hIB _ _ _ HI3ee.out hb3ep)
       have HR3ep := Aside0.mk (hRB _ _ HR3ee.out hb3ep)
       have HBL3ep := Aside0.mk (HBL3ee.out.below hbz3ep hb3ep)
       have HBF3ep := Aside0.mk (HBF3ee.out.below hbz3ep hb3ep)
       have HBT3ep := Aside0.mk (HBT3ee.out.below hbz3ep hb3ep)
       have HE3ep := Aside0.mk (HE3ee.out.below hbz3ep hb3ep)
       clear hbz3ep;refine hK.out _ _ ?_;clear hK K;refine normW (a' := ?_) ?_ ?_;rotate_left
       ·show Act.put _ (some 69) _ = _
        simp only [Act.put, sIb, sC0, sCs, i64_w, i32_w];rfl
       refine oneW (i := 15) (N := some 70) #[true, true, true, true, true, true, true, true, true, true, true, true, true, true, true, true, false, false] rfl rfl (by kernel_rfl) (fun K hK => ?_)
       refine yieldW #[.agg #[.int .i64 (partE e mab en).f0, .int .i64 (partE e mab en).f1, .int .i64 (partE e mab en).f2, .bool (partE e mab en).f3], .bool false] (by rfl) rfl rfl rfl (by simp only [List.map_toArray, List.map_cons, List.map_nil]; rfl) (hY P0 (partE e mab en, false) _ HI3ep.out HR3ep.out (by have := HPN.out; have := hN; (try simp only [List.length_append, List.length_cons, List.length_nil]); omega)) ?_
       intro r w3ey h9
       obtain ⟨rfl, hI3ey, hR3ey, hK3ey⟩ := h9.elim id (fun h => by obtain ⟨_, c, hF, _⟩ := h; exact hF.elim)
       have HI3ey := Aside0.mk hI3ey
       have HR3ey := Aside0.mk hR3ey
       have HBL3ey := Aside0.mk (HBL3ep.out.kept hK3ey)
       have HBF3ey := Aside0.mk (HBF3ep.out.kept hK3ey)
       have HBT3ey := Aside0.mk (HBT3ep.out.kept hK3ey)
       have HE3ey := Aside0.mk (HE3ep.out.kept hK3ey)
       clear hI3ey hR3ey hK3ey
       refine ⟨_, rfl, ?_⟩
       refine hK.out _ _ ?_;clear hK K;refine normW (a' := ?_) ?_ ?_;rotate_left
       ·show Act.put _ (some 70) _ = _
        simp only [Act.put, sIb, sC0, sCs, i64_w, i32_w];rfl
       refine pureW (i := 16) (N := some 71) (v := ?_) (a' := ?_) #[true, true, true, true, true, true, true, true, true, true, true, true, true, true, true, true, true, false] rfl rfl (by kernel_rfl) (fun _ _ _ h => h) ⟨Or.inl ⟨by rfl, ?_⟩, fun _ => rfl⟩ ?_ ?_;rotate_left;(intro w';go_simp;with_reducible rfl);rotate_left;(simp only [Act.put, sIb, sC0, sCs, i64_w, i32_w];rfl);refine pureW (i := 17) (N := some 72) (v := ?_) (a' := ?_) #[true, true, true, true, true, true, true, true, true, true, true, true, true, true, true, true, true, true] rfl rfl (by kernel_rfl) (fun _ _ _ h => h) ⟨Or.inl ⟨by rfl, ?_⟩, fun _ => rfl⟩ ?_ ?_;rotate_left;(intro w';go_simp;with_reducible rfl);rotate_left;(simp only [Act.put, sIb, sC0, sCs, i64_w, i32_w];rfl)
       refine doneW (by kernel_rfl) ?_
      rotate_left 1
      focus
       refine valueW (w1 := ?_) (v := ?_) (by rfl) rfl ?_ ?_
       rotate_left 2
       ·go_simp
        constructor;(rfl);(rfl)
       refine hK.out _ _ ?_;clear hK K;refine normW (a' := ?_) ?_ ?_;rotate_left
       ·show Act.put _ (some 67) _ = _
        simp only [Act.put, sIb, sC0, sCs, i64_w, i32_w];rfl
       refine twoW (i := 8) (j := 13) (Ni := some 63) (Nj := some 68) #[true, true, true, true, true, true, true, true, true, true, true, true, true, false, false, false, false, false] #[true, true, true, true, true, true, true, true, false, true, true, true, true, true, false, false, false, false] rfl rfl rfl rfl (by kernel_rfl) (fun K hK => ?_) (fun K hK => ?_)
       focus
        refine valueW (w1 := ?_) (v := ?_) (by rfl) rfl ?_ ?_
        rotate_left 2
        ·go_simp
         constructor;(rfl);(rfl)
        refine hK.out _ _ ?_;clear hK K;refine normW (a' := ?_) ?_ ?_;rotate_left
        ·show Act.put _ (some 63) _ = _
         simp only [Act.put, sIb, sC0, sCs, i64_w, i32_w];rfl
        refine oneW (i := 13) (N := some 68) #[true, true, true, true, true, true, true, true, true, true, true, true, true, true, false, false, false, false] rfl rfl (by kernel_rfl) (fun K hK => ?_)
        refine goesW Try.func35 (by kernel_rfl) rfl #[.agg #[.int .i64 e.f0, .int .i64 e.f1, .int .i64 e.f2, .bool e.f3]] (by rfl) rfl rfl (by simp only [List.map_toArray, List.map_cons, List.map_nil]; rfl) ?_
        with_reducible refine (extent_end.calls e.f0 e.f1 e.f2 e.f3 en _ HENF.out).mono ?_
        rintro r6 w3ee ⟨rfl, hb3ee⟩
        refine ⟨_, rfl, ?_⟩
        clear hce0 hce1 hce2 hce3
        have hbz3ee : ∀ b ∈ bs, b < _ := fun b hb => Nat.lt_trans (hbs b hb) (Nat.lt_trans (Nat.lt_succ_self d) (hRd _ HR3e.out))
        have HI3ee := Aside0.mk (hIB _ _ _ HI3e.out hb3ee)
        have HR3ee := Aside0.mk (hRB _ _ HR3e.out hb3ee)
        have HBL3ee := Aside0.mk (HBL3e.out.below hbz3ee hb3ee)
        have HBF3ee := Aside0.mk (HBF3e.out.below hbz3ee hb3ee)
        have HBT3ee := Aside0.mk (HBT3e.out.below hbz3ee hb3ee)
        have HE3ee := Aside0.mk (HE3e.out.below hbz3ee hb3ee)
        clear hbz3ee
        have hce0 := (blk_cell HE3ee.out.at_ 0).trans rfl
        have hce1 := (blk_cell HE3ee.out.at_ 1).trans rfl
        have hce2 := (blk_cell HE3ee.out.at_ 2).trans rfl
        have hce3 := (blk_cell HE3ee.out.at_ 3).trans rfl
        refine hK.out _ _ ?_;clear hK K;refine normW (a' := ?_) ?_ ?_;rotate_left
        ·show Act.put _ (some 68) _ = _
         simp only [Act.put, sIb, sC0, sCs, i64_w, i32_w];rfl
        refine oneW (i := 14) (N := some 69) #[true, true, true, true, true, true, true, true, true, true, true, true, true, true, true, false, false, false] rfl rfl (by kernel_rfl) (fun K hK => ?_)
        refine goesW Try.func67 (by kernel_rfl) rfl #[.agg #[.int .i64 e.f0, .int .i64 e.f1, .int .i64 e.f2, .bool e.f3], .int .i64 mab, .int .i64 en] (by rfl) rfl rfl (by simp only [List.map_toArray, List.map_cons, List.map_nil]; rfl) ?_
        with_reducible refine (part_calls e mab en _ HMY.out (by have := HBD.out; omega) (by have := HBD.out; omega) (by have := HBD.out; omega) (by have := HBD.out; omega)).mono ?_
        rintro r6 w3ep ⟨rfl, hb3ep⟩
        refine ⟨_, rfl, ?_⟩
        clear hce0 hce1 hce2 hce3
        have hbz3ep : ∀ b ∈ bs, b < _ := fun b hb => Nat.lt_trans (hbs b hb) (Nat.lt_trans (Nat.lt_succ_self d) (hRd _ HR3ee.out))
        have HI3ep := Aside0.mk (hIB _ _ _ HI3ee.out hb3ep)
        have HR3ep := Aside0.mk (hRB _ _ HR3ee.out hb3ep)
        have HBL3ep := Aside0.mk (HBL3ee.out.below hbz3ep hb3ep)
        have HBF3ep := Aside0.mk (HBF3ee.out.below hbz3ep hb3ep)
        have HBT3ep := Aside0.mk (HBT3ee.out.below hbz3ep hb3ep)
        have HE3ep := Aside0.mk (HE3ee.out.below hbz3ep hb3ep)
        clear hbz3ep;refine hK.out _ _ ?_;clear hK K;refine normW (a' := ?_) ?_ ?_;rotate_left
        ·show Act.put _ (some 69) _ = _
         simp only [Act.put, sIb, sC0, sCs, i64_w, i32_w];rfl
        refine oneW (i := 15) (N := some 70) #[true, true, true, true, true, true, true, true, true, true, true, true, true, true, true, true, false, false] rfl rfl (by kernel_rfl) (fun K hK => ?_)
        refine yieldW #[.agg #[.int .i64 (partE e mab en).f0, .int .i64 (partE e mab en).f1, .int .i64 (partE e mab en).f2, .bool (partE e mab en).f3], .bool false] (by rfl) rfl rfl rfl (by simp only [List.map_toArray, List.map_cons, List.map_nil]; rfl) (hY P0 (partE e mab en, false) _ HI3ep.out HR3ep.out (by have := HPN.out; have := hN; (try simp only [List.length_append, List.length_cons, List.length_nil]); omega)) ?_
        intro r w3ey h9
        obtain ⟨rfl, hI3ey, hR3ey, hK3ey⟩ := h9.elim id (fun h => by obtain ⟨_, c, hF, _⟩ := h; exact hF.elim)
        have HI3ey := Aside0.mk hI3ey
        have HR3ey := Aside0.mk hR3ey
        have HBL3ey := Aside0.mk (HBL3ep.out.kept hK3ey)
        have HBF3ey := Aside0.mk (HBF3ep.out.kept hK3ey)
        have HBT3ey := Aside0.mk (HBT3ep.out.kept hK3ey)
        have HE3ey := Aside0.mk (HE3ep.out.kept hK3ey)
        clear hI3ey hR3ey hK3ey
        refine ⟨_, rfl, ?_⟩
        refine hK.out _ _ ?_;clear hK K;refine normW (a' := ?_) ?_ ?_;rotate_left
        ·show Act.put _ (some 70) _ = _
         simp only [Act.put, sIb, sC0, sCs, i64_w, i32_w];rfl
        refine pureW (i := 16) (N := some 71) (v := ?_) (a' := ?_) #[true, true, true, true, true, true, true, true, true, true, true, true, true, true, true, true, true, false] rfl rfl (by kernel_rfl) (fun _ _ _ h => h) ⟨Or.inl ⟨by rfl, ?_⟩, fun _ => rfl⟩ ?_ ?_;rotate_left;(intro w';go_simp;with_reducible rfl);rotate_left;(simp only [Act.put, sIb, sC0, sCs, i64_w, i32_w];rfl);refine pureW (i := 17) (N := some 72) (v := ?_) (a' := ?_) #[true, true, true, true, true, true, true, true, true, true, true, true, true, true, true, true, true, true] rfl rfl (by kernel_rfl) (fun _ _ _ h => h) ⟨Or.inl ⟨by rfl, ?_⟩, fun _ => rfl⟩ ?_ ?_;rotate_left;(intro w';go_simp;with_reducible rfl);rotate_left;(simp only [Act.put, sIb, sC0, sCs, i64_w, i32_w];rfl)
        refine doneW (by kernel_rfl) ?_
       rotate_left 1
       focus
        refine goesW Try.func35 (by kernel_rfl) rfl #[.agg #[.int .i64 e.f0, .int .i64 e.f1, .int .i64 e.f2, .bool e.f3]] (by rfl) rfl rfl (by simp only [List.map_toArray, List.map_cons, List.map_nil]; rfl) ?_
        with_reducible refine (extent_end.calls e.f0 e.f1 e.f2 e.f3 en _ HENF.out).mono ?_
        rintro r6 w3ee ⟨rfl, hb3ee⟩
        refine ⟨_, rfl, ?_⟩
        clear hce0 hce1 hce2 hce3
        have hbz3ee : ∀ b ∈ bs, b < _ := fun b hb => Nat.lt_trans (hbs b hb) (Nat.lt_trans (Nat.lt_succ_self d) (hRd _ HR3e.out))
        have HI3ee := Aside0.mk (hIB _ _ _ HI3e.out hb3ee)
        have HR3ee := Aside0.mk (hRB _ _ HR3e.out hb3ee)
        have HBL3ee := Aside0.mk (HBL3e.out.below hbz3ee hb3ee)
        have HBF3ee := Aside0.mk (HBF3e.out.below hbz3ee hb3ee)
        have HBT3ee := Aside0.mk (HBT3e.out.below hbz3ee hb3ee)
        have HE3ee := Aside0.mk (HE3e.out.below hbz3ee hb3ee)
        clear hbz3ee
        have hce0 := (blk_cell HE3ee.out.at_ 0).trans rfl
        have hce1 := (blk_cell HE3ee.out.at_ 1).trans rfl
        have hce2 := (blk_cell HE3ee.out.at_ 2).trans rfl
        have hce3 := (blk_cell HE3ee.out.at_ 3).trans rfl
        refine hK.out _ _ ?_;clear hK K;refine normW (a' := ?_) ?_ ?_;rotate_left
        ·show Act.put _ (some 68) _ = _
         simp only [Act.put, sIb, sC0, sCs, i64_w, i32_w];rfl
        refine oneW (i := 8) (N := some 63) #[true, true, true, true, true, true, true, true, true, true, true, true, true, true, false, false, false, false] rfl rfl (by kernel_rfl) (fun K hK => ?_)
        refine valueW (w1 := ?_) (v := ?_) (by rfl) rfl ?_ ?_
        rotate_left 2
        ·go_simp
         constructor;(rfl);(rfl)
        refine hK.out _ _ ?_;clear hK K;refine normW (a' := ?_) ?_ ?_;rotate_left
        ·show Act.put _ (some 63) _ = _
         simp only [Act.put, sIb, sC0, sCs, i64_w, i32_w];rfl
        refine oneW (i := 14) (N := some 69) #[true, true, true, true, true, true, true, true, true, true, true, true, true, true, true, false, false, false] rfl rfl (by kernel_rfl) (fun K hK => ?_)
        refine goesW Try.func67 (by kernel_rfl) rfl #[.agg #[.int .i64 e.f0, .int .i64 e.f1, .int .i64 e.f2, .bool e.f3], .int .i64 mab, .int .i64 en] (by rfl) rfl rfl (by simp only [List.map_toArray, List.map_cons, List.map_nil]; rfl) ?_
        with_reducible refine (part_calls e mab en _ HMY.out (by have := HBD.out; omega) (by have := HBD.out; omega) (by have := HBD.out; omega) (by have := HBD.out; omega)).mono ?_
        rintro r6 w3ep ⟨rfl, hb3ep⟩
        refine ⟨_, rfl, ?_⟩
        clear hce0 hce1 hce2 hce3
        have hbz3ep : ∀ b ∈ bs, b < _ := fun b hb => Nat.lt_trans (hbs b hb) (Nat.lt_trans (Nat.lt_succ_self d) (hRd _ HR3ee.out))
        have HI3ep := Aside0.mk (hIB _ _ _ HI3ee.out hb3ep)
        have HR3ep := Aside0.mk (hRB _ _ HR3ee.out hb3ep)
        have HBL3ep := Aside0.mk (HBL3ee.out.below hbz3ep hb3ep)
        have HBF3ep := Aside0.mk (HBF3ee.out.below hbz3ep hb3ep)
        have HBT3ep := Aside0.mk (HBT3ee.out.below hbz3ep hb3ep)
        have HE3ep := Aside0.mk (HE3ee.out.below hbz3ep hb3ep)
        clear hbz3ep;refine hK.out _ _ ?_;clear hK K;refine normW (a' := ?_) ?_ ?_;rotate_left
        ·show Act.put _ (some 69) _ = _
         simp only [Act.put, sIb, sC0, sCs, i64_w, i32_w];rfl
        refine oneW (i := 15) (N := some 70) #[true, true, true, true, true, true, true, true, true, true, true, true, true, true, true, true, false, false] rfl rfl (by kernel_rfl) (fun K hK => ?_)
        refine yieldW #[.agg #[.int .i64 (partE e mab en).f0, .int .i64 (partE e mab en).f1, .int .i64 (partE e mab en).f2, .bool (partE e mab en).f3], .bool false] (by rfl) rfl rfl rfl (by simp only [List.map_toArray, List.map_cons, List.map_nil]; rfl) (hY P0 (partE e mab en, false) _ HI3ep.out HR3ep.out (by have := HPN.out; have := hN; (try simp only [List.length_append, List.length_cons, List.length_nil]); omega)) ?_
        intro r w3ey h9
        obtain ⟨rfl, hI3ey, hR3ey, hK3ey⟩ := h9.elim id (fun h => by obtain ⟨_, c, hF, _⟩ := h; exact hF.elim)
        have HI3ey := Aside0.mk hI3ey
        have HR3ey := Aside0.mk hR3ey
        have HBL3ey := Aside0.mk (HBL3ep.out.kept hK3ey)
        have HBF3ey := Aside0.mk (HBF3ep.out.kept hK3ey)
        have HBT3ey := Aside0.mk (HBT3ep.out.kept hK3ey)
        have HE3ey := Aside0.mk (HE3ep.out.kept hK3ey)
        clear hI3ey hR3ey hK3ey
        refine ⟨_, rfl, ?_⟩
        refine hK.out _ _ ?_;clear hK K;refine normW (a' := ?_) ?_ ?_;rotate_left
        ·show Act.put _ (some 70) _ = _
         simp only [Act.put, sIb, sC0, sCs, i64_w, i32_w];rfl
        refine pureW (i := 16) (N := some 71) (v := ?_) (a' := ?_) #[true, true, true, true, true, true, true, true, true, true, true, true, true, true, true, true, true, false] rfl rfl (by kernel_rfl) (fun _ _ _ h => h) ⟨Or.inl ⟨by rfl, ?_⟩, fun _ => rfl⟩ ?_ ?_;rotate_left;(intro w';go_simp;with_reducible rfl);rotate_left;(simp only [Act.put, sIb, sC0, sCs, i64_w, i32_w];rfl);refine pureW (i := 17) (N := some 72) (v := ?_) (a' := ?_) #[true, true, true, true, true, true, true, true, true, true, true, true, true, true, true, true, true, true] rfl rfl (by kernel_rfl) (fun _ _ _ h => h) ⟨Or.inl ⟨by rfl, ?_⟩, fun _ => rfl⟩ ?_ ?_;rotate_left;(intro w';go_simp;with_reducible rfl);rotate_left;(simp only [Act.put, sIb, sC0, sCs, i64_w, i32_w];rfl)
        refine doneW (by kernel_rfl) ?_
      all_goals
       have HQ := Aside0.mk (show (P0 ++ [(partE e mab en, false)]) = piecesL (L.take (i + 1)) lo hi by
        rw [HE.out]
        unfold piecesL
        rw [List.flatMap_append, List.flatMap_cons, List.flatMap_nil, List.append_nil]
        show _ = piecesL (L.take i) lo hi ++ pieces3 e lo hi
        rw [← HP.out]
        unfold pieces3
        rw [HA.out, HB.out, HMAB.out, HEN.out, if_neg (by have := HC1.out; omega), if_neg (by have := HC2.out; omega), if_pos (by have := HC3.out; omega)]; simp)
       gi_wp2
       go_wp2
       go_roundg g
       case measure => omega
       case rel => exact ⟨i + 1, by rw [HIW.out], ⟨by have := HK.out; omega⟩, ⟨by rw [← HQ.out]; exact HI3ey.out⟩, HR3ey, HBL3ey, HBF3ey, HBT3ey⟩
     ·skip
      have hd1 : decide (e.f0 < a) = false := decide_eq_false hc1
      have HC1 := Aside0.mk hc1
      have hd2 : decide (a < b) = false := decide_eq_false hc2
      have HC2 := Aside0.mk hc2
      have hd3 : decide (mab < en) = false := decide_eq_false hc3
      have HC3 := Aside0.mk hc3
      clear hc1 hc2 hc3
      have hce0 := (blk_cell HE3.out.at_ 0).trans rfl
      have hce1 := (blk_cell HE3.out.at_ 1).trans rfl
      have hce2 := (blk_cell HE3.out.at_ 2).trans rfl
      have hce3 := (blk_cell HE3.out.at_ 3).trans rfl
      gi_wp2_with ((with_reducible refine And.intro ?_ ?_); (first | exact trivial | exact fun _ _ => trivial))
      refine startW (m := 18) #[false, false, false, false, false, false, false, false, false, false, false, false, false, false, false, false, false, false] (by kernel_rfl) rfl rfl ?_;refine pureW (i := 2) (N := some 57) (v := ?_) (a' := ?_) #[false, false, true, false, false, false, false, false, false, false, false, false, false, false, false, false, false, false] rfl rfl (by kernel_rfl) (fun _ _ _ h => h) ⟨Or.inl ⟨by rfl, ?_⟩, fun _ => rfl⟩ ?_ ?_;rotate_left;(intro w';go_simp;with_reducible rfl);rotate_left;(simp only [Act.put, sIb, sC0, sCs, i64_w, i32_w];rfl);refine pureW (i := 3) (N := some 58) (v := ?_) (a' := ?_) #[false, false, true, true, false, false, false, false, false, false, false, false, false, false, false, false, false, false] rfl rfl (by kernel_rfl) (fun _ _ _ h => h) ⟨Or.inl ⟨by rfl, ?_⟩, fun _ => rfl⟩ ?_ ?_;rotate_left;(intro w';go_simp;with_reducible rfl);rotate_left;(simp only [Act.put, sIb, sC0, sCs, i64_w, i32_w];rfl);refine pureW (i := 4) (N := some 59) (v := ?_) (a' := ?_) #[false, false, true, true, true, false, false, false, false, false, false, false, false, false, false, false, false, false] rfl rfl (by kernel_rfl) (fun _ _ _ h => h) ⟨Or.inl ⟨by rfl, ?_⟩, fun _ => rfl⟩ ?_ ?_;rotate_left;(intro w';go_simp;with_reducible rfl);rotate_left;(simp only [Act.put, sIb, sC0, sCs, i64_w, i32_w];rfl)
      refine oneW (i := 0) (N := some 55) #[true, false, true, true, true, false, false, false, false, false, false, false, false, false, false, false, false, false] rfl rfl (by kernel_rfl) (fun K hK => ?_)
      refine valueW (w1 := ?_) (v := ?_) (by rfl) rfl ?_ ?_
      rotate_left 2
      ·go_simp
       constructor;(rfl);(rfl)
      refine hK.out _ _ ?_;clear hK K;refine normW (a' := ?_) ?_ ?_;rotate_left
      ·show Act.put _ (some 55) _ = _
       simp only [Act.put, sIb, sC0, sCs, i64_w, i32_w];rfl
      refine oneW (i := 1) (N := some 56) #[true, true, true, true, true, false, false, false, false, false, false, false, false, false, false, false, false, false] rfl rfl (by kernel_rfl) (fun K hK => ?_)
      refine goesW Try.func35 (by kernel_rfl) rfl #[.agg #[.int .i64 e.f0, .int .i64 e.f1, .int .i64 e.f2, .bool e.f3]] (by rfl) rfl rfl (by simp only [List.map_toArray, List.map_cons, List.map_nil]; rfl) ?_
      with_reducible refine (extent_end.calls e.f0 e.f1 e.f2 e.f3 en _ HENF.out).mono ?_
      rintro r6 w3e ⟨rfl, hb3e⟩
      refine ⟨_, rfl, ?_⟩
      clear hce0 hce1 hce2 hce3
      replace hb3e := (below_drew1 (Below.refl _ w3)).trans (hb3e.mono (Nat.le_refl _))
      have hbz3e : ∀ b ∈ bs, b < _ := fun b hb => Nat.lt_trans (hbs b hb) (Nat.lt_trans (Nat.lt_succ_self d) (hRd _ HR3.out))
      have HI3e := Aside0.mk (hIB _ _ _ HI3.out hb3e)
      have HR3e := Aside0.mk (hRB _ _ HR3.out hb3e)
      have HBL3e := Aside0.mk (HBL3.out.below hbz3e hb3e)
      have HBF3e := Aside0.mk (HBF3.out.below hbz3e hb3e)
      have HBT3e := Aside0.mk (HBT3.out.below hbz3e hb3e)
      have HE3e := Aside0.mk (HE3.out.below hbz3e hb3e)
      clear hbz3e
      have hce0 := (blk_cell HE3e.out.at_ 0).trans rfl
      have hce1 := (blk_cell HE3e.out.at_ 1).trans rfl
      have hce2 := (blk_cell HE3e.out.at_ 2).trans rfl
      have hce3 := (blk_cell HE3e.out.at_ 3).trans rfl
      refine hK.out _ _ ?_;clear hK K;refine normW (a' := ?_) ?_ ?_;rotate_left
      ·show Act.put _ (some 56) _ = _
       simp only [Act.put, sIb, sC0, sCs, i64_w, i32_w];rfl
      refine pureW (i := 5) (N := some 60) (v := ?_) (a' := ?_) #[true, true, true, true, true, true, false, false, false, false, false, false, false, false, false, false, false, false] rfl rfl (by kernel_rfl) (fun _ _ _ h => h) ⟨Or.inl ⟨by rfl, ?_⟩, fun _ => rfl⟩ ?_ ?_;rotate_left;(intro w';go_simp;with_reducible rfl);rotate_left;(simp only [Act.put, sIb, sC0, sCs, i64_w, i32_w];rfl);refine pureW (i := 6) (N := some 61) (v := ?_) (a' := ?_) #[true, true, true, true, true, true, true, false, false, false, false, false, false, false, false, false, false, false] rfl rfl (by kernel_rfl) (fun _ _ _ h => h) ⟨Or.inl ⟨by rfl, ?_⟩, fun _ => rfl⟩ ?_ ?_;rotate_left;(intro w';go_simp;with_reducible rfl);rotate_left;(simp only [Act.put, sIb, sC0, sCs, i64_w, i32_w];rfl);refine pureW (i := 7) (N := some 62) (v := undef) (a' := ?_) #[true, true, true, true, true, true, true, true, false, false, false, false, false, false, false, false, false, false] rfl rfl (by kernel_rfl) (fun _ _ _ h => h) ⟨Or.inr ⟨by rfl, rfl⟩, fun _ => rfl⟩ ?_ ?_;rotate_left;(simp only [Act.put, sIb, sC0, sCs, i64_w, i32_w];rfl);refine pureW (i := 8) (N := some 63) (v := undef) (a' := ?_) #[true, true, true, true, true, true, true, true, true, false, false, false, false, false, false, false, false, false] rfl rfl (by kernel_rfl) (fun _ _ _ h => h) ⟨Or.inr ⟨by rfl, rfl⟩, fun _ => rfl⟩ ?_ ?_;rotate_left;(simp only [Act.put, sIb, sC0, sCs, i64_w, i32_w];rfl);refine pureW (i := 9) (N := some 64) (v := undef) (a' := ?_) #[true, true, true, true, true, true, true, true, true, true, false, false, false, false, false, false, false, false] rfl rfl (by kernel_rfl) (fun _ _ _ h => h) ⟨Or.inr ⟨by rfl, rfl⟩, fun _ => rfl⟩ ?_ ?_;rotate_left;(simp only [Act.put, sIb, sC0, sCs, i64_w, i32_w];rfl);refine pureW (i := 10) (N := some 65) (v := undef) (a' := ?_) #[true, true, true, true, true, true, true, true, true, true, true, false, false, false, false, false, false, false] rfl rfl (by kernel_rfl) (fun _ _ _ h => h) ⟨Or.inr ⟨by rfl, rfl⟩, fun _ => rfl⟩ ?_ ?_;rotate_left;(simp only [Act.put, sIb, sC0, sCs, i64_w, i32_w];rfl);refine pureW (i := 11) (N := some 66) (v := undef) (a' := ?_) #[true, true, true, true, true, true, true, true, true, true, true, true, false, false, false, false, false, false] rfl rfl (by kernel_rfl) (fun _ _ _ h => h) ⟨Or.inr ⟨by rfl, rfl⟩, fun _ => rfl⟩ ?_ ?_;rotate_left;(simp only [Act.put, sIb, sC0, sCs, i64_w, i32_w];rfl);refine pureW (i := 12) (N := some 67) (v := undef) (a' := ?_) #[true, true, true, true, true, true, true, true, true, true, true, true, true, false, false, false, false, false] rfl rfl (by kernel_rfl) (fun _ _ _ h => h) ⟨Or.inr ⟨by rfl, rfl⟩, fun _ => rfl⟩ ?_ ?_;rotate_left;(simp only [Act.put, sIb, sC0, sCs, i64_w, i32_w];rfl)
      refine oneW (i := 13) (N := some 68) #[true, true, true, true, true, true, true, true, true, true, true, true, true, true, false, false, false, false] rfl rfl (by kernel_rfl) (fun K hK => ?_)
      refine offW (by rfl) ?_
      refine hK.out _ _ ?_;clear hK K;refine normW (a' := ?_) ?_ ?_;rotate_left
      ·show Act.put _ (some 68) _ = _
       simp only [Act.put, sIb, sC0, sCs, i64_w, i32_w];rfl
      refine oneW (i := 14) (N := some 69) #[true, true, true, true, true, true, true, true, true, true, true, true, true, true, true, false, false, false] rfl rfl (by kernel_rfl) (fun K hK => ?_)
      refine offW (by rfl) ?_
      refine hK.out _ _ ?_;clear hK K;refine normW (a' := ?_) ?_ ?_;rotate_left
      ·show Act.put _ (some 69) _ = _
       simp only [Act.put, sIb, sC0, sCs, i64_w, i32_w];rfl
      refine oneW (i := 15) (N := some 70) #[true, true, true, true, true, true, true, true, true, true, true, true, true, true, true, true, false, false] rfl rfl (by kernel_rfl) (fun K hK => ?_)
      refine offW (by rfl) ?_
      refine hK.out _ _ ?_;clear hK K;refine normW (a' := ?_) ?_ ?_;rotate_left
      ·show Act.put _ (some 70) _ = _
       simp only [Act.put, sIb, sC0, sCs, i64_w, i32_w];rfl
      refine pureW (i := 16) (N := some 71) (v := undef) (a' := ?_) #[true, true, true, true, true, true, true, true, true, true, true, true, true, true, true, true, true, false] rfl rfl (by kernel_rfl) (fun _ _ _ h => h) ⟨Or.inr ⟨by rfl, rfl⟩, fun _ => rfl⟩ ?_ ?_;rotate_left;(simp only [Act.put, sIb, sC0, sCs, i64_w, i32_w];rfl);refine pureW (i := 17) (N := some 72) (v := ?_) (a' := ?_) #[true, true, true, true, true, true, true, true, true, true, true, true, true, true, true, true, true, true] rfl rfl (by kernel_rfl) (fun _ _ _ h => h) ⟨Or.inl ⟨by rfl, ?_⟩, fun _ => rfl⟩ ?_ ?_;rotate_left;(intro w';go_simp;with_reducible rfl);rotate_left;(simp only [Act.put, sIb, sC0, sCs, i64_w, i32_w];rfl)
      refine doneW (by kernel_rfl) ?_
      all_goals
       have HQ := Aside0.mk (show P0 = piecesL (L.take (i + 1)) lo hi by
        rw [HE.out]
        unfold piecesL
        rw [List.flatMap_append, List.flatMap_cons, List.flatMap_nil, List.append_nil]
        show _ = piecesL (L.take i) lo hi ++ pieces3 e lo hi
        rw [← HP.out]
        unfold pieces3
        rw [HA.out, HB.out, HMAB.out, HEN.out, if_neg (by have := HC1.out; omega), if_neg (by have := HC2.out; omega), if_neg (by have := HC3.out; omega)]; simp)
       gi_wp2
       go_wp2
       go_roundg g
       case measure => omega
       case rel => exact ⟨i + 1, by rw [HIW.out], ⟨by have := HK.out; omega⟩, ⟨by rw [← HQ.out]; exact HI3e.out⟩, HR3e, HBL3e, HBF3e, HBT3e⟩
end Go.Proofs.Ytopmjjnkolfciaa.Pr
end
section
namespace Go.Proofs.Ytopmjjnkolfciaa.Pr
open Go Go.RowKit Go.Shelf Go.Proofs.YtopmjjnkolfciaaW.PrintWords Go.Proofs.YtopmjjnkolfciaaW.PrintLast Go.Proofs.YtopmjjnkolfciaaW.PrintMore Go.Proofs.Ytopmjjnkolfciaa.Sq
set_option linter.unusedVariables false
set_option linter.unusedSimpArgs false
theorem own_ge {W : World} {base : Nat} {e : TypeId} {size : Nat} {v : Value} {k : Nat} {xs : List Value} (h : W.ownsRow base e size v k xs) {g : Nat} (hg : v.ownBlock = some g) : base ≤ g ∧ ∃ cs, W.heap[g]? = some (.cells cs e (0, 0)) := by
  rcases h.2 with ⟨rfl, _⟩ | ⟨g', cap, cur, rfl, hb, hh, _⟩
  · simp [Value.ownBlock] at hg
  · obtain rfl : g' = g := by simpa [Value.ownBlock] using hg
    exact ⟨hb, cur, hh⟩
theorem own_of_heap {W W' : World} {base : Nat} {e : TypeId} {size : Nat} {v : Value} {k : Nat} {xs : List Value} (h : W.ownsRow base e size v k xs) (hs : ∀ g, v.ownBlock = some g → W'.heap[g]? = W.heap[g]?) : W'.ownsRow base e size v k xs :=
  ⟨h.1, h.2.imp id (fun ⟨g, cap, cur, ev, hb, hg, r⟩ => ⟨g, cap, cur, ev, hb, (hs g (by rw [ev]; rfl)).trans hg, r⟩)⟩
structure LB {α : Type} (e sz tb : Nat) (cells : α → List Value) (bb b : Nat) (xs : List α) (v : Value) (W : World) : Prop where
  box : W.heap[b]? = some (.cells #[v] tb (0, 0))
  row : W.ownsRow bb e sz v xs.length (xs.flatMap cells)
section
variable {α : Type} {e sz tb bb b : Nat} {cells : α → List Value} {xs : List α} {v : Value} {W W' : World}
theorem LB.heap (h : LB e sz tb cells bb b xs v W) (h1 : W'.heap[b]? = W.heap[b]?) (h2 : ∀ g, v.ownBlock = some g → W'.heap[g]? = W.heap[g]?) : LB e sz tb cells bb b xs v W' :=
  ⟨h1.trans h.box, own_of_heap h.row h2⟩
theorem LB.below (h : LB e sz tb cells bb b xs v W) (hb : Below W.heap.size W W') : LB e sz tb cells bb b xs v W' :=
  h.heap (hb.block b (blk_lt h.box)) (fun g hg => by obtain ⟨_, cs, hh⟩ := own_ge h.row hg; exact hb.block g (blk_lt hh))
theorem LB.grown (h : LB e sz tb cells bb b xs v W) {row : Option Nat} (hg : W.grownBy W' row) (hr : ∀ r, row = some r → ∃ o : Obj, W.heap[r]? = some o ∧ o.isCells = false) : LB e sz tb cells bb b xs v W' := by
  have key : ∀ k cs t fr, W.heap[k]? = some (Obj.cells cs t fr) → W'.heap[k]? = W.heap[k]? := fun k cs t fr hk => hg.block k (blk_lt hk) (fun ee => by
    obtain ⟨o, ho, hc⟩ := hr k ee.symm
    rw [hk] at ho; cases ho; cases hc)
  exact h.heap (key b _ _ _ h.box) (fun g hgv => by obtain ⟨_, cs, hh⟩ := own_ge h.row hgv; exact key g _ _ _ hh)
theorem LB.cell (h : LB e sz tb cells bb b xs v W) : W.cell? ⟨b, 0, none⟩ = some v := blk_cell h.box 0
theorem LB.off (h : LB e sz tb cells bb b xs v W) {k : Nat} (hk : W.heap.size ≤ k) : OffRow W b k := fun u hu eo => by
  rw [h.cell] at hu
  injection hu with hu
  subst hu
  obtain ⟨_, cs, hh⟩ := own_ge h.row eo
  have := blk_lt hh
  omega
theorem LB.far (h : LB e sz tb cells bb b xs v W) {g : Nat} (h1 : b ≠ g) (h2 : v.ownBlock ≠ some g) (j : Nat) (u : Value) : LB e sz tb cells bb b xs v (W.setCell ⟨g, j, none⟩ u) :=
  h.heap (Below.heap_setCell W ⟨g, j, none⟩ u b h1) (fun k hk => Below.heap_setCell W ⟨g, j, none⟩ u k (fun ee => h2 (by have e2 : k = g := ee; rw [← e2]; exact hk)))
theorem LB.slice (h : LB e sz tb cells bb b xs v W) : ∃ A c, v = .slice A xs.length c := by
  rcases h.row.2 with ⟨e1, e2⟩ | ⟨g, cap, cur, e1, _⟩
  · exact ⟨none, 0, by rw [e1, e2]⟩
  · exact ⟨_, _, e1⟩
theorem LB.app (h : LB e sz tb cells bb b xs v W) (hbb : b < bb) {tmp : Obj} {w1 : World} {v' : Value} {y : α} (hgrow : (W.alloc tmp).grownBy w1 v.ownBlock) (hown : w1.ownsRow bb e sz v' (xs.length + 1) (xs.flatMap cells ++ cells y)) :
    w1.heap[b]? = some (.cells #[v] tb (0, 0)) ∧ LB e sz tb cells bb b (xs ++ [y]) v' (w1.setCell ⟨b, 0, none⟩ v') := by
  have h1 : w1.heap[b]? = some (.cells #[v] tb (0, 0)) := (hgrow.block b (by have := blk_lt h.box; simp; omega) (fun ee => by have := (own_ge h.row ee.symm).1; omega)).trans (blk_alloc h.box tmp)
  refine ⟨h1, blk_put h1 0 v' rfl, own_of_heap (W := w1) ?_ (fun g hg => Below.heap_setCell w1 ⟨b, 0, none⟩ v' g (fun ee => by have := (own_ge hown hg).1; have e2 : g = b := ee; omega))⟩
  rw [List.length_append, List.flatMap_append]
  simpa using hown
theorem LB.keeps (h : LB e sz tb cells bb b xs v W) {tmp : Obj} {w1 : World} (v' : Value) (hgrow : (W.alloc tmp).grownBy w1 v.ownBlock) : KeepsOthers W (w1.setCell ⟨b, 0, none⟩ v') := by
  refine ((KeepsOthers.alloc W tmp).trans (KeepsOthers.of_grownBy hgrow fun j o ej hj => ?_)).trans (KeepsOthers.setCell _ _ _)
  obtain ⟨_, cs, hh⟩ := own_ge h.row ej
  rw [blk_alloc hh tmp] at hj
  cases hj; rfl
theorem LB.bel (h : LB e sz tb cells bb b xs v W) (hbb : b < bb) {w0 : Nat} {w : World} (hw : w0 ≤ b) (hb : Below w0 w W) {tmp : Obj} {w1 : World} (v' : Value) (hgrow : (W.alloc tmp).grownBy w1 v.ownBlock) : Below w0 w (w1.setCell ⟨b, 0, none⟩ v') ∧ W.heap.size ≤ (w1.setCell ⟨b, 0, none⟩ v').heap.size := by
  have hbl := blk_lt h.box
  have h1 : Below w0 w w1 := (hb.alloc (by omega) tmp).grown hgrow (by simp; omega) (fun k ek => by have := (own_ge h.row ek).1; omega)
  refine ⟨h1.setCell (p := ⟨b, 0, none⟩) hw _, ?_⟩
  have := hgrow.size
  simp [World.setCell] at this ⊢
  omega
theorem LB.other {β : Type} {e2 sz2 tb2 b2 : Nat} {cells2 : β → List Value} {ys : List β} {u : Value} (h : LB e sz tb cells bb b xs v W) (h2 : LB e2 sz2 tb2 cells2 bb b2 ys u W) (hne : e ≠ e2) (hb : b ≠ b2) (hbb : b < bb) (hbb2 : b2 < bb) {tmp : Obj} {w1 : World} (v' : Value) (hgrow : (W.alloc tmp).grownBy w1 v.ownBlock) :
    LB e2 sz2 tb2 cells2 bb b2 ys u (w1.setCell ⟨b, 0, none⟩ v') := by
  have key : ∀ (k : Nat) (o : Obj), W.heap[k]? = some o → k ≠ b → v.ownBlock ≠ some k → (w1.setCell ⟨b, 0, none⟩ v').heap[k]? = W.heap[k]? := fun k o hk h1 h3 => by
    have hkl := (Array.getElem?_eq_some_iff.1 hk).1
    exact (Below.heap_setCell w1 ⟨b, 0, none⟩ v' k h1).trans ((hgrow.block k (by simp; omega) (fun ee => h3 ee.symm)).trans (Below.heap_alloc W tmp k hkl))
  refine h2.heap (key b2 _ h2.box (fun ee => hb ee.symm) (fun ee => by have := (own_ge h.row ee).1; omega)) (fun g hg => ?_)
  obtain ⟨hg1, cs, hh⟩ := own_ge h2.row hg
  refine key g _ hh (by omega) (fun ee => ?_)
  obtain ⟨_, cs', hh'⟩ := own_ge h.row ee
  rw [hh] at hh'
  injection hh' with hh'
  injection hh' with _ ht
  exact hne ht.symm
theorem KpF.app {d : Nat} {bs : List Nat} (h : LB e sz tb cells bb b xs v W) (hb : b ∈ bs) (hbs : ∀ q ∈ bs, q < bb ∧ q < W.heap.size) {tmp : Obj} {w1 : World} {v' : Value} (hgrow : (W.alloc tmp).grownBy w1 v.ownBlock)
    (hat : v'.ownBlock = v.ownBlock ∨ v'.ownBlock = some (W.alloc tmp).heap.size) (hcell : w1.heap[b]? = some (.cells #[v] tb (0, 0))) : KpF d bs W (w1.setCell ⟨b, 0, none⟩ v') := by
  have hs : W.heap.size < (W.alloc tmp).heap.size := by simp
  refine ⟨by have := hgrow.size; simp [World.setCell]; omega, fun k cs t hk hf => ?_⟩
  have hkl := blk_lt hk
  have hoff := (hf.2 b hb).2 v h.cell
  have hne := (hf.2 b hb).1
  have h1 : (w1.setCell ⟨b, 0, none⟩ v').heap[k]? = some (.cells cs t (0, 0)) :=
    (Below.heap_setCell w1 ⟨b, 0, none⟩ v' k hne).trans ((hgrow.block k (by omega) (fun ee => hoff ee.symm)).trans (blk_alloc hk tmp))
  refine ⟨h1, hf.1, fun q hq => ⟨(hf.2 q hq).1, fun u hu => ?_⟩⟩
  by_cases e1 : q = b
  · subst e1
    have hq2 : (w1.setCell ⟨q, 0, none⟩ v').cell? ⟨q, 0, none⟩ = some v' := blk_cell (blk_put hcell 0 v' rfl) 0
    rw [hq2] at hu
    injection hu with hu
    subst hu
    intro eo
    rcases hat with hat | hat
    · exact hoff (hat.symm.trans eo)
    · have := hat.symm.trans eo
      injection this with this
      omega
  · have hqb := hbs q hq
    have h2 : (w1.setCell ⟨b, 0, none⟩ v').heap[q]? = W.heap[q]? :=
      (Below.heap_setCell w1 ⟨b, 0, none⟩ v' q e1).trans ((hgrow.block q (by omega) (fun ee => by have := (own_ge h.row ee.symm).1; omega)).trans (Below.heap_alloc W tmp q hqb.2))
    rw [cell_of_heap h2] at hu
    exact (hf.2 q hq).2 u hu
end
def AsG (bs : List Nat) (act : Nat → S24 × Bool → Act) (I : List (S24 × Bool) → World → Prop) (a' : Act) (s : List (S24 × Bool) × (S24 × Bool) × World) (W : World) : Prop :=
  ∃ eb : Nat, a' = act eb s.2.1 ∧ W.heap[eb]? = some (.cells #[.int .i64 s.2.1.1.f0, .int .i64 s.2.1.1.f1, .int .i64 s.2.1.1.f2, .bool s.2.1.1.f3] 24 (0, 0)) ∧ I s.1 W ∧ s.2.2.heap.size = eb ∧
    (∀ (k : Nat) (cs : Array Value) (t : TypeId), s.2.2.heap[k]? = some (Obj.cells cs t (0, 0)) → W.heap[k]? = some (Obj.cells cs t (0, 0))) ∧ ∀ b ∈ bs, OffRow W b eb ∧ ∃ (cs : Array Value) (t : TypeId), s.2.2.heap[b]? = some (Obj.cells cs t (0, 0))
theorem AsG.own {B : Nat} {bs : List Nat} {act : Nat → S24 × Bool → Act} {I : List (S24 × Bool) → World → Prop} (hI : OwnFrom B I) (a' : Act) : OwnFrom B (AsG bs act I a') := by
  rintro s A A' row ⟨eb, h1, h2, h3, h4, h5, h6⟩ hg hr
  have key : ∀ k cs t, A.heap[k]? = some (Obj.cells cs t (0, 0)) → A'.heap[k]? = some (Obj.cells cs t (0, 0)) := fun k cs t hk => (hg.block k (blk_lt hk) (fun ee => by
    obtain ⟨_, o, ho, hc⟩ := hr k ee.symm
    rw [hk] at ho; cases ho; cases hc)).trans hk
  refine ⟨eb, h1, key _ _ _ h2, hI _ _ _ _ h3 hg hr, h4, fun k cs t hk => key _ _ _ (h5 k cs t hk), fun b hb => ⟨fun v hv => ?_, (h6 b hb).2⟩⟩
  obtain ⟨cs, t, hc⟩ := (h6 b hb).2
  have e1 := h5 b cs t hc
  rw [cell_of_heap ((key b cs t e1).trans e1.symm)] at hv
  exact (h6 b hb).1 v hv
theorem AsG.kp {d : Nat} {bs : List Nat} {act : Nat → S24 × Bool → Act} {I : List (S24 × Bool) → World → Prop} {a' : Act} {s : List (S24 × Bool) × (S24 × Bool) × World} {W W1 : World} (h : AsG bs act I a' s W)
    (hW : W.heap.size ≤ W1.heap.size) (h1 : ∀ k, k ≠ s.2.2.heap.size → W1.heap[k]? = W.heap[k]?) : KpF d bs s.2.2 W1 := by
  obtain ⟨eb, _, h2, _, h4, h5, h6⟩ := h
  have key : ∀ k cs t, s.2.2.heap[k]? = some (Obj.cells cs t (0, 0)) → W1.heap[k]? = some (Obj.cells cs t (0, 0)) := fun k cs t hk => (h1 k (by have := blk_lt hk; omega)).trans (h5 k cs t hk)
  refine ⟨by have := blk_lt h2; omega, fun k cs t hk hf => ⟨key k cs t hk, hf.1, fun b hb => ⟨(hf.2 b hb).1, fun v hv => ?_⟩⟩⟩
  obtain ⟨cs', t', hc⟩ := (h6 b hb).2
  rw [cell_of_heap ((key b cs' t' hc).trans hc.symm)] at hv
  exact (hf.2 b hb).2 v hv
theorem AsG.start {bs : List Nat} {act : Nat → S24 × Bool → Act} {I : List (S24 × Bool) → World → Prop} {pre : List (S24 × Bool)} {x : S24 × Bool} {W : World} (hI : I pre W) (hIB : ∀ W', Below W.heap.size W W' → I pre W')
    (hb : ∀ b ∈ bs, (∀ k, W.heap.size ≤ k → OffRow W b k) ∧ ∃ cs t, W.heap[b]? = some (.cells cs t (0, 0))) : AsG bs act I (act W.heap.size x) (pre, x, W) (W.alloc (.cells #[.int .i64 x.1.f0, .int .i64 x.1.f1, .int .i64 x.1.f2, .bool x.1.f3] 24)) := by
  have hB := (Below.refl W.heap.size W).alloc (Nat.le_refl _) (.cells #[.int .i64 x.1.f0, .int .i64 x.1.f1, .int .i64 x.1.f2, .bool x.1.f3] 24)
  refine ⟨W.heap.size, rfl, blk_new W _, hIB _ hB, rfl, fun k cs t hk => blk_below hk hB, fun b hbb => ⟨fun v hv => ?_, (hb b hbb).2⟩⟩
  obtain ⟨cs, t, hc⟩ := (hb b hbb).2
  rw [cell_of_heap ((blk_below hc hB).trans hc.symm)] at hv
  exact (hb b hbb).1 _ (Nat.le_refl _) v hv
end Go.Proofs.Ytopmjjnkolfciaa.Pr
end
section
namespace Go.Proofs.Ytopmjjnkolfciaa.Pr
open Go.RowKit Go.Proofs.YtopmjjnkolfciaaW.PrintWords Go.Proofs.YtopmjjnkolfciaaW.PrintLast Go.Proofs.YtopmjjnkolfciaaW.PrintMore
attribute [local go_sem] max2_int min2_int max_two min_two max_three min_three max_four min_four
attribute [local go_sem] Go.Proofs.Ytopmjjnkolfciaa.Hl.str_geq Go.Proofs.Ytopmjjnkolfciaa.Hl.str_gtr Go.Proofs.Ytopmjjnkolfciaa.Hl.str_leq
set_option linter.unusedVariables false
set_option linter.unusedSimpArgs false
open Go.Shelf Go.Proofs.Ytopmjjnkolfciaa.Sq
attribute [local go_sem] Go.Oper.semAt_some
def extent_Mark.f (k : Nat) (l0 : List S24) (a1 a2 : Int) : Option (List S24 × Int) := (extent_ranged.f k l0 a1 a2).bind fun t => (if t = true then (if (okB l0 = true ∧ 0 ≤ a1) ∧ a1 ≤ a2 then some (fitL (mergeL (markL l0 a1 a2))) else none) else some ([], 1))
theorem split_made (A0 : Option Addr) (n c : Nat) (lo hi : Int) (w : World) : Calls Try.prog 39 #[.slice A0 n c, .int .i64 lo, .int .i64 hi] w fun e w' =>
  e = .returned (.func (.func 66) #[] #[.pointer (some ⟨w.heap.size, 0, none⟩), .pointer (some ⟨w.heap.size + 1, 0, none⟩), .pointer (some ⟨w.heap.size + 1 + 1, 0, none⟩)]) ∧
   w' = ((w.alloc (.cells #[.slice A0 n c] 22)).alloc (.cells #[.int .i64 lo] 3)).alloc (.cells #[.int .i64 hi] 3) := by
 go_enter Try.func39, Try.ntmps39
 go_wp2;go_ret
 exact ⟨rfl, rfl⟩
theorem markL_len (l : List S24) (lo hi : Int) : (markL l lo hi).length ≤ 3 * l.length := by
 unfold markL
 rw [List.length_map]
 exact piecesL_len l lo hi
def MkI (n0 w0 : Nat) (w : World) (pre : List (S24 × Bool)) (W : World) : Prop := (∃ v, LB 24 4 22 Rw.cells2 (n0 + 4) n0 (pre.map markP) v W) ∧ Below w0 w W ∧ n0 + 4 ≤ W.heap.size
theorem MkI.own (n0 w0 : Nat) (hw0 : w0 ≤ n0) (w : World) : OwnFrom (n0 + 4) (MkI n0 w0 w) := by
 rintro s A B row ⟨⟨v, h⟩, hb, hs⟩ hg hr
 exact ⟨⟨v, h.grown hg (fun r e => (hr r e).2)⟩, hb.grown hg (by omega) (fun k e => by have := (hr k e).1; omega), Nat.le_trans hs hg.size⟩
theorem MkI.below {n0 w0 : Nat} (hw0 : w0 ≤ n0) {w : World} {pre : List (S24 × Bool)} {W W' : World} (h : MkI n0 w0 w pre W) (hb : Below W.heap.size W W') : MkI n0 w0 w pre W' := by
 obtain ⟨⟨v, h1⟩, h2, h3⟩ := h
 exact ⟨⟨v, h1.below hb⟩, h2.trans (hb.mono (by omega)), Nat.le_trans h3 hb.size⟩
abbrev actM (A0 : Option Addr) (n c lo hi n0 : Nat) (eb : Nat) (x : S24 × Bool) : Act := { tmps := #[.slice A0 n c, .int .i64 lo, .int .i64 hi, undef, undef, undef, .slice none 0 0, .int .i64 0, .pointer (some ⟨n0, 0, none⟩), .pointer (some ⟨eb, 0, none⟩), .bool x.2, .slice A0 n c, .int .i64 lo, .int .i64 hi, .bool true, .bool false, .slice A0 n c, .int .i64 lo, .int .i64 hi,
 .func (.func 66) #[] #[.pointer (some ⟨n0 + 1, 0, none⟩), .pointer (some ⟨n0 + 1 + 1, 0, none⟩), .pointer (some ⟨n0 + 1 + 1 + 1, 0, none⟩)], .agg #[.int .i64 x.1.f0, .int .i64 x.1.f1, .int .i64 x.1.f2, .bool x.1.f3], .bool x.2, undef, undef, undef, undef, undef, undef, undef, undef, undef, undef, undef, undef, undef, undef, undef], defers := [] }
set_option maxHeartbeats 8000000 in
set_option maxRecDepth 100000 in
theorem extent_Mark.calls (k : Nat) (A0 : Option Addr) (c0 : Nat) (l0 : List (S24)) (a1 : Int) (a2 : Int) (r1 : List (S24)) (r2 : Int) (w : World) (hr0 : Kd.C k24 w A0 l0.length l0) (hc0 : l0.length ≤ c0) (h : extent_Mark.f k l0 a1 a2 = some (r1, r2)) :
  Calls Try.prog 22 #[.slice A0 l0.length c0, .int .i64 a1, .int .i64 a2] w fun e w' => ∃ v0_ : Value, e = .returned (.tuple #[v0_, .int .i64 r2]) ∧ Kd.R k24 24 w' w.heap.size (fun _ => True) v0_ r1 ∧ Below w.heap.size w w' := by
 unfold extent_Mark.f at h
 obtain ⟨t, ht, h⟩ := Option.bind_eq_some_iff.1 h
 have hu24 := Try.underlying24
 have HR0 := Aside0.mk hr0
 have HC0 := Aside0.mk hc0
 have HT := Aside0.mk ht
 clear hr0 hc0 ht
 cases t with
 | true =>
  rw [if_pos rfl] at h
  by_cases hok : (okB l0 = true ∧ 0 ≤ a1) ∧ a1 ≤ a2
  ·rw [if_pos hok] at h
   have HOK := Aside0.mk (okB_facts hok.1.1)
   have HM := Aside0.mk (show fitL (mergeL (markL l0 a1 a2)) = (r1, r2) from Option.some.inj h)
   obtain ⟨lo, rfl⟩ : ∃ lo : Nat, a1 = (lo : Int) := ⟨a1.toNat, by omega⟩
   obtain ⟨hi, rfl⟩ : ∃ hi : Nat, a2 = (hi : Int) := ⟨a2.toNat, by omega⟩
   clear h hok
   refine (callsIn_wide (n := 6)).1 ?_
   refine callsIn_of_wp_marks Try.func22 rfl trivial ?_ rfl
   simp only [Try.ntmps22, List.size_toArray, List.length_cons, List.length_nil, Nat.reduceAdd, Nat.reduceSub, Array.replicate_succ, Array.replicate_zero, List.push_toArray, List.append_toArray, List.nil_append, List.cons_append]
   gi_wp2_with (first | (refine ⟨trivial, ?_⟩; gi_at_call 39; refine (callsIn_wide.2 (split_made A0 l0.length c0 (lo : Int) (hi : Int) _)).mono ?_; rintro e3 w3 ⟨rfl, hw3⟩; have HW3 := Aside0.mk hw3; clear hw3) | (refine ⟨trivial, ?_⟩; gi_at_call 38; refine (callsIn_wide.2 (extent_ranged.calls k A0 c0 l0 (lo : Int) (hi : Int) true _ HR0.out HC0.out HT.out)).mono ?_; rintro e2 w2 ⟨rfl, hb2⟩; have HB2 := Aside0.mk hb2; clear hb2))
   obtain ⟨n0, hn0⟩ : ∃ n0, w2.heap.size = n0 := ⟨_, rfl⟩
   have HW0 := Aside0.mk (show w.heap.size ≤ n0 by rw [← hn0]; exact HB2.out.size)
   have hsz : w3.heap.size = n0 + 4 := by rw [HW3.out]; simp [hn0]
   have hb3 : Below w.heap.size w w3 := by
    rw [HW3.out]
    exact (((HB2.out.alloc HB2.out.size _).alloc (by simp; have := HB2.out.size; omega) _).alloc (by simp; have := HB2.out.size; omega) _).alloc (by simp; have := HB2.out.size; omega) _
   have hbx0 : w3.heap[n0]? = some (.cells #[.slice none 0 0] 22 (0, 0)) := by rw [HW3.out, ← hn0]; exact blk_alloc (blk_alloc (blk_alloc (blk_new w2 _) _) _) _
   have hbx1 : w3.heap[n0 + 1]? = some (.cells #[.slice A0 l0.length c0] 22 (0, 0)) := by
    have h1 := blk_new (w2.alloc (.cells #[.slice none 0 0] 22)) (.cells #[.slice A0 l0.length c0] 22)
    rw [World.size_alloc, hn0] at h1
    rw [HW3.out]; exact blk_alloc (blk_alloc h1 _) _
   have hbx2 : w3.heap[n0 + 1 + 1]? = some (.cells #[.int .i64 (lo : Int)] 3 (0, 0)) := by
    have h1 := blk_new ((w2.alloc (.cells #[.slice none 0 0] 22)).alloc (.cells #[.slice A0 l0.length c0] 22)) (.cells #[.int .i64 (lo : Int)] 3)
    rw [World.size_alloc, World.size_alloc, hn0] at h1
    rw [HW3.out]; exact blk_alloc h1 _
   have hbx3 : w3.heap[n0 + 1 + 1 + 1]? = some (.cells #[.int .i64 (hi : Int)] 3 (0, 0)) := by
    have h1 := blk_new (((w2.alloc (.cells #[.slice none 0 0] 22)).alloc (.cells #[.slice A0 l0.length c0] 22)).alloc (.cells #[.int .i64 (lo : Int)] 3)) (.cells #[.int .i64 (hi : Int)] 3)
    rw [World.size_alloc, World.size_alloc, World.size_alloc, hn0] at h1
    rw [HW3.out]; exact h1
   have hI0 : MkI n0 w.heap.size w [] w3 := ⟨⟨_, hbx0, World.ownsRow_nil _ _ _ _⟩, hb3, by omega⟩
   have hoff : ∀ k, OffRow w3 n0 k := fun k v hv => by
    rw [(blk_cell hbx0 0)] at hv
    have : v = .slice none 0 0 := (Option.some.inj hv).symm
    rw [this]; simp [Value.ownBlock]
   rw [hn0]
   clear hn0 HW3 HB2 hb3
   have HBX0 := Aside0.mk hbx0
   have HBX1 := Aside0.mk hbx1
   have HBX2 := Aside0.mk hbx2
   have HBX3 := Aside0.mk hbx3
   have HSZ := Aside0.mk hsz
   have HI0 := Aside0.mk hI0
   have HOFF := Aside0.mk hoff
   clear hbx0 hbx1 hbx2 hbx3 hI0 hoff
   obtain ⟨i0, hi0, hz3⟩ := Option.map_eq_some_iff.1 info24
   simp only [Prod.mk.injEq] at hz3
   have HZ := Aside0.mk hz3
   have HI := Aside0.mk hi0
   clear hz3 hi0
   refine range_state (α := S24 × Bool) rfl (by decide) (gf := 66) (lb := #[.pointer (some ⟨n0 + 1, 0, none⟩), .pointer (some ⟨n0 + 1 + 1, 0, none⟩), .pointer (some ⟨n0 + 1 + 1 + 1, 0, none⟩)]) rfl trivial (enters_of Try.func66 (by kernel_rfl) rfl)
    (fun x => #[.agg #[.int .i64 x.1.f0, .int .i64 x.1.f1, .int .i64 x.1.f2, .bool x.1.f3], .bool x.2]) (fun _ => rfl) (KpF (n0 + 4) [n0]) (fun xs => xs = piecesL l0 lo hi) (fun _ => False) 180 KpF.trans (fun W o => by rw [hsz]; exact KpF.put (by intro b hb; simp at hb; omega) W o)
    (MkI n0 w.heap.size w) (fun _ _ _ => False) (by rw [hsz]; exact MkI.own n0 w.heap.size HW0.out w) (fun c => by rintro s A B row h _ _; exact h) HI0.out
    (AsG [n0] (actM A0 l0.length c0 lo hi n0) (MkI n0 w.heap.size w)) (fun a' => by rw [hsz]; exact AsG.own (MkI.own n0 w.heap.size HW0.out w) a') ?hit ?assign ?body ?done ?stop
   case hit =>
    intro l R Rx W hRk hRxk hRs hBW hY hI0 hR0
    have ow : ∀ {k cs t}, k ≠ n0 → w3.heap[k]? = some (.cells cs t (0, 0)) → Own1 (n0 + 4) [n0] W k cs t := fun {k cs t} hk hh => ⟨(hBW.block k (blk_lt hh)).trans hh, by have := blk_lt hh; rw [hsz] at this; omega, fun b hb => by
     obtain rfl : b = n0 := by simpa using hb
     refine ⟨hk, fun v hv => ?_⟩
     rw [cell_of_heap (hBW.block b (blk_lt HBX0.out))] at hv
     exact HOFF.out k v hv⟩
    refine (split_in 5 (by decide) l (n0 + 4) [n0] (by intro b hb; simp at hb; omega) (n0 + 1) (n0 + 1 + 1) (n0 + 1 + 1 + 1) A0 c0 l0 HC0.out HOK.out.1 (List.all_eq_true.1 HOK.out.2.1) lo hi (MkI n0 w.heap.size w) R Rx 180 (Nat.le_refl _)
     (fun pre W h => Kd.C_below HR0.out h.2.1) (fun pre W W' h hb => h.below HW0.out hb) (fun pre W h k hk b hb => (List.mem_singleton.1 hb) ▸ h.1.choose_spec.off hk)
     (fun W W' h hb => hRk _ _ ⟨hb.size, fun k o _ hk _ => (hb.block k (Array.getElem?_eq_some_iff.1 hk).1).trans hk⟩ h) (fun W h => by have := hRs W h; rw [hsz] at this; exact this) hY W (ow (by omega) HBX1.out) (ow (by omega) HBX2.out) (ow (by omega) HBX3.out) hI0 hR0).mono ?_
    rintro e W' ⟨⟨v, rfl⟩, hI9, hR9⟩
    exact ⟨⟨v, rfl⟩, .inl ⟨_, rfl, hI9, hR9⟩⟩
   case assign =>
    intro l pre x W K hIp hlen hszW hK
    have hq := AsG.start (bs := [n0]) (act := actM A0 l0.length c0 lo hi n0) (x := x) hIp (fun W' hb => hIp.below HW0.out hb) (fun b hb => (List.mem_singleton.1 hb) ▸ ⟨fun k hk => hIp.1.choose_spec.off hk, _, _, hIp.1.choose_spec.box⟩)
    gi_wp2
    exact hK _ _ ((KeepsOthers.alloc W _).from _) hq
   case body =>
    rintro l pre x a' W0 W has hlen
    have has2 := has
    obtain ⟨eb, rfl, hE, ⟨⟨v, hLB⟩, hBel, hszW⟩, heb, hkeep, hbb⟩ := has2
    dsimp only at hE hLB heb hkeep hbb
    obtain ⟨M, hM⟩ : ∃ M, M = pre.map markP := ⟨_, rfl⟩
    have HM2 := Aside0.mk hM
    have HLEN := Aside0.mk (show M.length ≤ 180 by rw [hM, List.length_map]; omega)
    rw [← hM] at hLB
    clear hM
    have hoe := (hbb n0 (by simp)).1 v hLB.cell
    obtain ⟨A, c, rfl⟩ := hLB.slice
    have hne : n0 ≠ eb := by
     obtain ⟨cs, t, hh⟩ := (hbb n0 (by simp)).2
     have hh' : W0.heap[n0]? = some (Obj.cells cs t (0, 0)) := hh
     have heb' : W0.heap.size = eb := heb
     have := blk_lt hh'; omega
    obtain ⟨u, hu⟩ : ∃ u : Bool, (x.1.f3 && !x.2) = u := ⟨_, rfl⟩
    have hLB1 := hLB.far hne hoe 3 (.bool u)
    have HLB1 := Aside0.mk hLB1
    have HAS := Aside0.mk has
    have hnew : ∀ (j : Nat) (q : Value), (Rw.cells2 (markP x))[j]? = some q → ((W.setCell ⟨eb, 3, none⟩ (.bool u)).alloc (.cells #[.int .i64 x.1.f0, .int .i64 x.1.f1, .int .i64 x.1.f2, .bool u] 24)).cell? ((⟨W.heap.size, 0, none⟩ : Addr).add j) = some q := by
     intro j q hq
     have hsz1 : (W.setCell ⟨eb, 3, none⟩ (.bool u)).heap.size = W.heap.size := by simp [World.setCell]
     have hadd : (⟨W.heap.size, 0, none⟩ : Addr).add j = ⟨W.heap.size, j, none⟩ := add_plain _ _
     have hn := blk_new (W.setCell ⟨eb, 3, none⟩ (.bool u)) (.cells #[.int .i64 x.1.f0, .int .i64 x.1.f1, .int .i64 x.1.f2, .bool u] 24)
     rw [hsz1] at hn
     rw [hadd, blk_cell hn j]
     rw [← hq]
     show _ = (Rw.cells2 (⟨x.1.f0, x.1.f1, x.1.f2, x.1.f3 && !x.2⟩ : S24))[j]?
     rw [hu]; simp [Rw.cells2]
    have HNEW := Aside0.mk hnew
    have hv := hLB.cell
    have hfv := blk_frozen hLB.box 0
    have hce0 := (blk_cell hE 0).trans rfl
    have hce1 := (blk_cell hE 1).trans rfl
    have hce2 := (blk_cell hE 2).trans rfl
    have hce3 := (blk_cell hE 3).trans rfl
    have hfe := blk_frozen hE 3
    have HBEL1 := Aside0.mk (hBel.setCell (p := ⟨eb, 3, none⟩) (show w.heap.size ≤ eb by have := HW0.out; obtain ⟨cs, t, hh⟩ := (hbb n0 (by simp)).2; have := blk_lt hh; omega) (.bool u))
    have HONE := Aside0.mk (show ∀ q ∈ Rw.cells2 (markP x), q.oneCell' = true by intro q hq; simp only [Rw.cells2, List.mem_cons, List.not_mem_nil, or_false] at hq; rcases hq with rfl | rfl | rfl | rfl <;> rfl)
    clear hLB1 has hnew hLB hE hbb hkeep hBel
    cases hf3 : x.1.f3 with
    | true =>
     rw [hf3] at hce3 hu
     have hn2 : (!x.2) = u := by simpa using hu
     clear hu
     gi_wp2_with (gi_at_builtin; refine wpListIn_append_own_at _ rfl _ _ 22 rfl (n0 + 4) 24 i0 (.agg #[.int .i64 0, .int .i64 0, .int .i64 0, .bool false]) 4 32 Try.underlying22 HI.out HZ.out.1 HZ.out.2.1 HZ.out.2.2 rfl (by decide) _ _ _ rfl (HLB1.out.row.alloc _) ⟨W.heap.size, 0, none⟩ 1 1 (Rw.cells2 (markP x)) rfl rfl HNEW.out HONE.out (by have := HLEN.out; unfold maxLen; omega) (by have := HLEN.out; omega) (by simp [World.setCell]; omega) ?_; intro v' w1 hown' hgrow _ hat; obtain ⟨g', cap', rfl⟩ := ownsRow_succ hown'; obtain ⟨hq1, hLBq⟩ := HLB1.out.app (by omega) hgrow hown'; have hqc := blk_cell hq1 0; have hqf := blk_frozen hq1 0; have HGROW := Aside0.mk hgrow; have HAT := Aside0.mk hat; have HLBQ := Aside0.mk hLBq; have HQ1 := Aside0.mk hq1; clear hgrow hat hLBq hq1 hown')
     obtain ⟨hbel9, hsz9⟩ := HLB1.out.bel (by omega) HW0.out HBEL1.out (.slice (some ⟨g', 0, none⟩) (M.length + 1) cap') HGROW.out
     refine ⟨((KeepsOthers.setCell W _ _).trans (HLB1.out.keeps (.slice (some ⟨g', 0, none⟩) (M.length + 1) cap') HGROW.out)).from _, (HAS.out.kp (by simp [World.setCell]) (fun k hk => Below.heap_setCell W ⟨eb, 3, none⟩ (.bool u) k (fun ee => hk (by have e2 : k = eb := ee; rw [e2]; exact heb.symm)))).trans (KpF.app HLB1.out (by simp) (by intro q hq; simp at hq; rw [hq]; exact ⟨by omega, by simp [World.setCell]; omega⟩) HGROW.out HAT.out HQ1.out), ⟨.slice (some ⟨g', 0, none⟩) (M.length + 1) cap', ?_⟩, hbel9, Nat.le_trans (by simp [World.setCell]; omega) hsz9⟩
     rw [List.map_append, ← HM2.out]
     exact HLBQ.out
    | false =>
     rw [hf3] at hce3 hu
     have hn2 : u = false := by simpa using hu.symm
     subst hn2
     clear hu
     gi_wp2_with (gi_at_builtin; refine wpListIn_append_own_at _ rfl _ _ 22 rfl (n0 + 4) 24 i0 (.agg #[.int .i64 0, .int .i64 0, .int .i64 0, .bool false]) 4 32 Try.underlying22 HI.out HZ.out.1 HZ.out.2.1 HZ.out.2.2 rfl (by decide) _ _ _ rfl (HLB1.out.row.alloc _) ⟨W.heap.size, 0, none⟩ 1 1 (Rw.cells2 (markP x)) rfl rfl HNEW.out HONE.out (by have := HLEN.out; unfold maxLen; omega) (by have := HLEN.out; omega) (by simp [World.setCell]; omega) ?_; intro v' w1 hown' hgrow _ hat; obtain ⟨g', cap', rfl⟩ := ownsRow_succ hown'; obtain ⟨hq1, hLBq⟩ := HLB1.out.app (by omega) hgrow hown'; have hqc := blk_cell hq1 0; have hqf := blk_frozen hq1 0; have HGROW := Aside0.mk hgrow; have HAT := Aside0.mk hat; have HLBQ := Aside0.mk hLBq; have HQ1 := Aside0.mk hq1; clear hgrow hat hLBq hq1 hown')
     obtain ⟨hbel9, hsz9⟩ := HLB1.out.bel (by omega) HW0.out HBEL1.out (.slice (some ⟨g', 0, none⟩) (M.length + 1) cap') HGROW.out
     refine ⟨((KeepsOthers.setCell W _ _).trans (HLB1.out.keeps (.slice (some ⟨g', 0, none⟩) (M.length + 1) cap') HGROW.out)).from _, (HAS.out.kp (by simp [World.setCell]) (fun k hk => Below.heap_setCell W ⟨eb, 3, none⟩ (.bool false) k (fun ee => hk (by have e2 : k = eb := ee; rw [e2]; exact heb.symm)))).trans (KpF.app HLB1.out (by simp) (by intro q hq; simp at hq; rw [hq]; exact ⟨by omega, by simp [World.setCell]; omega⟩) HGROW.out HAT.out HQ1.out), ⟨.slice (some ⟨g', 0, none⟩) (M.length + 1) cap', ?_⟩, hbel9, Nat.le_trans (by simp [World.setCell]; omega) hsz9⟩
     rw [List.map_append, ← HM2.out]
     exact HLBQ.out
   case done =>
    rintro D xs W hD rfl ⟨⟨v, hLB⟩, hBel, hszW⟩ hK
    obtain ⟨M, hM⟩ : ∃ M, M = (piecesL l0 lo hi).map markP := ⟨_, rfl⟩
    rw [← hM] at hLB
    have hM2 : markL l0 lo hi = M := hM.symm
    have hlen : M.length < 4398046511104 := by rw [← hM2]; have := markL_len l0 lo hi; have := HOK.out.1; omega
    have hmr := merged_f M hlen (M.length + 1) (Nat.lt_succ_self _)
    have hfin := HM.out
    rw [hM2] at hfin
    rw [hfin] at hmr
    have HMR := Aside0.mk hmr
    obtain ⟨A, c, rfl⟩ := hLB.slice
    have hR := Kd.R_reads' (Rw.flat_R (ok := fun _ => True) hLB.row (fun _ _ => trivial))
    have HCR := Aside0.mk hR.2.2
    have HLE := Aside0.mk hR.2.1
    have HBEL := Aside0.mk hBel
    have HKD := Aside0.mk hK
    have hv := hLB.cell
    clear hmr hfin hlen hM2 hR hM hLB hBel hK
    gi_wp2_with (refine ⟨trivial, ?_⟩; gi_at_call 40; refine (callsIn_wide.2 (extent_merged.calls _ A c M r1 r2 _ HCR.out HLE.out HMR.out)).mono ?_; rintro e9 w9 ⟨v9, rfl, ho9, hb9⟩; have HO9 := Aside0.mk ho9; have HB9 := Aside0.mk hb9; clear ho9 hb9)
    have hK9 : w9.heap[D]? = some (.deferred (some [])) := (HB9.out.block D (Array.getElem?_eq_some_iff.1 HKD.out).1).trans HKD.out
    have hDw : w.heap.size ≤ D := by have := HW0.out; omega
    have hneD : (some D) ≠ v9.ownBlock := fun ee => by
     obtain ⟨_, cs, hh⟩ := own_ge (Rw.R_flat HO9.out) ee.symm
     rw [hK9] at hh; cases hh
    refine ⟨by simp, .inl ⟨_, _, rfl, run_takeDeferred hK9, ?_⟩⟩
    exact ⟨_, by simp [results, Try.results22, go_sem], _, rfl, Kd.R_grown1 (Kd.R_lower HO9.out HBEL.out.size) rfl (grownBy_putObj' w9 D _) hneD, (HBEL.out.trans (HB9.out.mono HBEL.out.size)).grown (grownBy_putObj' w9 D _) (by have := HBEL.out.size; have := HB9.out.size; omega) (fun k ek => by have := Option.some.inj ek; omega)⟩
   case stop =>
    intro D c pre W _ _ h _
    exact h.elim
  ·rw [if_neg hok] at h
   cases h
 | false =>
  rw [if_neg (by decide)] at h
  obtain ⟨rfl, rfl⟩ := Prod.mk.inj (Option.some.inj h)
  clear h
  go_enter Try.func22, Try.ntmps22
  go_wp2_with (go_at_call 38; refine (extent_ranged.calls k A0 c0 l0 a1 a2 false _ HR0.out HC0.out HT.out).mono ?_; rintro e2 w2 ⟨rfl, hb2⟩; have HB2 := Aside0.mk hb2; clear hb2)
  go_ret2
  exact ⟨_, rfl, Kd.R_nil _ _ _ _ _, HB2.out⟩
end Go.Proofs.Ytopmjjnkolfciaa.Pr
end
section
namespace Go.Proofs.Ytopmjjnkolfciaa.Pr
open Go.RowKit Go.Proofs.YtopmjjnkolfciaaW.PrintWords Go.Proofs.YtopmjjnkolfciaaW.PrintLast Go.Proofs.YtopmjjnkolfciaaW.PrintMore
attribute [local go_sem] max2_int min2_int max_two min_two max_three min_three max_four min_four
attribute [local go_sem] Go.Proofs.Ytopmjjnkolfciaa.Hl.str_geq Go.Proofs.Ytopmjjnkolfciaa.Hl.str_gtr Go.Proofs.Ytopmjjnkolfciaa.Hl.str_leq
set_option linter.unusedVariables false
set_option linter.unusedSimpArgs false
open Go.Shelf Go.Proofs.Ytopmjjnkolfciaa.Sq
attribute [local go_sem] Go.Oper.semAt_some
def extent_Cut.f (k : Nat) (l0 : List S24) (a1 a2 : Int) : Option (List S24 × List S32 × Int) := (extent_ranged.f k l0 a1 a2).bind fun t => (if t = true then (if (okB l0 = true ∧ 0 ≤ a1) ∧ a1 ≤ a2 then some (cutR l0 a1 a2) else none) else some ([], [], 1))
def leftOf (pre : List (S24 × Bool)) : List S24 := (pre.filter (fun p => !p.2)).map (·.1)
def spansOf (pre : List (S24 × Bool)) : List S32 := (pre.filter (fun p => p.2)).map (fun p => ⟨p.1.f1, p.1.f2⟩)
theorem leftOf_len (pre : List (S24 × Bool)) : (leftOf pre).length ≤ pre.length := by unfold leftOf; rw [List.length_map]; exact List.length_filter_le _ _
theorem spansOf_len (pre : List (S24 × Bool)) : (spansOf pre).length ≤ pre.length := by unfold spansOf; rw [List.length_map]; exact List.length_filter_le _ _
theorem leftOf_in (pre : List (S24 × Bool)) (x : S24 × Bool) (h : x.2 = true) : leftOf (pre ++ [x]) = leftOf pre ∧ spansOf (pre ++ [x]) = spansOf pre ++ [⟨x.1.f1, x.1.f2⟩] := by
 unfold leftOf spansOf
 rw [List.filter_append, List.filter_append, List.map_append, List.map_append]
 simp [h]
theorem leftOf_out (pre : List (S24 × Bool)) (x : S24 × Bool) (h : x.2 = false) : leftOf (pre ++ [x]) = leftOf pre ++ [x.1] ∧ spansOf (pre ++ [x]) = spansOf pre := by
 unfold leftOf spansOf
 rw [List.filter_append, List.filter_append, List.map_append, List.map_append]
 simp [h]
def CkI (n0 w0 : Nat) (w : World) (pre : List (S24 × Bool)) (W : World) : Prop := (∃ v, LB 24 4 22 Rw.cells2 (n0 + 5) n0 (leftOf pre) v W) ∧ (∃ v, LB 32 2 28 RwS.cells2 (n0 + 5) (n0 + 1) (spansOf pre) v W) ∧ Below w0 w W ∧ n0 + 5 ≤ W.heap.size
theorem CkI.own (n0 w0 : Nat) (hw0 : w0 ≤ n0) (w : World) : OwnFrom (n0 + 5) (CkI n0 w0 w) := by
 rintro s A B row ⟨⟨v, h⟩, ⟨u, h2⟩, hb, hs⟩ hg hr
 exact ⟨⟨v, h.grown hg (fun r e => (hr r e).2)⟩, ⟨u, h2.grown hg (fun r e => (hr r e).2)⟩, hb.grown hg (by omega) (fun k e => by have := (hr k e).1; omega), Nat.le_trans hs hg.size⟩
theorem CkI.below {n0 w0 : Nat} (hw0 : w0 ≤ n0) {w : World} {pre : List (S24 × Bool)} {W W' : World} (h : CkI n0 w0 w pre W) (hb : Below W.heap.size W W') : CkI n0 w0 w pre W' := by
 obtain ⟨⟨v, h1⟩, ⟨u, h4⟩, h2, h3⟩ := h
 exact ⟨⟨v, h1.below hb⟩, ⟨u, h4.below hb⟩, h2.trans (hb.mono (by omega)), Nat.le_trans h3 hb.size⟩
theorem CkI.off {n0 w0 : Nat} {w : World} {pre : List (S24 × Bool)} {W : World} (h : CkI n0 w0 w pre W) {k b : Nat} (hk : W.heap.size ≤ k) (hb : b ∈ [n0, n0 + 1]) : OffRow W b k := by
 obtain ⟨⟨v, h1⟩, ⟨u, h2⟩, _⟩ := h
 rcases List.mem_cons.1 hb with rfl | hb
 ·exact h1.off hk
 ·rw [List.mem_singleton.1 hb]; exact h2.off hk
theorem CkI.box {n0 w0 : Nat} {w : World} {pre : List (S24 × Bool)} {W : World} (h : CkI n0 w0 w pre W) {b : Nat} (hb : b ∈ [n0, n0 + 1]) : ∃ (cs : Array Value) (t : TypeId), W.heap[b]? = some (Obj.cells cs t (0, 0)) := by
 obtain ⟨⟨v, h1⟩, ⟨u, h2⟩, _⟩ := h
 rcases List.mem_cons.1 hb with rfl | hb
 ·exact ⟨_, _, h1.box⟩
 ·rw [List.mem_singleton.1 hb]; exact ⟨_, _, h2.box⟩
abbrev actC (A0 : Option Addr) (n c lo hi n0 : Nat) (eb : Nat) (x : S24 × Bool) : Act := { tmps := #[.slice A0 n c, .int .i64 lo, .int .i64 hi, undef, undef, undef, .slice none 0 0, .slice none 0 0, .int .i64 0, .pointer (some ⟨n0, 0, none⟩), .pointer (some ⟨n0 + 1, 0, none⟩), .pointer (some ⟨eb, 0, none⟩), .bool x.2, undef, undef, .slice A0 n c, .int .i64 lo, .int .i64 hi, .bool true, .bool false, .slice A0 n c, .int .i64 lo, .int .i64 hi,
 .func (.func 66) #[] #[.pointer (some ⟨n0 + 1 + 1, 0, none⟩), .pointer (some ⟨n0 + 1 + 1 + 1, 0, none⟩), .pointer (some ⟨n0 + 1 + 1 + 1 + 1, 0, none⟩)], .agg #[.int .i64 x.1.f0, .int .i64 x.1.f1, .int .i64 x.1.f2, .bool x.1.f3], .bool x.2, undef, undef, undef, undef, undef, undef, undef, undef, undef, undef, undef, undef, undef, undef, undef, undef, undef, undef, undef, undef, undef, undef, undef], defers := [] }
set_option maxHeartbeats 8000000 in
set_option maxRecDepth 100000 in
theorem extent_Cut.calls (k : Nat) (A0 : Option Addr) (c0 : Nat) (l0 : List (S24)) (a1 : Int) (a2 : Int) (r1 : List (S24)) (r2 : List (S32)) (r3 : Int) (w : World) (hr0 : Kd.C k24 w A0 l0.length l0) (hc0 : l0.length ≤ c0) (h : extent_Cut.f k l0 a1 a2 = some (r1, r2, r3)) :
  Calls Try.prog 13 #[.slice A0 l0.length c0, .int .i64 a1, .int .i64 a2] w fun e w' => ∃ v0_ v1_ : Value, e = .returned (.tuple #[v0_, v1_, .int .i64 r3]) ∧ Kd.R k24 24 w' w.heap.size (fun _ => True) v0_ r1 ∧ Kd.R k32 32 w' w.heap.size (fun _ => True) v1_ r2 ∧ Below w.heap.size w w' := by
 unfold extent_Cut.f at h
 obtain ⟨t, ht, h⟩ := Option.bind_eq_some_iff.1 h
 have hu24 := Try.underlying24
 have hu32 := Try.underlying32
 have HR0 := Aside0.mk hr0
 have HC0 := Aside0.mk hc0
 have HT := Aside0.mk ht
 clear hr0 hc0 ht
 cases t with
 | true =>
  rw [if_pos rfl] at h
  by_cases hok : (okB l0 = true ∧ 0 ≤ a1) ∧ a1 ≤ a2
  ·rw [if_pos hok] at h
   have HOK := Aside0.mk (okB_facts hok.1.1)
   have HM := Aside0.mk (show cutR l0 a1 a2 = (r1, r2, r3) from Option.some.inj h)
   obtain ⟨lo, rfl⟩ : ∃ lo : Nat, a1 = (lo : Int) := ⟨a1.toNat, by omega⟩
   obtain ⟨hi, rfl⟩ : ∃ hi : Nat, a2 = (hi : Int) := ⟨a2.toNat, by omega⟩
   clear h hok
   refine (callsIn_wide (n := 6)).1 ?_
   refine callsIn_of_wp_marks Try.func13 rfl trivial ?_ rfl
   simp only [Try.ntmps13, List.size_toArray, List.length_cons, List.length_nil, Nat.reduceAdd, Nat.reduceSub, Array.replicate_succ, Array.replicate_zero, List.push_toArray, List.append_toArray, List.nil_append, List.cons_append]
   gi_wp2_with (first | (refine ⟨trivial, ?_⟩; gi_at_call 39; refine (callsIn_wide.2 (split_made A0 l0.length c0 (lo : Int) (hi : Int) _)).mono ?_; rintro e3 w3 ⟨rfl, hw3⟩; have HW3 := Aside0.mk hw3; clear hw3) | (refine ⟨trivial, ?_⟩; gi_at_call 38; refine (callsIn_wide.2 (extent_ranged.calls k A0 c0 l0 (lo : Int) (hi : Int) true _ HR0.out HC0.out HT.out)).mono ?_; rintro e2 w2 ⟨rfl, hb2⟩; have HB2 := Aside0.mk hb2; clear hb2))
   obtain ⟨n0, hn0⟩ : ∃ n0, w2.heap.size = n0 := ⟨_, rfl⟩
   have HW0 := Aside0.mk (show w.heap.size ≤ n0 by rw [← hn0]; exact HB2.out.size)
   have hsz : w3.heap.size = n0 + 5 := by rw [HW3.out]; simp [hn0]
   have hb3 : Below w.heap.size w w3 := by
    rw [HW3.out]
    exact ((((HB2.out.alloc HB2.out.size _).alloc (by simp; have := HB2.out.size; omega) _).alloc (by simp; have := HB2.out.size; omega) _).alloc (by simp; have := HB2.out.size; omega) _).alloc (by simp; have := HB2.out.size; omega) _
   have hbx0 : w3.heap[n0]? = some (.cells #[.slice none 0 0] 22 (0, 0)) := by
    have h1 := blk_new w2 (.cells #[.slice none 0 0] 22)
    rw [hn0] at h1
    rw [HW3.out]; exact blk_alloc (blk_alloc (blk_alloc (blk_alloc (h1) _) _) _) _
   have hbx1 : w3.heap[n0 + 1]? = some (.cells #[.slice none 0 0] 28 (0, 0)) := by
    have h1 := blk_new (w2.alloc (.cells #[.slice none 0 0] 22)) (.cells #[.slice none 0 0] 28)
    rw [World.size_alloc, hn0] at h1
    rw [HW3.out]; exact blk_alloc (blk_alloc (blk_alloc (h1) _) _) _
   have hbx2 : w3.heap[n0 + 1 + 1]? = some (.cells #[.slice A0 l0.length c0] 22 (0, 0)) := by
    have h1 := blk_new ((w2.alloc (.cells #[.slice none 0 0] 22)).alloc (.cells #[.slice none 0 0] 28)) (.cells #[.slice A0 l0.length c0] 22)
    rw [World.size_alloc, World.size_alloc, hn0] at h1
    rw [HW3.out]; exact blk_alloc (blk_alloc (h1) _) _
   have hbx3 : w3.heap[n0 + 1 + 1 + 1]? = some (.cells #[.int .i64 (lo : Int)] 3 (0, 0)) := by
    have h1 := blk_new (((w2.alloc (.cells #[.slice none 0 0] 22)).alloc (.cells #[.slice none 0 0] 28)).alloc (.cells #[.slice A0 l0.length c0] 22)) (.cells #[.int .i64 (lo : Int)] 3)
    rw [World.size_alloc, World.size_alloc, World.size_alloc, hn0] at h1
    rw [HW3.out]; exact blk_alloc (h1) _
   have hbx4 : w3.heap[n0 + 1 + 1 + 1 + 1]? = some (.cells #[.int .i64 (hi : Int)] 3 (0, 0)) := by
    have h1 := blk_new ((((w2.alloc (.cells #[.slice none 0 0] 22)).alloc (.cells #[.slice none 0 0] 28)).alloc (.cells #[.slice A0 l0.length c0] 22)).alloc (.cells #[.int .i64 (lo : Int)] 3)) (.cells #[.int .i64 (hi : Int)] 3)
    rw [World.size_alloc, World.size_alloc, World.size_alloc, World.size_alloc, hn0] at h1
    rw [HW3.out]; exact h1
   have hI0 : CkI n0 w.heap.size w [] w3 := ⟨⟨_, hbx0, World.ownsRow_nil _ _ _ _⟩, ⟨_, hbx1, World.ownsRow_nil _ _ _ _⟩, hb3, by omega⟩
   have hoff : ∀ b ∈ [n0, n0 + 1], ∀ k, OffRow w3 b k := fun b hb k v hv => by
    have hv2 : some v = some (.slice none 0 0) := by
     rcases List.mem_cons.1 hb with rfl | hb
     ·exact hv.symm.trans (blk_cell hbx0 0)
     ·rw [List.mem_singleton.1 hb] at hv; exact hv.symm.trans (blk_cell hbx1 0)
    rw [Option.some.inj hv2]; simp [Value.ownBlock]
   rw [hn0]
   clear hn0 HW3 HB2 hb3
   have HBX0 := Aside0.mk hbx0
   have HBX1 := Aside0.mk hbx1
   have HBX2 := Aside0.mk hbx2
   have HBX3 := Aside0.mk hbx3
   have HBX4 := Aside0.mk hbx4
   have HI0 := Aside0.mk hI0
   have HOFF := Aside0.mk hoff
   clear hbx0 hbx1 hbx2 hbx3 hbx4 hI0 hoff
   obtain ⟨i0, hi0, hz3⟩ := Option.map_eq_some_iff.1 info24
   simp only [Prod.mk.injEq] at hz3
   have HZ := Aside0.mk hz3
   have HI := Aside0.mk hi0
   obtain ⟨i1, hi1, hz4⟩ := Option.map_eq_some_iff.1 info32
   simp only [Prod.mk.injEq] at hz4
   have HZS := Aside0.mk hz4
   have HIS := Aside0.mk hi1
   clear hz3 hi0 hz4 hi1
   refine range_state (α := S24 × Bool) rfl (by decide) (gf := 66) (lb := #[.pointer (some ⟨n0 + 1 + 1, 0, none⟩), .pointer (some ⟨n0 + 1 + 1 + 1, 0, none⟩), .pointer (some ⟨n0 + 1 + 1 + 1 + 1, 0, none⟩)]) rfl trivial (enters_of Try.func66 (by kernel_rfl) rfl)
    (fun x => #[.agg #[.int .i64 x.1.f0, .int .i64 x.1.f1, .int .i64 x.1.f2, .bool x.1.f3], .bool x.2]) (fun _ => rfl) (KpF (n0 + 5) [n0, n0 + 1]) (fun xs => xs = piecesL l0 lo hi) (fun _ => False) 180 KpF.trans (fun W o => by rw [hsz]; exact KpF.put (by intro b hb; simp at hb; omega) W o)
    (CkI n0 w.heap.size w) (fun _ _ _ => False) (by rw [hsz]; exact CkI.own n0 w.heap.size HW0.out w) (fun c => by rintro s A B row h _ _; exact h) HI0.out
    (AsG [n0, n0 + 1] (actC A0 l0.length c0 lo hi n0) (CkI n0 w.heap.size w)) (fun a' => by rw [hsz]; exact AsG.own (CkI.own n0 w.heap.size HW0.out w) a') ?hit ?assign ?body ?done ?stop
   case hit =>
    intro l R Rx W hRk hRxk hRs hBW hY hI0 hR0
    have ow : ∀ {k cs t}, k ≠ n0 → k ≠ n0 + 1 → w3.heap[k]? = some (.cells cs t (0, 0)) → Own1 (n0 + 5) [n0, n0 + 1] W k cs t := fun {k cs t} hk hk1 hh => ⟨(hBW.block k (blk_lt hh)).trans hh, by have := blk_lt hh; rw [hsz] at this; omega, fun b hb => by
     refine ⟨fun ee => ?_, fun v hv => ?_⟩
     ·rcases List.mem_cons.1 hb with e1 | hb
      ·exact hk (ee.trans e1)
      ·exact hk1 (ee.trans (List.mem_singleton.1 hb))
     ·obtain ⟨cs', t', hbb⟩ := HI0.out.box hb
      rw [cell_of_heap (hBW.block b (blk_lt hbb))] at hv
      exact HOFF.out b hb k v hv⟩
    refine (split_in 5 (by decide) l (n0 + 5) [n0, n0 + 1] (by intro b hb; simp at hb; omega) (n0 + 1 + 1) (n0 + 1 + 1 + 1) (n0 + 1 + 1 + 1 + 1) A0 c0 l0 HC0.out HOK.out.1 (List.all_eq_true.1 HOK.out.2.1) lo hi (CkI n0 w.heap.size w) R Rx 180 (Nat.le_refl _)
     (fun pre W h => Kd.C_below HR0.out h.2.2.1) (fun pre W W' h hb => h.below HW0.out hb) (fun pre W h k hk b hb => h.off hk hb)
     (fun W W' h hb => hRk _ _ ⟨hb.size, fun k o _ hk _ => (hb.block k (Array.getElem?_eq_some_iff.1 hk).1).trans hk⟩ h) (fun W h => by have := hRs W h; rw [hsz] at this; exact this) hY W (ow (by omega) (by omega) HBX2.out) (ow (by omega) (by omega) HBX3.out) (ow (by omega) (by omega) HBX4.out) hI0 hR0).mono ?_
    rintro e W' ⟨⟨v, rfl⟩, hI9, hR9⟩
    exact ⟨⟨v, rfl⟩, .inl ⟨_, rfl, hI9, hR9⟩⟩
   case assign =>
    intro l pre x W K hIp hlen hszW hK
    have hq := AsG.start (bs := [n0, n0 + 1]) (act := actC A0 l0.length c0 lo hi n0) (x := x) hIp (fun W' hb => hIp.below HW0.out hb) (fun b hb => ⟨fun k hk => hIp.off hk hb, hIp.box hb⟩)
    gi_wp2
    exact hK _ _ ((KeepsOthers.alloc W _).from _) hq
   case body =>
    rintro l pre x a' W0 W has hlen
    have has2 := has
    obtain ⟨eb, rfl, hE, ⟨⟨v, hLB⟩, ⟨u, hSB⟩, hBel, hszW⟩, heb, hkeep, hbb⟩ := has2
    dsimp only at hE hLB hSB heb hkeep hbb
    have hoe := (hbb n0 (by simp)).1 v hLB.cell
    obtain ⟨M, hM⟩ : ∃ M, M = leftOf pre := ⟨_, rfl⟩
    have HM2 := Aside0.mk hM
    have HLEN := Aside0.mk (show M.length ≤ 180 by rw [hM]; have := leftOf_len pre; omega)
    rw [← hM] at hLB
    obtain ⟨Z, hZ⟩ : ∃ Z, Z = spansOf pre := ⟨_, rfl⟩
    have HZ2 := Aside0.mk hZ
    have HLENZ := Aside0.mk (show Z.length ≤ 180 by rw [hZ]; have := spansOf_len pre; omega)
    rw [← hZ] at hSB
    clear hM hZ
    obtain ⟨A, c, rfl⟩ := hLB.slice
    obtain ⟨A2, c2, rfl⟩ := hSB.slice
    have HLB1 := Aside0.mk hLB
    have HSB1 := Aside0.mk hSB
    have HAS := Aside0.mk has
    have HBEL1 := Aside0.mk hBel
    have hv := hLB.cell
    have hfv := blk_frozen hLB.box 0
    have hv2 := hSB.cell
    have hfv2 := blk_frozen hSB.box 0
    have hce0 := (blk_cell hE 0).trans rfl
    have hce1 := (blk_cell hE 1).trans rfl
    have hce2 := (blk_cell hE 2).trans rfl
    have hce3 := (blk_cell hE 3).trans rfl
    have HEB := Aside0.mk heb
    clear has hLB hSB hE hbb hkeep hBel heb
    cases hx2 : x.2 with
    | true =>
     have HX := Aside0.mk (leftOf_in pre x hx2)
     have HNEW := Aside0.mk (show ∀ (j : Nat) (q : Value), (RwS.cells2 (⟨x.1.f1, x.1.f2⟩ : S32))[j]? = some q → (W.alloc (.cells #[.int .i64 x.1.f1, .int .i64 x.1.f2] 32)).cell? ((⟨W.heap.size, 0, none⟩ : Addr).add j) = some q by
      intro j q hq
      rw [add_plain, blk_cell (blk_new W _) j, ← hq]; simp [RwS.cells2])
     have HONE := Aside0.mk (show ∀ q ∈ RwS.cells2 (⟨x.1.f1, x.1.f2⟩ : S32), q.oneCell' = true by intro q hq; simp only [RwS.cells2, List.mem_cons, List.not_mem_nil, or_false] at hq; rcases hq with rfl | rfl <;> rfl)
     gi_wp2_with (gi_at_builtin; refine wpListIn_append_own_at _ rfl _ _ 28 rfl (n0 + 5) 32 i1 (.agg #[.int .i64 0, .int .i64 0]) 2 16 Try.underlying28 HIS.out HZS.out.1 HZS.out.2.1 HZS.out.2.2 rfl (by decide) _ _ _ rfl (HSB1.out.row.alloc _) ⟨W.heap.size, 0, none⟩ 1 1 (RwS.cells2 (⟨x.1.f1, x.1.f2⟩ : S32)) rfl rfl HNEW.out HONE.out (by have := HLENZ.out; unfold maxLen; omega) (by have := HLENZ.out; omega) (by simp; omega) ?_; intro v' w1 hown' hgrow _ hat; obtain ⟨g', cap', rfl⟩ := ownsRow_succ hown'; obtain ⟨hq1, hLBq⟩ := HSB1.out.app (by omega) hgrow hown'; have hqc := blk_cell hq1 0; have hqf := blk_frozen hq1 0; have HGROW := Aside0.mk hgrow; have HAT := Aside0.mk hat; have HLBQ := Aside0.mk hLBq; have HQ1 := Aside0.mk hq1; clear hgrow hat hLBq hq1 hown')
     obtain ⟨hbel9, hsz9⟩ := HSB1.out.bel (by omega) (by have := HW0.out; omega) HBEL1.out (.slice (some ⟨g', 0, none⟩) (Z.length + 1) cap') HGROW.out
     refine ⟨(HSB1.out.keeps (.slice (some ⟨g', 0, none⟩) (Z.length + 1) cap') HGROW.out).from _, (HAS.out.kp (Nat.le_refl _) (fun k hk => rfl)).trans (KpF.app HSB1.out (by simp) (by intro q hq; simp at hq; omega) HGROW.out HAT.out HQ1.out), ⟨_, by rw [HX.out.1, ← HM2.out]; exact HSB1.out.other HLB1.out (by decide) (by omega) (by omega) (by omega) _ HGROW.out⟩, ⟨_, by rw [HX.out.2, ← HZ2.out]; exact HLBQ.out⟩, hbel9, Nat.le_trans hszW hsz9⟩
    | false =>
     have HX := Aside0.mk (leftOf_out pre x hx2)
     have HNEW := Aside0.mk (show ∀ (j : Nat) (q : Value), (Rw.cells2 x.1)[j]? = some q → (W.alloc (.cells #[.int .i64 x.1.f0, .int .i64 x.1.f1, .int .i64 x.1.f2, .bool x.1.f3] 24)).cell? ((⟨W.heap.size, 0, none⟩ : Addr).add j) = some q by
      intro j q hq
      rw [add_plain, blk_cell (blk_new W _) j, ← hq]; simp [Rw.cells2])
     have HONE := Aside0.mk (show ∀ q ∈ Rw.cells2 x.1, q.oneCell' = true by intro q hq; simp only [Rw.cells2, List.mem_cons, List.not_mem_nil, or_false] at hq; rcases hq with rfl | rfl | rfl | rfl <;> rfl)
     gi_wp2_with (gi_at_builtin; refine wpListIn_append_own_at _ rfl _ _ 22 rfl (n0 + 5) 24 i0 (.agg #[.int .i64 0, .int .i64 0, .int .i64 0, .bool false]) 4 32 Try.underlying22 HI.out HZ.out.1 HZ.out.2.1 HZ.out.2.2 rfl (by decide) _ _ _ rfl (HLB1.out.row.alloc _) ⟨W.heap.size, 0, none⟩ 1 1 (Rw.cells2 x.1) rfl rfl HNEW.out HONE.out (by have := HLEN.out; unfold maxLen; omega) (by have := HLEN.out; omega) (by simp; omega) ?_; intro v' w1 hown' hgrow _ hat; obtain ⟨g', cap', rfl⟩ := ownsRow_succ hown'; obtain ⟨hq1, hLBq⟩ := HLB1.out.app (by omega) hgrow hown'; have hqc := blk_cell hq1 0; have hqf := blk_frozen hq1 0; have HGROW := Aside0.mk hgrow; have HAT := Aside0.mk hat; have HLBQ := Aside0.mk hLBq; have HQ1 := Aside0.mk hq1; clear hgrow hat hLBq hq1 hown')
     obtain ⟨hbel9, hsz9⟩ := HLB1.out.bel (by omega) HW0.out HBEL1.out (.slice (some ⟨g', 0, none⟩) (M.length + 1) cap') HGROW.out
     refine ⟨(HLB1.out.keeps (.slice (some ⟨g', 0, none⟩) (M.length + 1) cap') HGROW.out).from _, (HAS.out.kp (Nat.le_refl _) (fun k hk => rfl)).trans (KpF.app HLB1.out (by simp) (by intro q hq; simp at hq; omega) HGROW.out HAT.out HQ1.out), ⟨_, by rw [HX.out.1, ← HM2.out]; exact HLBQ.out⟩, ⟨_, by rw [HX.out.2, ← HZ2.out]; exact HLB1.out.other HSB1.out (by decide) (by omega) (by omega) (by omega) _ HGROW.out⟩, hbel9, Nat.le_trans hszW hsz9⟩
   case done =>
    rintro D xs W hD rfl ⟨⟨v, hLB⟩, ⟨u, hSB⟩, hBel, hszW⟩ hK
    obtain ⟨M, hM⟩ : ∃ M, leftL l0 lo hi = M := ⟨_, rfl⟩
    obtain ⟨Z, hZ⟩ : ∃ Z, spansL l0 lo hi = Z := ⟨_, rfl⟩
    have hLB2 : LB 24 4 22 Rw.cells2 (n0 + 5) n0 M v W := by rw [← hM]; exact hLB
    have hSB2 : LB 32 2 28 RwS.cells2 (n0 + 5) (n0 + 1) Z u W := by rw [← hZ]; exact hSB
    have hlen : M.length < 4398046511104 := by rw [← hM]; have := leftOf_len (piecesL l0 lo hi); have := piecesL_len l0 lo hi; have := HOK.out.1; show (leftOf (piecesL l0 lo hi)).length < _; omega
    have hmr := merged_f M hlen (M.length + 1) (Nat.lt_succ_self _)
    have hfin := HM.out
    unfold cutR at hfin
    rw [hM, hZ] at hfin
    obtain ⟨q, hq⟩ : ∃ q, fitL (mergeL M) = q := ⟨_, rfl⟩
    rw [hq] at hfin hmr
    obtain ⟨q1, q2⟩ := q
    dsimp only at hfin
    have HMR := Aside0.mk hmr
    obtain ⟨A, c, rfl⟩ := hLB2.slice
    obtain ⟨A2, c2, rfl⟩ := hSB2.slice
    have hR := Kd.R_reads' (Rw.flat_R (ok := fun _ => True) hLB2.row (fun _ _ => trivial))
    have HCR := Aside0.mk hR.2.2
    have HLE := Aside0.mk hR.2.1
    have HBEL := Aside0.mk hBel
    have HKD := Aside0.mk hK
    have HSR := Aside0.mk (RwS.flat_R (ok := fun _ => True) hSB2.row (fun _ _ => trivial))
    have HSB2 := Aside0.mk hSB2
    have hv := hLB2.cell
    clear hmr hlen hM hZ hR hLB hSB hLB2 hSB2 hBel hK hq
    have hDw : w.heap.size ≤ D := by have := HW0.out; omega
    by_cases hz : q2 = 0
    ·rw [if_pos hz] at hfin
     obtain ⟨rfl, h9⟩ := Prod.mk.inj hfin
     obtain ⟨rfl, rfl⟩ := Prod.mk.inj h9
     subst hz
     clear hfin h9
     gi_wp2_with (refine ⟨trivial, ?_⟩; gi_at_call 40; refine (callsIn_wide.2 (extent_merged.calls _ A c M q1 0 _ HCR.out HLE.out HMR.out)).mono ?_; rintro e9 w9 ⟨v9, rfl, ho9, hb9⟩; have HO9 := Aside0.mk ho9; have HB9 := Aside0.mk hb9; have hv9 := (HSB2.out.below hb9).cell; clear ho9 hb9)
     gi_region
     all_goals
      gi_wp2
      have hK9 : w9.drew.heap[D]? = some (.deferred (some [])) := (HB9.out.block D (Array.getElem?_eq_some_iff.1 HKD.out).1).trans HKD.out
      have hneD : (some D) ≠ v9.ownBlock := fun ee => by
       obtain ⟨_, cs, hh⟩ := own_ge (Rw.R_flat HO9.out) ee.symm
       rw [show w9.heap[D]? = some (.deferred (some [])) from hK9] at hh; cases hh
      have hneS : (some D) ≠ (Value.slice A2 Z.length c2).ownBlock := fun ee => by
       obtain ⟨_, cs, hh⟩ := own_ge (HSB2.out.below HB9.out).row ee.symm
       rw [show w9.heap[D]? = some (.deferred (some [])) from hK9] at hh; cases hh
      refine ⟨by simp, .inl ⟨_, _, rfl, run_takeDeferred hK9, ?_⟩⟩
      exact ⟨_, by simp [results, Try.results13, go_sem], _, _, rfl, Kd.R_grown1 (Kd.R_drew (Kd.R_lower HO9.out HBEL.out.size)) rfl (grownBy_putObj' w9.drew D _) hneD, Kd.R_grown1 (Kd.R_drew (Kd.R_below (Kd.R_lower HSR.out (by have := HW0.out; omega)) HB9.out)) rfl (grownBy_putObj' w9.drew D _) hneS, (below_drew1 (HBEL.out.trans (HB9.out.mono HBEL.out.size))).grown (grownBy_putObj' w9.drew D _) (by have := HBEL.out.size; have := HB9.out.size; show _ ≤ w9.heap.size; omega) (fun k ek => by have := Option.some.inj ek; omega)⟩
    ·rw [if_neg hz] at hfin
     obtain ⟨rfl, h9⟩ := Prod.mk.inj hfin
     obtain ⟨rfl, rfl⟩ := Prod.mk.inj h9
     have hzb : (q2 != 0) = true := by simpa using hz
     clear hfin h9 hz
     gi_wp2_with (refine ⟨trivial, ?_⟩; gi_at_call 40; refine (callsIn_wide.2 (extent_merged.calls _ A c M q1 q2 _ HCR.out HLE.out HMR.out)).mono ?_; rintro e9 w9 ⟨v9, rfl, ho9, hb9⟩; have HB9 := Aside0.mk hb9; clear ho9 hb9)
     have hK9 : w9.heap[D]? = some (.deferred (some [])) := (HB9.out.block D (Array.getElem?_eq_some_iff.1 HKD.out).1).trans HKD.out
     refine ⟨by simp, .inl ⟨_, _, rfl, run_takeDeferred hK9, ?_⟩⟩
     exact ⟨_, by simp [results, Try.results13, go_sem], _, _, rfl, Kd.R_nil _ _ _ _ _, Kd.R_nil _ _ _ _ _, (HBEL.out.trans (HB9.out.mono HBEL.out.size)).grown (grownBy_putObj' w9 D _) (by have := HBEL.out.size; have := HB9.out.size; omega) (fun k ek => by have := Option.some.inj ek; omega)⟩
   case stop =>
    intro D c pre W _ _ h _
    exact h.elim
  ·rw [if_neg hok] at h
   cases h
 | false =>
  rw [if_neg (by decide)] at h
  obtain ⟨rfl, h9⟩ := Prod.mk.inj (Option.some.inj h)
  obtain ⟨rfl, rfl⟩ := Prod.mk.inj h9
  clear h h9
  go_enter Try.func13, Try.ntmps13
  go_wp2_with (go_at_call 38; refine (extent_ranged.calls k A0 c0 l0 a1 a2 false _ HR0.out HC0.out HT.out).mono ?_; rintro e2 w2 ⟨rfl, hb2⟩; have HB2 := Aside0.mk hb2; clear hb2)
  go_ret3
  exact ⟨_, _, rfl, Kd.R_nil _ _ _ _ _, Kd.R_nil _ _ _ _ _, HB2.out⟩
end Go.Proofs.Ytopmjjnkolfciaa.Pr
end
section
namespace Go.Proofs.Ytopmjjnkolfciaa.Pr
open Go.RowKit Go.Proofs.YtopmjjnkolfciaaW.PrintWords Go.Proofs.YtopmjjnkolfciaaW.PrintLast Go.Proofs.YtopmjjnkolfciaaW.PrintMore
set_option linter.unusedVariables false
set_option linter.unusedSimpArgs false
abbrev EX := S24
abbrev SP := S32
theorem w64 {n : Int} (h0 : -9223372036854775808 ≤ n) (h1 : n ≤ 9223372036854775807) : wrap64 n = n := by unfold wrap64; omega
theorem bs {α β : Type} (a : α) (f : α → Option β) : (some a).bind f = f a := by
  cases h : f a with
  | none => exact (Option.bind_some a f).trans h
  | some v => exact (Option.bind_some a f).trans h
theorem Ev.succ {α : Type} {g : Nat → Option α} {r : α} (h : Ev (fun k => g (k + 1)) r) : Ev g r := Ev.step (fun _ => rfl) h
theorem may_f (e : EX) : extent_may.f e.f0 e.f1 e.f2 e.f3 = some (mayE e) := by
  unfold extent_may.f extent_end.f extent_last.f
  by_cases h0 : e.f0 ≥ 0
  · rw [if_pos h0]
    by_cases h1 : e.f1 > 0
    · rw [if_pos h1]
      by_cases h2 : e.f2 > 0
      · rw [if_pos h2]
        by_cases h3 : e.f2 ≤ 256
        · rw [if_pos h3, bs]
          by_cases h7 : e.f0 < 256
          · rw [w64 (by omega) (by omega)]
            by_cases h4 : e.f0 + e.f2 ≤ 256
            · rw [if_pos h4]
              by_cases h5 : e.f1 < 1024
              · rw [if_pos h5, bs, w64 (by omega) (by omega)]
                by_cases h6 : e.f1 + e.f2 ≤ 1024
                · rw [if_pos h6]
                  exact congrArg some (decide_eq_decide.2 (by omega))
                · rw [if_neg h6]; exact congrArg some (decide_eq_false (by omega)).symm
              · rw [if_neg h5]; exact congrArg some (decide_eq_false (by omega)).symm
            · rw [if_neg h4]; exact congrArg some (decide_eq_false (by omega)).symm
          · have hm : mayE e = false := decide_eq_false (by omega)
            rw [hm, decide_eq_false h7]
            split
            · split
              · rw [bs]; split <;> rfl
              · rfl
            · rfl
        · rw [if_neg h3]; exact congrArg some (decide_eq_false (by omega)).symm
      · rw [if_neg h2]; exact congrArg some (decide_eq_false (by omega)).symm
    · rw [if_neg h1]; exact congrArg some (decide_eq_false (by omega)).symm
  · rw [if_neg h0]; exact congrArg some (decide_eq_false (by omega)).symm
def stB (l : List EX) (i : Nat) : Bool := mayE (l.getD i z24) && (decide (i = 0) || (!decide ((l.getD i z24).f0 < (l.getD (i - 1) z24).f0 + (l.getD (i - 1) z24).f2) && !goesR (l.getD (i - 1) z24) (l.getD i z24)))
def preB (l : List EX) : Bool := (List.range l.length).all (stB l)
def chkB (l : List EX) : Bool := decide (l.length ≤ 60) && (preB l && apartL l)
def chk (l : List EX) : Int := if chkB l = true then 0 else 1
theorem preB_iff {l : List EX} : preB l = true ↔ ∀ i, i < l.length → stB l i = true := by
  unfold preB
  rw [List.all_eq_true]
  exact ⟨fun h i hi => h i (List.mem_range.2 hi), fun h i hi => h i (List.mem_range.1 hi)⟩
theorem getD_el {l : List EX} {i : Nat} (h : i < l.length) : l.getD i z24 = l[i] := by rw [List.getD_eq_getElem?_getD, List.getElem?_eq_getElem h]; rfl
theorem stB_may {l : List EX} {i : Nat} (h : stB l i = true) (hi : i < l.length) : mayE l[i] = true := by
  unfold stB at h
  rw [Bool.and_eq_true, getD_el hi] at h
  exact h.1
theorem pre_may {l : List EX} (h : preB l = true) : ∀ e ∈ l, mayE e = true := by
  intro e he
  obtain ⟨i, hi, rfl⟩ := List.getElem_of_mem he
  exact stB_may (preB_iff.1 h i hi) hi
theorem pre_step {l : List EX} (h : preB l = true) {i : Nat} (hi : i + 1 < l.length) : l[i].f0 + l[i].f2 ≤ l[i + 1].f0 ∧ goesR l[i] l[i + 1] = false := by
  have := preB_iff.1 h (i + 1) hi
  unfold stB at this
  rw [Bool.and_eq_true, Bool.or_eq_true, getD_el hi, Nat.add_sub_cancel, getD_el (show i < l.length by omega)] at this
  rcases this.2 with h2 | h2
  · have := of_decide_eq_true h2; omega
  · rw [Bool.and_eq_true, Bool.not_eq_true', Bool.not_eq_true'] at h2
    exact ⟨by have := of_decide_eq_false h2.1; omega, h2.2⟩
theorem pre_rise {l : List EX} (h : preB l = true) : riseL l := by
  refine List.pairwise_iff_getElem.2 fun i j hi hj hij => ?_
  obtain ⟨d, rfl⟩ : ∃ d, j = i + 1 + d := ⟨j - (i + 1), by omega⟩
  clear hij
  induction d with
  | zero => exact (pre_step h hj).1
  | succ d ih =>
    have h1 := ih (by omega)
    have h2 := (pre_step h (i := i + 1 + d) (by omega)).1
    have h3 := mayE_facts (pre_may h _ (List.getElem_mem (show i + 1 + d < l.length by omega)))
    have e : l[i + 1 + (d + 1)] = l[i + 1 + d + 1] := rfl
    rw [e]
    omega
theorem chk_ok {l : List EX} (h : chkB l = true) : l.length ≤ 60 ∧ preB l = true ∧ apartL l = true := by
  unfold chkB at h
  rw [Bool.and_eq_true, Bool.and_eq_true, decide_eq_true_eq] at h
  exact ⟨h.1, h.2.1, h.2.2⟩
theorem chk_okB {l : List EX} (h : chkB l = true) : okB l = true := by
  obtain ⟨h1, h2, _⟩ := chk_ok h
  exact okB_of h1 (pre_may h2) (pre_rise h2)
theorem chk_bad {l : List EX} (h : ¬ chkB l = true) : chk l = 1 := if_neg h
theorem chk_good {l : List EX} (h : chkB l = true) : chk l = 0 := if_pos h
theorem stB_rest {l : List EX} {i : Nat} (hi : i < l.length) (hp : ∀ j, j < i → stB l j = true) (hm : mayE l[i] = true) :
    stB l i = (decide (i = 0) || (!decide (l[i].f0 < wrap64 ((l.getD (i - 1) z24).f0 + (l.getD (i - 1) z24).f2)) && !goesR (l.getD (i - 1) z24) l[i])) := by
  unfold stB
  rw [getD_el hi, hm, Bool.true_and]
  by_cases h0 : i = 0
  · rw [decide_eq_true h0, Bool.true_or, Bool.true_or]
  · have h1 : i - 1 < l.length := by omega
    have := mayE_facts (stB_may (hp (i - 1) (by omega)) h1)
    rw [getD_el h1, w64 (by omega) (by omega)]
theorem codeCheck_l0 (l : List EX) (hl : l.length ≤ 60) : ∀ (d i : Nat), i + d = l.length → (∀ j, j < i → stB l j = true) → Ev (fun k => extent_Check.l0 k l l (l.length : Int) (i : Int)) (chk l)
  | 0, i, hd, hp => by
    refine Ev.succ ?_
    have hpre : preB l = true := preB_iff.2 fun j hj => hp j (by omega)
    have hap : extent_apart.f l = some (apartL l) := by
      unfold extent_apart.f
      rw [if_pos ⟨List.all_eq_true.2 fun e he => mayE_D (pre_may hpre e he), by omega⟩]
    have hc : chkB l = apartL l := by unfold chkB; rw [decide_eq_true hl, hpre, Bool.true_and, Bool.true_and]
    have a1 : ¬ ((i : Int) < (l.length : Int)) := by omega
    refine Ev.congr (f := fun _ => some (chk l)) (fun k => ?_) (Ev.now _)
    rw [extent_Check.l0, if_neg a1, hap, bs]
    cases ha : apartL l
    · rw [if_neg (by decide), chk_bad (by rw [hc, ha]; decide)]
    · rw [if_pos rfl, chk_good (by rw [hc, ha])]
  | d + 1, i, hd, hp => by
    refine Ev.succ ?_
    have hi : i < l.length := by omega
    have hrd : rd_T24 l (i : Int) = l[i] := rd_in hi
    have a1 : (i : Int) < (l.length : Int) := by omega
    have a2 : (0 : Int) ≤ (i : Int) := by omega
    have bad : stB l i = false → chk l = 1 := fun h => chk_bad fun hc => by
      have := preB_iff.1 (chk_ok hc).2.1 i hi
      rw [h] at this; cases this
    have hw : wrap64 ((i : Int) + 1) = ((i + 1 : Nat) : Int) := by unfold wrap64; omega
    by_cases hm : mayE l[i] = true
    · have hst := stB_rest hi hp hm
      have next : stB l i = true → Ev (fun k => extent_Check.l0 k l l (l.length : Int) (wrap64 ((i : Int) + 1))) (chk l) := fun h => by
        rw [hw]
        exact codeCheck_l0 l hl d (i + 1) (by omega) fun j hj => by
          by_cases e : j = i
          · rw [e]; exact h
          · exact hp j (by omega)
      by_cases h0 : (i : Int) > 0
      · have h1 : wrap64 ((i : Int) - 1) = ((i - 1 : Nat) : Int) := by unfold wrap64; omega
        have hrd1 : rd_T24 l ((i - 1 : Nat) : Int) = l.getD (i - 1) z24 := rfl
        have a3 : (0 : Int) ≤ ((i - 1 : Nat) : Int) := by omega
        have a4 : ((i - 1 : Nat) : Int) < (l.length : Int) := by omega
        obtain ⟨p, hpp⟩ : ∃ p, l.getD (i - 1) z24 = p := ⟨_, rfl⟩
        rw [hpp] at hst hrd1
        rw [decide_eq_false (show ¬ i = 0 by omega), Bool.false_or] at hst
        by_cases c1 : l[i].f0 < wrap64 (p.f0 + p.f2)
        · rw [decide_eq_true c1] at hst
          refine Ev.congr (f := fun _ => some (chk l)) (fun k => ?_) (Ev.now _)
          rw [extent_Check.l0, if_pos a1, if_pos a2, if_pos a1, hrd, may_f, bs, if_pos hm, if_pos h0, h1, if_pos a3, if_pos a4, hrd1, extent_end.f, bs, if_pos c1, bad hst]
        · rw [decide_eq_false c1] at hst
          cases hg : goesR p l[i]
          · rw [hg] at hst
            refine Ev.congr (fun k => ?_) (next hst)
            rw [extent_Check.l0, if_pos a1, if_pos a2, if_pos a1, hrd, may_f, bs, if_pos hm, if_pos h0, h1, if_pos a3, if_pos a4, hrd1, extent_end.f, bs, if_neg c1, goesC_f, bs, hg, if_neg (by decide)]
          · rw [hg] at hst
            refine Ev.congr (f := fun _ => some (chk l)) (fun k => ?_) (Ev.now _)
            rw [extent_Check.l0, if_pos a1, if_pos a2, if_pos a1, hrd, may_f, bs, if_pos hm, if_pos h0, h1, if_pos a3, if_pos a4, hrd1, extent_end.f, bs, if_neg c1, goesC_f, bs, hg, if_pos rfl, bad hst]
      · rw [decide_eq_true (show i = 0 by omega), Bool.true_or] at hst
        refine Ev.congr (fun k => ?_) (next hst)
        rw [extent_Check.l0, if_pos a1, if_pos a2, if_pos a1, hrd, may_f, bs, if_pos hm, if_neg h0]
    · have hb : stB l i = false := by
        unfold stB
        rw [getD_el hi]
        cases hh : mayE l[i]
        · rfl
        · exact absurd hh hm
      refine Ev.congr (f := fun _ => some (chk l)) (fun k => ?_) (Ev.now _)
      rw [extent_Check.l0, if_pos a1, if_pos a2, if_pos a1, hrd, may_f, bs, if_neg hm, bad hb]
theorem codeCheck_ev (l : List EX) : Ev (fun k => extent_Check.f k l) (chk l) := by
  unfold extent_Check.f
  by_cases h : (l.length : Int) > 60
  · simp only [if_pos h]
    rw [chk_bad fun hc => by have := (chk_ok hc).1; omega]
    exact Ev.now _
  · simp only [if_neg h]
    exact codeCheck_l0 l (by omega) l.length 0 (by omega) fun j hj => absurd hj (Nat.not_lt_zero _)
theorem apart_of {l : List EX} (h : ∀ i j : Nat, ∀ hj : j < l.length, ∀ hij : i < j, disjD (l[i]'(Nat.lt_trans hij hj)) l[j] = true) : apartL l = true := by
  rw [apartL_iff]
  exact List.pairwise_iff_getElem.2 fun i j hi hj hij => h i j hj hij
theorem apart_at {l : List EX} (h : apartL l = true) {i j : Nat} (hj : j < l.length) (hij : i < j) : disjD (l[i]'(Nat.lt_trans hij hj)) l[j] = true := by
  rw [apartL_iff] at h
  exact List.pairwise_iff_getElem.1 h i j (Nat.lt_trans hij hj) hj hij
theorem disj_mk {a b : EX} (h : a.f1 + a.f2 ≤ b.f1 ∨ b.f1 + b.f2 ≤ a.f1) : disjD a b = true := decide_eq_true h
theorem disj_el {a b : EX} (h : disjD a b = true) : a.f1 + a.f2 ≤ b.f1 ∨ b.f1 + b.f2 ≤ a.f1 := of_decide_eq_true h
def findX (l : List EX) (x : Int) : Int × Bool × Bool := if chkB l = true ∧ 0 ≤ x then findR l x else (0, false, false)
def putX (l : List EX) (e : EX) : List EX × Int := if chkB l = true ∧ mayE e = true then putR l e else ([], 1)
def cutX (l : List EX) (a b : Int) : List EX × List SP × Int := if chkB l = true ∧ 0 ≤ a ∧ a ≤ b then cutR l a b else ([], [], 1)
def markX (l : List EX) (a b : Int) : List EX × Int := if chkB l = true ∧ 0 ≤ a ∧ a ≤ b then fitL (mergeL (markL l a b)) else ([], 1)
def needX (l : List EX) : Int := if chkB l = true then (if (l.length : Int) ≤ 4 then 0 else wrap64 (Int.tdiv (wrap64 ((wrap64 ((l.length : Int) + 20)) - 1)) 20)) else -1
theorem Ev.chk2 {α : Type} {l : List EX} {g : Nat → Int → Option α} {r : α} (f : Nat → Option Int) (hf : Ev f (chk l)) (h0 : chkB l = true → Ev (fun k => g k 0) r) (h1 : ¬ chkB l = true → Ev (fun k => g k 1) r) : Ev (fun k => (f k).bind (g k)) r := by
  refine Ev.bind hf ?_
  by_cases h : chkB l = true
  · rw [chk_good h]; exact h0 h
  · rw [chk_bad h]; exact h1 h
theorem find_ev (l : List EX) (x : Int) : Ev (fun k => extent_Find.f k l x) (findX l x) := by
  unfold extent_Find.f
  refine Ev.chk2 _ (codeCheck_ev l) (fun h => ?_) (fun h => ?_)
  · simp only [if_true]
    unfold findX
    by_cases h0 : x < 0
    · simp only [if_pos h0]; rw [if_neg (by omega)]; exact Ev.now _
    · simp only [if_neg h0, if_pos (chk_okB h)]; rw [if_pos ⟨h, by omega⟩]; exact Ev.now _
  · simp only [if_neg (show ¬ ((1 : Int) = 0) by decide)]
    unfold findX
    rw [if_neg (fun hh => h hh.1)]; exact Ev.now _
theorem put_ev (l : List EX) (e : EX) : Ev (fun k => extent_Put.f k l e.f0 e.f1 e.f2 e.f3) (putX l e) := by
  unfold extent_Put.f
  refine Ev.chk2 _ (codeCheck_ev l) (fun h => ?_) (fun h => ?_)
  · simp only [if_true, may_f, bs]
    unfold putX
    by_cases h0 : mayE e = true
    · have h2 : (okB l = true ∧ apartL l = true) ∧ mayE ⟨e.f0, e.f1, e.f2, e.f3⟩ = true := ⟨⟨chk_okB h, (chk_ok h).2.2⟩, h0⟩
      simp only [if_pos h0, if_pos h2]; rw [if_pos ⟨h, h0⟩]; exact Ev.now _
    · simp only [if_neg h0]; rw [if_neg (fun hh => h0 hh.2)]; exact Ev.now _
  · simp only [if_neg (show ¬ ((1 : Int) = 0) by decide)]
    unfold putX
    rw [if_neg (fun hh => h hh.1)]; exact Ev.now _
theorem ranged_ev (l : List EX) (a b : Int) : Ev (fun k => extent_ranged.f k l a b) (decide (chkB l = true ∧ 0 ≤ a ∧ a ≤ b)) := by
  unfold extent_ranged.f
  refine Ev.chk2 _ (codeCheck_ev l) (fun h => ?_) (fun h => ?_)
  · simp only [if_true]
    by_cases h0 : a ≥ 0
    · simp only [if_pos h0]
      refine Ev.congr (f := fun _ => some (decide (chkB l = true ∧ 0 ≤ a ∧ a ≤ b))) (fun k => congrArg some (decide_eq_decide.2 ⟨fun hb => ⟨h, h0, hb⟩, fun hh => hh.2.2⟩)) (Ev.now _)
    · simp only [if_neg h0]
      rw [show decide (chkB l = true ∧ 0 ≤ a ∧ a ≤ b) = false from decide_eq_false (fun hh => h0 hh.2.1)]; exact Ev.now _
  · simp only [if_neg (show ¬ ((1 : Int) = 0) by decide)]
    rw [show decide (chkB l = true ∧ 0 ≤ a ∧ a ≤ b) = false from decide_eq_false (fun hh => h hh.1)]; exact Ev.now _
theorem cut_ev (l : List EX) (a b : Int) : Ev (fun k => extent_Cut.f k l a b) (cutX l a b) := by
  unfold extent_Cut.f
  refine Ev.bind (ranged_ev l a b) ?_
  unfold cutX
  by_cases h : chkB l = true ∧ 0 ≤ a ∧ a ≤ b
  · have h2 : (okB l = true ∧ 0 ≤ a) ∧ a ≤ b := ⟨⟨chk_okB h.1, h.2.1⟩, h.2.2⟩
    rw [decide_eq_true h, if_pos h]; simp only [if_true, if_pos h2]; exact Ev.now _
  · rw [decide_eq_false h, if_neg h]; exact Ev.now _
theorem mark_ev (l : List EX) (a b : Int) : Ev (fun k => extent_Mark.f k l a b) (markX l a b) := by
  unfold extent_Mark.f
  refine Ev.bind (ranged_ev l a b) ?_
  unfold markX
  by_cases h : chkB l = true ∧ 0 ≤ a ∧ a ≤ b
  · have h2 : (okB l = true ∧ 0 ≤ a) ∧ a ≤ b := ⟨⟨chk_okB h.1, h.2.1⟩, h.2.2⟩
    rw [decide_eq_true h, if_pos h]; simp only [if_true, if_pos h2]; exact Ev.now _
  · rw [decide_eq_false h, if_neg h]; exact Ev.now _
theorem need_ev (l : List EX) : Ev (fun k => extent_Need.f k l) (needX l) := by
  unfold extent_Need.f
  refine Ev.chk2 _ (codeCheck_ev l) (fun h => ?_) (fun h => ?_)
  · simp only [if_true]
    unfold needX
    rw [if_pos h]
    by_cases h4 : (l.length : Int) ≤ 4
    · simp only [if_pos h4]; exact Ev.now _
    · simp only [if_neg h4]; exact Ev.now _
  · unfold needX
    rw [if_neg h]; exact Ev.now _
end Go.Proofs.Ytopmjjnkolfciaa.Pr
end
