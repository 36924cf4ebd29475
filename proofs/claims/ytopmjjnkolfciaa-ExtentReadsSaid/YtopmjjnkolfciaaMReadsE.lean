/- MReads: this session's texts for the one law, put together (part 5 of 6): what its program computes, function by function, and that this answers true; the row stands at the end of the last part. Conditions: those that each theorem names; the last theorem has none. -/
import Derived.Shelf.RegionOpen
import Derived.OwnWalkIn
import Derived.TacticsInMore
import Derived.LoopNIn
import Derived.LoopIn
import Derived.Outline
import Derived.Maps.OwnIn
import Derived.Test.YtopmjjnkolfciaaMReadsD
section
namespace Go.Proofs.Ytopmjjnkolfciaa.Pr
open Go Go.RowKit Go.Shelf Go.Proofs.YtopmjjnkolfciaaW.PrintWords Go.Proofs.YtopmjjnkolfciaaW.PrintLast Go.Proofs.YtopmjjnkolfciaaW.PrintMore Go.Proofs.Ytopmjjnkolfciaa.Sq
attribute [local go_sem] max2_int min2_int max_two min_two max_three min_three max_four min_four
set_option linter.unusedVariables false
set_option linter.unusedSimpArgs false
def OffRow (W : World) (b k : Nat) : Prop := ∀ v, W.cell? ⟨b, 0, none⟩ = some v → v.ownBlock ≠ some k
def Free (d : Nat) (bs : List Nat) (W : World) (k : Nat) : Prop := k ≠ d + 1 ∧ ∀ b ∈ bs, k ≠ b ∧ OffRow W b k
def KpF (d : Nat) (bs : List Nat) (W W' : World) : Prop := W.heap.size ≤ W'.heap.size ∧ ∀ k cs t, W.heap[k]? = some (.cells cs t (0, 0)) → Free d bs W k → W'.heap[k]? = some (.cells cs t (0, 0)) ∧ Free d bs W' k
theorem KpF.trans {d : Nat} {bs : List Nat} {A B C : World} (h : KpF d bs A B) (g : KpF d bs B C) : KpF d bs A C :=
  ⟨Nat.le_trans h.1 g.1, fun k cs t hk hf => by
    obtain ⟨h1, h2⟩ := h.2 k cs t hk hf
    exact g.2 k cs t h1 h2⟩
theorem cell_of_heap {A B : World} {b : Nat} (h : B.heap[b]? = A.heap[b]?) : B.cell? ⟨b, 0, none⟩ = A.cell? ⟨b, 0, none⟩ := by
  unfold World.cell?; rw [h]
theorem KpF.put {d : Nat} {bs : List Nat} (hb : ∀ b ∈ bs, b < d) (W : World) (o : Obj) : KpF d bs W (W.putObj (d + 1) o) :=
  ⟨by simp [World.putObj], fun k cs t hk hf => ⟨(World.putObj_heap_other hf.1).trans hk, hf.1, fun b hbb => ⟨(hf.2 b hbb).1, fun v hv => (hf.2 b hbb).2 v (by
    rw [cell_of_heap (World.putObj_heap_other (by have := hb b hbb; omega))] at hv; exact hv)⟩⟩⟩
theorem Free.below {d : Nat} {bs : List Nat} {A B : World} {k : Nat} (hA : ∀ b ∈ bs, b < A.heap.size) (h : Below A.heap.size A B) (hf : Free d bs A k) : Free d bs B k :=
  ⟨hf.1, fun b hb => ⟨(hf.2 b hb).1, fun v hv => (hf.2 b hb).2 v (by
    rw [cell_of_heap (h.block b (hA b hb))] at hv; exact hv)⟩⟩
set_option maxHeartbeats 4000000 in
set_option maxRecDepth 100000 in
theorem part_calls (e : S24) (a b : Int) (W : World) (hm : mayE e = true) (ha0 : 0 ≤ a) (ha : a ≤ 256) (hb0 : 0 ≤ b) (hb : b ≤ 256) :
    Calls Try.prog 67 #[.agg #[.int .i64 e.f0, .int .i64 e.f1, .int .i64 e.f2, .bool e.f3], .int .i64 a, .int .i64 b] W fun r w' => r = .returned (.agg #[.int .i64 (partE e a b).f0, .int .i64 (partE e a b).f1, .int .i64 (partE e a b).f2, .bool (partE e a b).f3]) ∧ Below W.heap.size W w' := by
  have hu24 := Try.underlying24
  have hmm := mayE_facts hm
  obtain ⟨s1, hs1⟩ : ∃ s1, e.f1 + a = s1 := ⟨_, rfl⟩
  obtain ⟨s2, hs2⟩ : ∃ s2, e.f1 + (a - e.f0) = s2 := ⟨_, rfl⟩
  obtain ⟨s3, hs3⟩ : ∃ s3, b - a = s3 := ⟨_, rfl⟩
  have hw1 : wrap64 (e.f1 + a) = s1 := by unfold wrap64; omega
  have hw2 : wrap64 (s1 - e.f0) = s2 := by unfold wrap64; omega
  have hw3 : wrap64 (b - a) = s3 := by unfold wrap64; omega
  have HR := Aside0.mk (show partE e a b = ⟨a, s2, s3, e.f3⟩ by unfold partE; rw [hs2, hs3])
  clear hs1 hs2 hs3 hm hmm ha0 ha hb0 hb
  rw [HR.out]
  go_enter Try.func67, Try.ntmps67
  go_wp2
  exact bodyPost_ret (v := .agg #[.int .i64 a, .int .i64 s2, .int .i64 s3, .bool e.f3]) (by simp [results, Try.results67, go_sem]) rfl ⟨rfl, ((Below.refl _ _).alloc (Nat.le_refl _) _).alloc (by simp) _⟩
theorem if_maxI (x y m : Int) (h : max x y = m) : (if x < y then y else x) = m := by rw [← h]; split <;> omega
theorem if_minI (m e a : Int) (h : min m e = a) : (if e < m then e else m) = a := by rw [← h]; split <;> omega
theorem pieces_len3 (e : S24) (lo hi : Int) : (pieces3 e lo hi).length ≤ 3 := by
  unfold pieces3
  rw [List.length_append, List.length_append]
  have h : ∀ (c : Prop) [Decidable c] (q : S24 × Bool), (if c then [q] else []).length ≤ 1 := fun c _ q => by split <;> simp
  have h1 := h (e.f0 < cA e lo) (partE e e.f0 (cA e lo), false)
  have h2 := h (cA e lo < cA e hi) (partE e (cA e lo) (cA e hi), true)
  have h3 := h (max (cA e lo) (cA e hi) < e.f0 + e.f2) (partE e (max (cA e lo) (cA e hi)) (e.f0 + e.f2), false)
  omega
theorem piecesL_len (l : List S24) (lo hi : Int) : (piecesL l lo hi).length ≤ 3 * l.length := by
  induction l with
  | nil => simp [piecesL]
  | cons e l ih =>
    have := pieces_len3 e lo hi
    unfold piecesL at *
    rw [List.flatMap_cons, List.length_append, List.length_cons]
    omega
structure Own1 (d : Nat) (bs : List Nat) (W : World) (k : Nat) (cs : Array Value) (t : TypeId) : Prop where
  at_ : W.heap[k]? = some (.cells cs t (0, 0))
  free : Free d bs W k
theorem Own1.kept {d : Nat} {bs : List Nat} {A B : World} {k : Nat} {cs : Array Value} {t : TypeId} (h : Own1 d bs A k cs t) (hk : KpF d bs A B) : Own1 d bs B k cs t := by
  obtain ⟨h1, h2⟩ := hk.2 k _ _ h.at_ h.free
  exact ⟨h1, h2⟩
theorem Own1.below {d : Nat} {bs : List Nat} {A B : World} {k : Nat} {cs : Array Value} {t : TypeId} (h : Own1 d bs A k cs t) (hA : ∀ b ∈ bs, b < A.heap.size) (hk : Below A.heap.size A B) : Own1 d bs B k cs t :=
  ⟨blk_below h.at_ hk, h.free.below hA hk⟩
end Go.Proofs.Ytopmjjnkolfciaa.Pr
end
section
namespace Go.Proofs.Ytopmjjnkolfciaa.Pr
open Go.RowKit Go.Proofs.YtopmjjnkolfciaaW.PrintWords Go.Proofs.YtopmjjnkolfciaaW.PrintLast Go.Proofs.YtopmjjnkolfciaaW.PrintMore
attribute [local go_sem] max2_int min2_int max_two min_two max_three min_three max_four min_four
attribute [local go_sem] Go.Proofs.Ytopmjjnkolfciaa.Hl.str_geq Go.Proofs.Ytopmjjnkolfciaa.Hl.str_gtr Go.Proofs.Ytopmjjnkolfciaa.Hl.str_leq
set_option linter.unusedVariables false
set_option linter.unusedSimpArgs false
open Go.Shelf Go.Proofs.Ytopmjjnkolfciaa.Sq in
set_option maxHeartbeats 8000000 in
set_option maxRecDepth 100000 in
theorem split_in (n:Nat) (hn:1≤n) (l d:Nat) (bs:List Nat) (hbs:∀ b∈bs,b < d) (bl bf bt:Nat) (A0:Option Addr) (c0:Nat) (L:List S24) (hc0:L.length≤c0) (hL:L.length≤60) (hall:∀ e∈L,mayE e=true) (lo hi:Nat)
  (I:List (S24×Bool)→World→Prop) (R:World→Prop) (Rx:Code→World→Prop) (N:Nat) (hN:180≤N)
  (hIC:∀ pre W,I pre W→Kd.C k24 W A0 L.length L) (hIB:∀ pre W W',I pre W→Below W.heap.size W W'→I pre W') (hIO:∀ pre W,I pre W→∀ k,W.heap.size≤k→∀ b∈bs,OffRow W b k) (hRB:∀ W W',R W→Below W.heap.size W W'→R W') (hRd:∀ W,R W→d+1 < W.heap.size)
  (hY:∀ pre x W1,I pre W1→R W1→pre.length < N→YieldAt Fence.wide (n - 1) Try.prog l #[.agg #[.int .i64 x.1.f0,.int .i64 x.1.f1,.int .i64 x.1.f2,.bool x.1.f3],.bool x.2] W1 fun e W' =>
    (e=.returned (.bool true)∧I (pre++[x]) W'∧R W'∧KpF d bs W1 W')∨(e=.returned (.bool false)∧∃ c:Code,False∧Rx c W'))
  (W:World) (hl:Own1 d bs W bl #[.slice A0 L.length c0] 22) (hf:Own1 d bs W bf #[.int .i64 lo] 3) (ht:Own1 d bs W bt #[.int .i64 hi] 3) (h0:I [] W) (hr0:R W) :
  CallsIn Fence.wide n Try.prog 66 #[.func (.yield l) #[] #[],.pointer (some ⟨bl,0,none⟩),.pointer (some ⟨bf,0,none⟩),.pointer (some ⟨bt,0,none⟩)] W fun e W'=>(∃ v,e=.returned v)∧I (piecesL L lo hi) W'∧R W':=by
 refine callsIn_of_wp Try.func66 rfl trivial ?_ rfl
 simp only [Try.ntmps66,List.size_toArray,List.length_cons,List.length_nil,Nat.reduceAdd,Nat.reduceSub,Array.replicate_succ,Array.replicate_zero,List.push_toArray,List.append_toArray,List.nil_append,List.cons_append]
 refine wpIn_wide.2 ?_
 have HL:=am hl
 have HF:=am hf
 have HT:=am ht
 have HC0:=am hc0
 have HLL:=am hL
 have HALL:=am hall
 have H0:=am h0
 have HR0:=am hr0
 have hcl:=(blk_cell hl.at_ 0).trans rfl
 clear hl hf ht hc0 hL hall h0 hr0;go_wp2;clear hcl
 go_loopg [11] L.length (fun kq v11 w'=>∃ (i:Nat),v11=.int .i64 (i:Int)∧Aside0 (i+kq=L.length)∧Aside0 (I (piecesL (L.take i) lo hi) w')∧Aside0 (R w')∧Aside0 (Own1 d bs w' bl #[.slice A0 L.length c0] 22)∧Aside0 (Own1 d bs w' bf #[.int .i64 lo] 3)∧Aside0 (Own1 d bs w' bt #[.int .i64 hi] 3))
 case atStart=>exact ⟨0,rfl,⟨by omega⟩,H0,HR0,HL,HF,HT⟩
 case round =>
  obtain ⟨i,rfl,HK,HI,HR,HBL,HBF,HBT⟩:=hrel
  cases gk with
  | zero =>
   have ei:i=L.length:=by have:=HK.out;omega
   have hlt:decide (i < L.length)=false:=decide_eq_false (by omega)
   have HI2:=am (show I (piecesL L lo hi) wr by have:=HI.out;rwa [ei,List.take_length] at this)
   clear ei;go_wp2
   go_end0
   exact ⟨⟨_,rfl⟩,HI2.out,HR.out⟩
  | succ g =>
   have hil:i < L.length:=by have:=HK.out;omega
   have hlt:decide (i < L.length)=true:=decide_eq_true (by omega)
   have hmay:mayE (rd_T24 L (i:Int))=true:=by rw [rd_in hil];exact HALL.out _ (List.getElem_mem hil)
   have hi0:(0:Int)≤(i:Int):=by omega
   have hi1:(i:Int) < (L.length:Int):=by omega
   have h0i:0≤(i:Int)∧(i:Int) < (L.length:Int):=⟨hi0,hi1⟩
   obtain ⟨ad,ead,hca,hcb,hcc,hcd⟩:=at_T24 (hIC _ _ HI.out) (i:Int) hi0 hi1
   cases ead
   simp only [Int.toNat_natCast] at hca hcb hcc hcd
   obtain ⟨e,he⟩:∃ e,e=rd_T24 L (i:Int):=⟨_,rfl⟩
   rw [← he] at hca hcb hcc hcd hmay
   have HE:=am (show L.take (i+1)=L.take i++[e] by rw [List.take_succ_eq_append_getElem hil,he,rd_in hil])
   have HMY:=am hmay
   have HMM:=am (mayE_facts hmay)
   clear he hmay;go_wp2
   have hiw:wrap64 ((i:Int)+1)=((i+1:Nat):Int):=by have:=HK.out;have:=HLL.out;unfold wrap64;omega
   have HIW:=am hiw
   have hsz:=hRd _ HR.out
   have hbz:∀ b∈bs,b < wr.heap.size:=fun b hb=>by have:=hbs b hb;omega
   have hb1:=(Below.refl wr.heap.size wr).alloc (Nat.le_refl _) (.cells #[.int .i64 e.f0,.int .i64 e.f1,.int .i64 e.f2,.bool e.f3] 24)
   have HE1:Aside0 (Own1 d bs _ wr.heap.size #[.int .i64 e.f0,.int .i64 e.f1,.int .i64 e.f2,.bool e.f3] 24):=⟨⟨blk_new wr _,Free.below hbz hb1 ⟨by omega,fun b hb=>⟨by have:=hbz b hb;omega,hIO _ _ HI.out _ (Nat.le_refl _) b hb⟩⟩⟩⟩
   have HI1:=am (hIB _ _ _ HI.out hb1)
   have HR1:=am (hRB _ _ HR.out hb1)
   have HBL1:=am (HBL.out.below hbz hb1)
   have HBF1:=am (HBF.out.below hbz hb1)
   have HBT1:=am (HBT.out.below hbz hb1)
   generalize wr.alloc (.cells #[.int .i64 e.f0,.int .i64 e.f1,.int .i64 e.f2,.bool e.f3] 24)=w1 at HE1 HI1 HR1 HBL1 HBF1 HBT1 ⊢
   generalize wr.heap.size=eb at HE1 ⊢
   clear hb1 hca hcb hcc hcd hiw hbz hsz
   obtain ⟨en,hen⟩:∃ en:Int,e.f0+e.f2=en:=⟨_,rfl⟩
   obtain ⟨m1,hm1⟩:∃ m1:Int,max e.f0 (lo:Int)=m1:=⟨_,rfl⟩
   obtain ⟨m2,hm2⟩:∃ m2:Int,max e.f0 (hi:Int)=m2:=⟨_,rfl⟩
   obtain ⟨a,ha⟩:∃ a:Int,min m1 en=a:=⟨_,rfl⟩
   obtain ⟨b,hb⟩:∃ b:Int,min m2 en=b:=⟨_,rfl⟩
   obtain ⟨mab,hmab⟩:∃ mab:Int,max a b=mab:=⟨_,rfl⟩
   have hx1:=if_maxI e.f0 lo m1 hm1
   have hx2:=if_maxI e.f0 hi m2 hm2
   have hx3:=if_minI m1 en a ha
   have hx4:=if_minI m2 en b hb
   have hx5:=if_maxI a b mab hmab
   have HA:=am (show cA e lo=a by unfold cA;rw [hm1,hen,ha])
   have HB:=am (show cA e hi=b by unfold cA;rw [hm2,hen,hb])
   have HMAB:=am hmab
   have HBD:=am (show 0≤e.f0∧e.f0≤256∧0≤a∧a≤256∧0≤b∧b≤256∧0≤mab∧mab≤256∧0≤en∧en≤256 by have:=HMM.out;omega)
   have HEN:=am hen
   have HENF:=am (show extent_end.f e.f0 e.f1 e.f2 e.f3=some en by unfold extent_end.f;congr 1;have:=HMM.out;rw [hen];unfold wrap64;omega)
   obtain ⟨P0,hP0⟩:∃ P0,P0=piecesL (L.take i) lo hi:=⟨_,rfl⟩
   have HP:=am hP0
   rw [← hP0] at HI1
   have HPN:=am (show P0.length+3≤180 by have:=piecesL_len (L.take i) lo hi;rw [← hP0,List.length_take] at this;have:=HLL.out;omega)
   have hce0:=(blk_cell HE1.out.at_ 0).trans rfl
   have hce1:=(blk_cell HE1.out.at_ 1).trans rfl
   have hce2:=(blk_cell HE1.out.at_ 2).trans rfl
   have hce3:=(blk_cell HE1.out.at_ 3).trans rfl
   have hcf:=(blk_cell HBF1.out.at_ 0).trans rfl
   have hct:=(blk_cell HBT1.out.at_ 0).trans rfl
   clear hen hm1 hm2 ha hb hmab hP0
   refine start_ (n:=16) (S:=fun w'=>w'.cell? ⟨eb,0,none⟩=some (.int .i64 e.f0)∧w'.cell? ⟨eb,1,none⟩=some (.int .i64 e.f1)∧w'.cell? ⟨eb,2,none⟩=some (.int .i64 e.f2)∧w'.cell? ⟨eb,3,none⟩=some (.bool e.f3)∧w'.cell? ⟨bf,0,none⟩=some (.int .i64 (lo:Int))∧w'.cell? ⟨bt,0,none⟩=some (.int .i64 (hi:Int))) (ds:=[]) _ (by kernel_rfl) rfl rfl ⟨hce0,hce1,hce2,hce3,hcf,hct⟩ (fun hHeld=>?_)
   refine pK 0 15 ?_;refine pK 7 22 ?_;refine tK 1 16 hHeld ?_ (hy:=by rintro w' ⟨s0,s1,s2,s3,s4,s5⟩;go_simp;with_reducible rfl);refine tK 2 17 hHeld ?_ (hy:=by rintro w' ⟨s0,s1,s2,s3,s4,s5⟩;go_simp;with_reducible rfl);refine pK 3 18 ?_;refine tK 4 19 hHeld ?_ (hy:=by rintro w' ⟨s0,s1,s2,s3,s4,s5⟩;go_simp;with_reducible rfl);refine tK 8 23 hHeld ?_ (hy:=by rintro w' ⟨s0,s1,s2,s3,s4,s5⟩;go_simp;with_reducible rfl);refine tK 9 24 hHeld ?_ (hy:=by rintro w' ⟨s0,s1,s2,s3,s4,s5⟩;go_simp;with_reducible rfl);refine pK 10 25 ?_;refine tK 11 26 hHeld ?_ (hy:=by rintro w' ⟨s0,s1,s2,s3,s4,s5⟩;go_simp;with_reducible rfl)
   refine oK 5 (some 20) (fun K hK=>?_)
   refine gS Try.func35 #[.agg #[.int .i64 e.f0,.int .i64 e.f1,.int .i64 e.f2,.bool e.f3]] ?_
   with_reducible refine (extent_end.calls e.f0 e.f1 e.f2 e.f3 en _ HENF.out).mono ?_
   rintro e5 w5 ⟨rfl,hb5⟩
   refine ⟨_,rfl,?_⟩
   refine hK.out _ _ ⟨(hb5.cell (World.block_lt_of_cell? _ _ hHeld.1)).trans hHeld.1,(hb5.cell (World.block_lt_of_cell? _ _ hHeld.2.1)).trans hHeld.2.1,(hb5.cell (World.block_lt_of_cell? _ _ hHeld.2.2.1)).trans hHeld.2.2.1,(hb5.cell (World.block_lt_of_cell? _ _ hHeld.2.2.2.1)).trans hHeld.2.2.2.1,(hb5.cell (World.block_lt_of_cell? _ _ hHeld.2.2.2.2.1)).trans hHeld.2.2.2.2.1,(hb5.cell (World.block_lt_of_cell? _ _ hHeld.2.2.2.2.2)).trans hHeld.2.2.2.2.2⟩ (fun hHeld=>?_)
   clear hK K;refine norm_ (a':=?_) ?_ ?_;rotate_left
   ·show Act.put _ (some 20) _=_
    simp only [Act.put,sIb,sC0,sCs,i64_w,i32_w];rfl
   refine pK 6 21 ?_
   refine oK 12 (some 27) (fun K hK=>?_)
   refine gS Try.func35 #[.agg #[.int .i64 e.f0,.int .i64 e.f1,.int .i64 e.f2,.bool e.f3]] ?_
   with_reducible refine (extent_end.calls e.f0 e.f1 e.f2 e.f3 en _ HENF.out).mono ?_
   rintro e6 w6 ⟨rfl,hb6⟩
   refine ⟨_,rfl,?_⟩
   refine hK.out _ _ ⟨(hb6.cell (World.block_lt_of_cell? _ _ hHeld.1)).trans hHeld.1,(hb6.cell (World.block_lt_of_cell? _ _ hHeld.2.1)).trans hHeld.2.1,(hb6.cell (World.block_lt_of_cell? _ _ hHeld.2.2.1)).trans hHeld.2.2.1,(hb6.cell (World.block_lt_of_cell? _ _ hHeld.2.2.2.1)).trans hHeld.2.2.2.1,(hb6.cell (World.block_lt_of_cell? _ _ hHeld.2.2.2.2.1)).trans hHeld.2.2.2.2.1,(hb6.cell (World.block_lt_of_cell? _ _ hHeld.2.2.2.2.2)).trans hHeld.2.2.2.2.2⟩ (fun hHeld=>?_)
   clear hK K;refine norm_ (a':=?_) ?_ ?_;rotate_left
   ·show Act.put _ (some 27) _=_
    simp only [Act.put,sIb,sC0,sCs,i64_w,i32_w];rfl
   refine pK 13 28 ?_;refine pK 14 7 ?_;refine pK 15 8 ?_
   refine done_ (by kernel_rfl) ?_
   try rw [hx1,hx3]
   try rw [hx2,hx4]
   have hb16:Below w1.heap.size w1 w6:=((below_drew1 (Below.refl _ w1)).trans (hb5.mono (Nat.le_refl _))).trans (hb6.mono hb5.size)
   have hbz:∀ b∈bs,b < w1.heap.size:=fun b hb=>by have:=hbs b hb;have:=hRd _ HR1.out;omega
   have HI3:=am (hIB _ _ _ HI1.out hb16)
   have HR3:=am (hRB _ _ HR1.out hb16)
   have HBL3:=am (HBL1.out.below hbz hb16)
   have HBF3:=am (HBF1.out.below hbz hb16)
   have HBT3:=am (HBT1.out.below hbz hb16)
   have HE3:=am (HE1.out.below hbz hb16)
   clear hce0 hce1 hce2 hce3 hcf hct hb5 hb6 hb16 hbz hx1 hx2 hx3 hx4 hHeld HI1 HR1 HBL1 HBF1 HBT1 HE1
   generalize w6=w3 at HI3 HR3 HBL3 HBF3 HBT3 HE3 ⊢
   go_step
   go_step
   refine (wpIn_wide (n:=n)).1 ?_
   by_cases hc1:e.f0 < a
   ·by_cases hc2:a < b
    ·by_cases hc3:mab < en
     ·skip
      have hd1:decide (e.f0 < a)=true:=decide_eq_true hc1
      have HC1:=am hc1
      have hd2:decide (a < b)=true:=decide_eq_true hc2
      have HC2:=am hc2
      have hd3:decide (mab < en)=true:=decide_eq_true hc3
      have HC3:=am hc3
      clear hc1 hc2 hc3
      have hce0:=(blk_cell HE3.out.at_ 0).trans rfl
      have hce1:=(blk_cell HE3.out.at_ 1).trans rfl
      have hce2:=(blk_cell HE3.out.at_ 2).trans rfl
      have hce3:=(blk_cell HE3.out.at_ 3).trans rfl
      gi_wp2_with (first|(refine ⟨trivial,?_⟩;gi_at_call 67;refine (callsIn_wide.2 (part_calls e e.f0 a _ HMY.out (by have:=HBD.out;omega) (by have:=HBD.out;omega) (by have:=HBD.out;omega) (by have:=HBD.out;omega))).mono ?_;rintro r w3c ⟨rfl,hb3c⟩;have hbz3c:∀ b∈bs,b < _:=fun b hb=>Nat.lt_trans (hbs b hb) (Nat.lt_trans (Nat.lt_succ_self d) (hRd _ HR3.out));have HI3c:=am (hIB _ _ _ HI3.out hb3c);have HR3c:=am (hRB _ _ HR3.out hb3c);have HBL3c:=am (HBL3.out.below hbz3c hb3c);have HBF3c:=am (HBF3.out.below hbz3c hb3c);have HBT3c:=am (HBT3.out.below hbz3c hb3c);have HE3c:=am (HE3.out.below hbz3c hb3c);clear hbz3c;obtain ⟨fn,tmps,assign,body,hy,hRd4⟩:=hY P0 (partE e e.f0 a,false) w3c HI3c.out HR3c.out (by have:=HPN.out;have:=hN;(try simp only [List.length_append,List.length_cons,List.length_nil]);omega))|((with_reducible refine And.intro ?_ ?_);(first|exact trivial|exact fun _ _=>trivial)))
      refine hRd4.mono ?_
      clear hce0 hce1 hce2 hce3
      intro r w3y h9
      obtain ⟨rfl,hI3y,hR3y,hK3y⟩:=h9.elim id (fun h=>by obtain ⟨_,c,hF,_⟩:=h;exact hF.elim)
      have HI3y:=am hI3y
      have HR3y:=am hR3y
      have HBL3y:=am (HBL3c.out.kept hK3y)
      have HBF3y:=am (HBF3c.out.kept hK3y)
      have HBT3y:=am (HBT3c.out.kept hK3y)
      have HE3y:=am (HE3c.out.kept hK3y)
      clear hI3y hR3y hK3y hy hRd4
      have hce0:=(blk_cell HE3y.out.at_ 0).trans rfl
      have hce1:=(blk_cell HE3y.out.at_ 1).trans rfl
      have hce2:=(blk_cell HE3y.out.at_ 2).trans rfl
      have hce3:=(blk_cell HE3y.out.at_ 3).trans rfl
      gi_wp2_with (first|(refine ⟨trivial,?_⟩;gi_at_call 67;refine (callsIn_wide.2 (part_calls e a b _ HMY.out (by have:=HBD.out;omega) (by have:=HBD.out;omega) (by have:=HBD.out;omega) (by have:=HBD.out;omega))).mono ?_;rintro r w3yc ⟨rfl,hb3yc⟩;have hbz3yc:∀ b∈bs,b < _:=fun b hb=>Nat.lt_trans (hbs b hb) (Nat.lt_trans (Nat.lt_succ_self d) (hRd _ HR3y.out));have HI3yc:=am (hIB _ _ _ HI3y.out hb3yc);have HR3yc:=am (hRB _ _ HR3y.out hb3yc);have HBL3yc:=am (HBL3y.out.below hbz3yc hb3yc);have HBF3yc:=am (HBF3y.out.below hbz3yc hb3yc);have HBT3yc:=am (HBT3y.out.below hbz3yc hb3yc);have HE3yc:=am (HE3y.out.below hbz3yc hb3yc);clear hbz3yc;obtain ⟨fn,tmps,assign,body,hy,hRd5⟩:=hY (P0++[(partE e e.f0 a,false)]) (partE e a b,true) w3yc HI3yc.out HR3yc.out (by have:=HPN.out;have:=hN;(try simp only [List.length_append,List.length_cons,List.length_nil]);omega))|((with_reducible refine And.intro ?_ ?_);(first|exact trivial|exact fun _ _=>trivial)))
      refine hRd5.mono ?_
      clear hce0 hce1 hce2 hce3
      intro r w3yy h9
      obtain ⟨rfl,hI3yy,hR3yy,hK3yy⟩:=h9.elim id (fun h=>by obtain ⟨_,c,hF,_⟩:=h;exact hF.elim)
      have HI3yy:=am hI3yy
      have HR3yy:=am hR3yy
      have HBL3yy:=am (HBL3yc.out.kept hK3yy)
      have HBF3yy:=am (HBF3yc.out.kept hK3yy)
      have HBT3yy:=am (HBT3yc.out.kept hK3yy)
      have HE3yy:=am (HE3yc.out.kept hK3yy)
      clear hI3yy hR3yy hK3yy hy hRd5
      have hce0:=(blk_cell HE3yy.out.at_ 0).trans rfl
      have hce1:=(blk_cell HE3yy.out.at_ 1).trans rfl
      have hce2:=(blk_cell HE3yy.out.at_ 2).trans rfl
      have hce3:=(blk_cell HE3yy.out.at_ 3).trans rfl
      gi_wp2_with ((with_reducible refine And.intro ?_ ?_);(first|exact trivial|exact fun _ _=>trivial))
      refine startW (m:=18) _ (by kernel_rfl) rfl rfl ?_;refine pW 2 57 ?_;refine pW 3 58 ?_;refine pW 4 59 ?_
      refine oW 0 (some 55) (fun K hK=>?_)
      refine valueW (w1:=?_) (v:=?_) (by rfl) rfl ?_ ?_
      rotate_left 2
      ·go_simp
       constructor;(rfl);(rfl)
      refine hK.out _ _ ?_;clear hK K;refine normW (a':=?_) ?_ ?_;rotate_left
      ·show Act.put _ (some 55) _=_
       simp only [Act.put,sIb,sC0,sCs,i64_w,i32_w];rfl
      refine oW 1 (some 56) (fun K hK=>?_)
      refine gW Try.func35 #[.agg #[.int .i64 e.f0,.int .i64 e.f1,.int .i64 e.f2,.bool e.f3]] ?_
      with_reducible refine (extent_end.calls e.f0 e.f1 e.f2 e.f3 en _ HENF.out).mono ?_
      rintro r6 w3yye ⟨rfl,hb3yye⟩
      refine ⟨_,rfl,?_⟩
      clear hce0 hce1 hce2 hce3
      replace hb3yye:=(below_drew1 (Below.refl _ w3yy)).trans (hb3yye.mono (Nat.le_refl _))
      have hbz3yye:∀ b∈bs,b < _:=fun b hb=>Nat.lt_trans (hbs b hb) (Nat.lt_trans (Nat.lt_succ_self d) (hRd _ HR3yy.out))
      have HI3yye:=am (hIB _ _ _ HI3yy.out hb3yye)
      have HR3yye:=am (hRB _ _ HR3yy.out hb3yye)
      have HBL3yye:=am (HBL3yy.out.below hbz3yye hb3yye)
      have HBF3yye:=am (HBF3yy.out.below hbz3yye hb3yye)
      have HBT3yye:=am (HBT3yy.out.below hbz3yye hb3yye)
      have HE3yye:=am (HE3yy.out.below hbz3yye hb3yye)
      clear hbz3yye
      have hce0:=(blk_cell HE3yye.out.at_ 0).trans rfl
      have hce1:=(blk_cell HE3yye.out.at_ 1).trans rfl
      have hce2:=(blk_cell HE3yye.out.at_ 2).trans rfl
      have hce3:=(blk_cell HE3yye.out.at_ 3).trans rfl
      refine hK.out _ _ ?_;clear hK K;refine normW (a':=?_) ?_ ?_;rotate_left
      ·show Act.put _ (some 56) _=_
       simp only [Act.put,sIb,sC0,sCs,i64_w,i32_w];rfl
      refine pW 5 60 ?_;refine pW 6 61 ?_;refine pW 7 62 ?_;refine pW 9 64 ?_;refine pW 10 65 ?_;refine pW 11 66 ?_
      refine twoW (i:=8) (j:=12) (Ni:=some 63) (Nj:=some 67) #[true,true,true,true,true,true,true,true,true,true,true,true,false,false,false,false,false,false] #[true,true,true,true,true,true,true,true,false,true,true,true,true,false,false,false,false,false] rfl rfl rfl rfl (by kernel_rfl) (fun K hK=>?_) (fun K hK=>?_)
      focus
       refine valueW (w1:=?_) (v:=?_) (by rfl) rfl ?_ ?_
       rotate_left 2
       ·go_simp
        constructor;(rfl);(rfl)
       refine hK.out _ _ ?_;clear hK K;refine normW (a':=?_) ?_ ?_;rotate_left
       ·show Act.put _ (some 63) _=_
        simp only [Act.put,sIb,sC0,sCs,i64_w,i32_w];rfl
       refine oW 12 (some 67) (fun K hK=>?_)
       refine valueW (w1:=?_) (v:=?_) (by rfl) rfl ?_ ?_
       rotate_left 2
       ·go_simp
        constructor;(rfl);(rfl)
       refine hK.out _ _ ?_;clear hK K;refine normW (a':=?_) ?_ ?_;rotate_left
       ·show Act.put _ (some 67) _=_
        simp only [Act.put,sIb,sC0,sCs,i64_w,i32_w];rfl
       refine oW 13 (some 68) (fun K hK=>?_)
       refine gW Try.func35 #[.agg #[.int .i64 e.f0,.int .i64 e.f1,.int .i64 e.f2,.bool e.f3]] ?_
       with_reducible refine (extent_end.calls e.f0 e.f1 e.f2 e.f3 en _ HENF.out).mono ?_
       rintro r6 w3yyee ⟨rfl,hb3yyee⟩
       refine ⟨_,rfl,?_⟩
       clear hce0 hce1 hce2 hce3
       have hbz3yyee:∀ b∈bs,b < _:=fun b hb=>Nat.lt_trans (hbs b hb) (Nat.lt_trans (Nat.lt_succ_self d) (hRd _ HR3yye.out))
       have HI3yyee:=am (hIB _ _ _ HI3yye.out hb3yyee)
       have HR3yyee:=am (hRB _ _ HR3yye.out hb3yyee)
       have HBL3yyee:=am (HBL3yye.out.below hbz3yyee hb3yyee)
       have HBF3yyee:=am (HBF3yye.out.below hbz3yyee hb3yyee)
       have HBT3yyee:=am (HBT3yye.out.below hbz3yyee hb3yyee)
       have HE3yyee:=am (HE3yye.out.below hbz3yyee hb3yyee)
       clear hbz3yyee
       have hce0:=(blk_cell HE3yyee.out.at_ 0).trans rfl
       have hce1:=(blk_cell HE3yyee.out.at_ 1).trans rfl
       have hce2:=(blk_cell HE3yyee.out.at_ 2).trans rfl
       have hce3:=(blk_cell HE3yyee.out.at_ 3).trans rfl
       refine hK.out _ _ ?_;clear hK K;refine normW (a':=?_) ?_ ?_;rotate_left
       ·show Act.put _ (some 68) _=_
        simp only [Act.put,sIb,sC0,sCs,i64_w,i32_w];rfl
       refine oW 14 (some 69) (fun K hK=>?_)
       refine gW Try.func67 #[.agg #[.int .i64 e.f0,.int .i64 e.f1,.int .i64 e.f2,.bool e.f3],.int .i64 mab,.int .i64 en] ?_
       with_reducible refine (part_calls e mab en _ HMY.out (by have:=HBD.out;omega) (by have:=HBD.out;omega) (by have:=HBD.out;omega) (by have:=HBD.out;omega)).mono ?_
       rintro r6 w3yyep ⟨rfl,hb3yyep⟩
       refine ⟨_,rfl,?_⟩
       clear hce0 hce1 hce2 hce3
       have hbz3yyep:∀ b∈bs,b < _:=fun b hb=>Nat.lt_trans (hbs b hb) (Nat.lt_trans (Nat.lt_succ_self d) (hRd _ HR3yyee.out))
       have HI3yyep:=am (hIB _ _ _ HI3yyee.out hb3yyep)
       have HR3yyep:=am (hRB _ _ HR3yyee.out hb3yyep)
       have HBL3yyep:=am (HBL3yyee.out.below hbz3yyep hb3yyep)
       have HBF3yyep:=am (HBF3yyee.out.below hbz3yyep hb3yyep)
       have HBT3yyep:=am (HBT3yyee.out.below hbz3yyep hb3yyep)
       have HE3yyep:=am (HE3yyee.out.below hbz3yyep hb3yyep)
       clear hbz3yyep;refine hK.out _ _ ?_;clear hK K;refine normW (a':=?_) ?_ ?_;rotate_left
       ·show Act.put _ (some 69) _=_
        simp only [Act.put,sIb,sC0,sCs,i64_w,i32_w];rfl
       refine oW 15 (some 70) (fun K hK=>?_)
       refine yieldW #[.agg #[.int .i64 (partE e mab en).f0,.int .i64 (partE e mab en).f1,.int .i64 (partE e mab en).f2,.bool (partE e mab en).f3],.bool false] (by rfl) rfl rfl rfl (by simp only [List.map_toArray,List.map_cons,List.map_nil];rfl) (hY ((P0++[(partE e e.f0 a,false)])++[(partE e a b,true)]) (partE e mab en,false) _ HI3yyep.out HR3yyep.out (by have:=HPN.out;have:=hN;(try simp only [List.length_append,List.length_cons,List.length_nil]);omega)) ?_
       intro r w3yyey h9
       obtain ⟨rfl,hI3yyey,hR3yyey,hK3yyey⟩:=h9.elim id (fun h=>by obtain ⟨_,c,hF,_⟩:=h;exact hF.elim)
       have HI3yyey:=am hI3yyey
       have HR3yyey:=am hR3yyey
       have HBL3yyey:=am (HBL3yyep.out.kept hK3yyey)
       have HBF3yyey:=am (HBF3yyep.out.kept hK3yyey)
       have HBT3yyey:=am (HBT3yyep.out.kept hK3yyey)
       have HE3yyey:=am (HE3yyep.out.kept hK3yyey)
       clear hI3yyey hR3yyey hK3yyey
       refine ⟨_,rfl,?_⟩
       refine hK.out _ _ ?_;clear hK K;refine normW (a':=?_) ?_ ?_;rotate_left
       ·show Act.put _ (some 70) _=_
        simp only [Act.put,sIb,sC0,sCs,i64_w,i32_w];rfl
       refine pW 16 71 ?_;refine pW 17 72 ?_
       refine doneW (by kernel_rfl) ?_
      rotate_left 1
      focus
       refine valueW (w1:=?_) (v:=?_) (by rfl) rfl ?_ ?_
       rotate_left 2
       ·go_simp
        constructor;(rfl);(rfl)
       refine hK.out _ _ ?_;clear hK K;refine normW (a':=?_) ?_ ?_;rotate_left
       ·show Act.put _ (some 67) _=_
        simp only [Act.put,sIb,sC0,sCs,i64_w,i32_w];rfl
       refine twoW (i:=8) (j:=13) (Ni:=some 63) (Nj:=some 68) #[true,true,true,true,true,true,true,true,true,true,true,true,true,false,false,false,false,false] #[true,true,true,true,true,true,true,true,false,true,true,true,true,true,false,false,false,false] rfl rfl rfl rfl (by kernel_rfl) (fun K hK=>?_) (fun K hK=>?_)
       focus
        refine valueW (w1:=?_) (v:=?_) (by rfl) rfl ?_ ?_
        rotate_left 2
        ·go_simp
         constructor;(rfl);(rfl)
        refine hK.out _ _ ?_;clear hK K;refine normW (a':=?_) ?_ ?_;rotate_left
        ·show Act.put _ (some 63) _=_
         simp only [Act.put,sIb,sC0,sCs,i64_w,i32_w];rfl
        refine oW 13 (some 68) (fun K hK=>?_)
        refine gW Try.func35 #[.agg #[.int .i64 e.f0,.int .i64 e.f1,.int .i64 e.f2,.bool e.f3]] ?_
        with_reducible refine (extent_end.calls e.f0 e.f1 e.f2 e.f3 en _ HENF.out).mono ?_
        rintro r6 w3yyee ⟨rfl,hb3yyee⟩
        refine ⟨_,rfl,?_⟩
        clear hce0 hce1 hce2 hce3
        have hbz3yyee:∀ b∈bs,b < _:=fun b hb=>Nat.lt_trans (hbs b hb) (Nat.lt_trans (Nat.lt_succ_self d) (hRd _ HR3yye.out))
        have HI3yyee:=am (hIB _ _ _ HI3yye.out hb3yyee)
        have HR3yyee:=am (hRB _ _ HR3yye.out hb3yyee)
        have HBL3yyee:=am (HBL3yye.out.below hbz3yyee hb3yyee)
        have HBF3yyee:=am (HBF3yye.out.below hbz3yyee hb3yyee)
        have HBT3yyee:=am (HBT3yye.out.below hbz3yyee hb3yyee)
        have HE3yyee:=am (HE3yye.out.below hbz3yyee hb3yyee)
        clear hbz3yyee
        have hce0:=(blk_cell HE3yyee.out.at_ 0).trans rfl
        have hce1:=(blk_cell HE3yyee.out.at_ 1).trans rfl
        have hce2:=(blk_cell HE3yyee.out.at_ 2).trans rfl
        have hce3:=(blk_cell HE3yyee.out.at_ 3).trans rfl
        refine hK.out _ _ ?_;clear hK K;refine normW (a':=?_) ?_ ?_;rotate_left
        ·show Act.put _ (some 68) _=_
         simp only [Act.put,sIb,sC0,sCs,i64_w,i32_w];rfl
        refine oW 14 (some 69) (fun K hK=>?_)
        refine gW Try.func67 #[.agg #[.int .i64 e.f0,.int .i64 e.f1,.int .i64 e.f2,.bool e.f3],.int .i64 mab,.int .i64 en] ?_
        with_reducible refine (part_calls e mab en _ HMY.out (by have:=HBD.out;omega) (by have:=HBD.out;omega) (by have:=HBD.out;omega) (by have:=HBD.out;omega)).mono ?_
        rintro r6 w3yyep ⟨rfl,hb3yyep⟩
        refine ⟨_,rfl,?_⟩
        clear hce0 hce1 hce2 hce3
        have hbz3yyep:∀ b∈bs,b < _:=fun b hb=>Nat.lt_trans (hbs b hb) (Nat.lt_trans (Nat.lt_succ_self d) (hRd _ HR3yyee.out))
        have HI3yyep:=am (hIB _ _ _ HI3yyee.out hb3yyep)
        have HR3yyep:=am (hRB _ _ HR3yyee.out hb3yyep)
        have HBL3yyep:=am (HBL3yyee.out.below hbz3yyep hb3yyep)
        have HBF3yyep:=am (HBF3yyee.out.below hbz3yyep hb3yyep)
        have HBT3yyep:=am (HBT3yyee.out.below hbz3yyep hb3yyep)
        have HE3yyep:=am (HE3yyee.out.below hbz3yyep hb3yyep)
        clear hbz3yyep;refine hK.out _ _ ?_;clear hK K;refine normW (a':=?_) ?_ ?_;rotate_left
        ·show Act.put _ (some 69) _=_
         simp only [Act.put,sIb,sC0,sCs,i64_w,i32_w];rfl
        refine oW 15 (some 70) (fun K hK=>?_)
        refine yieldW #[.agg #[.int .i64 (partE e mab en).f0,.int .i64 (partE e mab en).f1,.int .i64 (partE e mab en).f2,.bool (partE e mab en).f3],.bool false] (by rfl) rfl rfl rfl (by simp only [List.map_toArray,List.map_cons,List.map_nil];rfl) (hY ((P0++[(partE e e.f0 a,false)])++[(partE e a b,true)]) (partE e mab en,false) _ HI3yyep.out HR3yyep.out (by have:=HPN.out;have:=hN;(try simp only [List.length_append,List.length_cons,List.length_nil]);omega)) ?_
        intro r w3yyey h9
        obtain ⟨rfl,hI3yyey,hR3yyey,hK3yyey⟩:=h9.elim id (fun h=>by obtain ⟨_,c,hF,_⟩:=h;exact hF.elim)
        have HI3yyey:=am hI3yyey
        have HR3yyey:=am hR3yyey
        have HBL3yyey:=am (HBL3yyep.out.kept hK3yyey)
        have HBF3yyey:=am (HBF3yyep.out.kept hK3yyey)
        have HBT3yyey:=am (HBT3yyep.out.kept hK3yyey)
        have HE3yyey:=am (HE3yyep.out.kept hK3yyey)
        clear hI3yyey hR3yyey hK3yyey
        refine ⟨_,rfl,?_⟩
        refine hK.out _ _ ?_;clear hK K;refine normW (a':=?_) ?_ ?_;rotate_left
        ·show Act.put _ (some 70) _=_
         simp only [Act.put,sIb,sC0,sCs,i64_w,i32_w];rfl
        refine pW 16 71 ?_;refine pW 17 72 ?_
        refine doneW (by kernel_rfl) ?_
       rotate_left 1
       focus
        refine gW Try.func35 #[.agg #[.int .i64 e.f0,.int .i64 e.f1,.int .i64 e.f2,.bool e.f3]] ?_
        with_reducible refine (extent_end.calls e.f0 e.f1 e.f2 e.f3 en _ HENF.out).mono ?_
        rintro r6 w3yyee ⟨rfl,hb3yyee⟩
        refine ⟨_,rfl,?_⟩
        clear hce0 hce1 hce2 hce3
        have hbz3yyee:∀ b∈bs,b < _:=fun b hb=>Nat.lt_trans (hbs b hb) (Nat.lt_trans (Nat.lt_succ_self d) (hRd _ HR3yye.out))
        have HI3yyee:=am (hIB _ _ _ HI3yye.out hb3yyee)
        have HR3yyee:=am (hRB _ _ HR3yye.out hb3yyee)
        have HBL3yyee:=am (HBL3yye.out.below hbz3yyee hb3yyee)
        have HBF3yyee:=am (HBF3yye.out.below hbz3yyee hb3yyee)
        have HBT3yyee:=am (HBT3yye.out.below hbz3yyee hb3yyee)
        have HE3yyee:=am (HE3yye.out.below hbz3yyee hb3yyee)
        clear hbz3yyee
        have hce0:=(blk_cell HE3yyee.out.at_ 0).trans rfl
        have hce1:=(blk_cell HE3yyee.out.at_ 1).trans rfl
        have hce2:=(blk_cell HE3yyee.out.at_ 2).trans rfl
        have hce3:=(blk_cell HE3yyee.out.at_ 3).trans rfl
        refine hK.out _ _ ?_;clear hK K;refine normW (a':=?_) ?_ ?_;rotate_left
        ·show Act.put _ (some 68) _=_
         simp only [Act.put,sIb,sC0,sCs,i64_w,i32_w];rfl
        refine oW 8 (some 63) (fun K hK=>?_)
        refine valueW (w1:=?_) (v:=?_) (by rfl) rfl ?_ ?_
        rotate_left 2
        ·go_simp
         constructor;(rfl);(rfl)
        refine hK.out _ _ ?_;clear hK K;refine normW (a':=?_) ?_ ?_;rotate_left
        ·show Act.put _ (some 63) _=_
         simp only [Act.put,sIb,sC0,sCs,i64_w,i32_w];rfl
        refine oW 14 (some 69) (fun K hK=>?_)
        refine gW Try.func67 #[.agg #[.int .i64 e.f0,.int .i64 e.f1,.int .i64 e.f2,.bool e.f3],.int .i64 mab,.int .i64 en] ?_
        with_reducible refine (part_calls e mab en _ HMY.out (by have:=HBD.out;omega) (by have:=HBD.out;omega) (by have:=HBD.out;omega) (by have:=HBD.out;omega)).mono ?_
        rintro r6 w3yyep ⟨rfl,hb3yyep⟩
        refine ⟨_,rfl,?_⟩
        clear hce0 hce1 hce2 hce3
        have hbz3yyep:∀ b∈bs,b < _:=fun b hb=>Nat.lt_trans (hbs b hb) (Nat.lt_trans (Nat.lt_succ_self d) (hRd _ HR3yyee.out))
        have HI3yyep:=am (hIB _ _ _ HI3yyee.out hb3yyep)
        have HR3yyep:=am (hRB _ _ HR3yyee.out hb3yyep)
        have HBL3yyep:=am (HBL3yyee.out.below hbz3yyep hb3yyep)
        have HBF3yyep:=am (HBF3yyee.out.below hbz3yyep hb3yyep)
        have HBT3yyep:=am (HBT3yyee.out.below hbz3yyep hb3yyep)
        have HE3yyep:=am (HE3yyee.out.below hbz3yyep hb3yyep)
        clear hbz3yyep;refine hK.out _ _ ?_;clear hK K;refine normW (a':=?_) ?_ ?_;rotate_left
        ·show Act.put _ (some 69) _=_
         simp only [Act.put,sIb,sC0,sCs,i64_w,i32_w];rfl
        refine oW 15 (some 70) (fun K hK=>?_)
        refine yieldW #[.agg #[.int .i64 (partE e mab en).f0,.int .i64 (partE e mab en).f1,.int .i64 (partE e mab en).f2,.bool (partE e mab en).f3],.bool false] (by rfl) rfl rfl rfl (by simp only [List.map_toArray,List.map_cons,List.map_nil];rfl) (hY ((P0++[(partE e e.f0 a,false)])++[(partE e a b,true)]) (partE e mab en,false) _ HI3yyep.out HR3yyep.out (by have:=HPN.out;have:=hN;(try simp only [List.length_append,List.length_cons,List.length_nil]);omega)) ?_
        intro r w3yyey h9
        obtain ⟨rfl,hI3yyey,hR3yyey,hK3yyey⟩:=h9.elim id (fun h=>by obtain ⟨_,c,hF,_⟩:=h;exact hF.elim)
        have HI3yyey:=am hI3yyey
        have HR3yyey:=am hR3yyey
        have HBL3yyey:=am (HBL3yyep.out.kept hK3yyey)
        have HBF3yyey:=am (HBF3yyep.out.kept hK3yyey)
        have HBT3yyey:=am (HBT3yyep.out.kept hK3yyey)
        have HE3yyey:=am (HE3yyep.out.kept hK3yyey)
        clear hI3yyey hR3yyey hK3yyey
        refine ⟨_,rfl,?_⟩
        refine hK.out _ _ ?_;clear hK K;refine normW (a':=?_) ?_ ?_;rotate_left
        ·show Act.put _ (some 70) _=_
         simp only [Act.put,sIb,sC0,sCs,i64_w,i32_w];rfl
        refine pW 16 71 ?_;refine pW 17 72 ?_
        refine doneW (by kernel_rfl) ?_
      all_goals
       have HQ:=am (show (((P0++[(partE e e.f0 a,false)])++[(partE e a b,true)])++[(partE e mab en,false)])=piecesL (L.take (i+1)) lo hi by
        rw [HE.out]
        unfold piecesL
        rw [List.flatMap_append,List.flatMap_cons,List.flatMap_nil,List.append_nil]
        show _=piecesL (L.take i) lo hi++pieces3 e lo hi
        rw [← HP.out]
        unfold pieces3
        rw [HA.out,HB.out,HMAB.out,HEN.out,if_pos (by have:=HC1.out;omega),if_pos (by have:=HC2.out;omega),if_pos (by have:=HC3.out;omega)];simp)
       gi_wp2
       go_wp2
       go_roundg g
       case measure=>omega
       case rel=>exact ⟨i+1,by rw [HIW.out],⟨by have:=HK.out;omega⟩,⟨by rw [← HQ.out];exact HI3yyey.out⟩,HR3yyey,HBL3yyey,HBF3yyey,HBT3yyey⟩
     ·skip
      have hd1:decide (e.f0 < a)=true:=decide_eq_true hc1
      have HC1:=am hc1
      have hd2:decide (a < b)=true:=decide_eq_true hc2
      have HC2:=am hc2
      have hd3:decide (mab < en)=false:=decide_eq_false hc3
      have HC3:=am hc3
      clear hc1 hc2 hc3
      have hce0:=(blk_cell HE3.out.at_ 0).trans rfl
      have hce1:=(blk_cell HE3.out.at_ 1).trans rfl
      have hce2:=(blk_cell HE3.out.at_ 2).trans rfl
      have hce3:=(blk_cell HE3.out.at_ 3).trans rfl
      gi_wp2_with (first|(refine ⟨trivial,?_⟩;gi_at_call 67;refine (callsIn_wide.2 (part_calls e e.f0 a _ HMY.out (by have:=HBD.out;omega) (by have:=HBD.out;omega) (by have:=HBD.out;omega) (by have:=HBD.out;omega))).mono ?_;rintro r w3c ⟨rfl,hb3c⟩;have hbz3c:∀ b∈bs,b < _:=fun b hb=>Nat.lt_trans (hbs b hb) (Nat.lt_trans (Nat.lt_succ_self d) (hRd _ HR3.out));have HI3c:=am (hIB _ _ _ HI3.out hb3c);have HR3c:=am (hRB _ _ HR3.out hb3c);have HBL3c:=am (HBL3.out.below hbz3c hb3c);have HBF3c:=am (HBF3.out.below hbz3c hb3c);have HBT3c:=am (HBT3.out.below hbz3c hb3c);have HE3c:=am (HE3.out.below hbz3c hb3c);clear hbz3c;obtain ⟨fn,tmps,assign,body,hy,hRd4⟩:=hY P0 (partE e e.f0 a,false) w3c HI3c.out HR3c.out (by have:=HPN.out;have:=hN;(try simp only [List.length_append,List.length_cons,List.length_nil]);omega))|((with_reducible refine And.intro ?_ ?_);(first|exact trivial|exact fun _ _=>trivial)))
      refine hRd4.mono ?_
      clear hce0 hce1 hce2 hce3
      intro r w3y h9
      obtain ⟨rfl,hI3y,hR3y,hK3y⟩:=h9.elim id (fun h=>by obtain ⟨_,c,hF,_⟩:=h;exact hF.elim)
      have HI3y:=am hI3y
      have HR3y:=am hR3y
      have HBL3y:=am (HBL3c.out.kept hK3y)
      have HBF3y:=am (HBF3c.out.kept hK3y)
      have HBT3y:=am (HBT3c.out.kept hK3y)
      have HE3y:=am (HE3c.out.kept hK3y)
      clear hI3y hR3y hK3y hy hRd4
      have hce0:=(blk_cell HE3y.out.at_ 0).trans rfl
      have hce1:=(blk_cell HE3y.out.at_ 1).trans rfl
      have hce2:=(blk_cell HE3y.out.at_ 2).trans rfl
      have hce3:=(blk_cell HE3y.out.at_ 3).trans rfl
      gi_wp2_with (first|(refine ⟨trivial,?_⟩;gi_at_call 67;refine (callsIn_wide.2 (part_calls e a b _ HMY.out (by have:=HBD.out;omega) (by have:=HBD.out;omega) (by have:=HBD.out;omega) (by have:=HBD.out;omega))).mono ?_;rintro r w3yc ⟨rfl,hb3yc⟩;have hbz3yc:∀ b∈bs,b < _:=fun b hb=>Nat.lt_trans (hbs b hb) (Nat.lt_trans (Nat.lt_succ_self d) (hRd _ HR3y.out));have HI3yc:=am (hIB _ _ _ HI3y.out hb3yc);have HR3yc:=am (hRB _ _ HR3y.out hb3yc);have HBL3yc:=am (HBL3y.out.below hbz3yc hb3yc);have HBF3yc:=am (HBF3y.out.below hbz3yc hb3yc);have HBT3yc:=am (HBT3y.out.below hbz3yc hb3yc);have HE3yc:=am (HE3y.out.below hbz3yc hb3yc);clear hbz3yc;obtain ⟨fn,tmps,assign,body,hy,hRd5⟩:=hY (P0++[(partE e e.f0 a,false)]) (partE e a b,true) w3yc HI3yc.out HR3yc.out (by have:=HPN.out;have:=hN;(try simp only [List.length_append,List.length_cons,List.length_nil]);omega))|((with_reducible refine And.intro ?_ ?_);(first|exact trivial|exact fun _ _=>trivial)))
      refine hRd5.mono ?_
      clear hce0 hce1 hce2 hce3
      intro r w3yy h9
      obtain ⟨rfl,hI3yy,hR3yy,hK3yy⟩:=h9.elim id (fun h=>by obtain ⟨_,c,hF,_⟩:=h;exact hF.elim)
      have HI3yy:=am hI3yy
      have HR3yy:=am hR3yy
      have HBL3yy:=am (HBL3yc.out.kept hK3yy)
      have HBF3yy:=am (HBF3yc.out.kept hK3yy)
      have HBT3yy:=am (HBT3yc.out.kept hK3yy)
      have HE3yy:=am (HE3yc.out.kept hK3yy)
      clear hI3yy hR3yy hK3yy hy hRd5
      have hce0:=(blk_cell HE3yy.out.at_ 0).trans rfl
      have hce1:=(blk_cell HE3yy.out.at_ 1).trans rfl
      have hce2:=(blk_cell HE3yy.out.at_ 2).trans rfl
      have hce3:=(blk_cell HE3yy.out.at_ 3).trans rfl
      gi_wp2_with ((with_reducible refine And.intro ?_ ?_);(first|exact trivial|exact fun _ _=>trivial))
      refine startW (m:=18) _ (by kernel_rfl) rfl rfl ?_;refine pW 2 57 ?_;refine pW 3 58 ?_;refine pW 4 59 ?_
      refine oW 0 (some 55) (fun K hK=>?_)
      refine valueW (w1:=?_) (v:=?_) (by rfl) rfl ?_ ?_
      rotate_left 2
      ·go_simp
       constructor;(rfl);(rfl)
      refine hK.out _ _ ?_;clear hK K;refine normW (a':=?_) ?_ ?_;rotate_left
      ·show Act.put _ (some 55) _=_
       simp only [Act.put,sIb,sC0,sCs,i64_w,i32_w];rfl
      refine oW 1 (some 56) (fun K hK=>?_)
      refine gW Try.func35 #[.agg #[.int .i64 e.f0,.int .i64 e.f1,.int .i64 e.f2,.bool e.f3]] ?_
      with_reducible refine (extent_end.calls e.f0 e.f1 e.f2 e.f3 en _ HENF.out).mono ?_
      rintro r6 w3yye ⟨rfl,hb3yye⟩
      refine ⟨_,rfl,?_⟩
      clear hce0 hce1 hce2 hce3
      replace hb3yye:=(below_drew1 (Below.refl _ w3yy)).trans (hb3yye.mono (Nat.le_refl _))
      have hbz3yye:∀ b∈bs,b < _:=fun b hb=>Nat.lt_trans (hbs b hb) (Nat.lt_trans (Nat.lt_succ_self d) (hRd _ HR3yy.out))
      have HI3yye:=am (hIB _ _ _ HI3yy.out hb3yye)
      have HR3yye:=am (hRB _ _ HR3yy.out hb3yye)
      have HBL3yye:=am (HBL3yy.out.below hbz3yye hb3yye)
      have HBF3yye:=am (HBF3yy.out.below hbz3yye hb3yye)
      have HBT3yye:=am (HBT3yy.out.below hbz3yye hb3yye)
      have HE3yye:=am (HE3yy.out.below hbz3yye hb3yye)
      clear hbz3yye
      have hce0:=(blk_cell HE3yye.out.at_ 0).trans rfl
      have hce1:=(blk_cell HE3yye.out.at_ 1).trans rfl
      have hce2:=(blk_cell HE3yye.out.at_ 2).trans rfl
      have hce3:=(blk_cell HE3yye.out.at_ 3).trans rfl
      refine hK.out _ _ ?_;clear hK K;refine normW (a':=?_) ?_ ?_;rotate_left
      ·show Act.put _ (some 56) _=_
       simp only [Act.put,sIb,sC0,sCs,i64_w,i32_w];rfl
      refine pW 5 60 ?_;refine pW 6 61 ?_;refine uW 7 62 ?_;refine uW 8 63 ?_;refine uW 9 64 ?_;refine uW 10 65 ?_;refine uW 11 66 ?_;refine uW 12 67 ?_
      refine oW 13 (some 68) (fun K hK=>?_)
      refine offW (by rfl) ?_
      refine hK.out _ _ ?_;clear hK K;refine normW (a':=?_) ?_ ?_;rotate_left
      ·show Act.put _ (some 68) _=_
       simp only [Act.put,sIb,sC0,sCs,i64_w,i32_w];rfl
      refine oW 14 (some 69) (fun K hK=>?_)
      refine offW (by rfl) ?_
      refine hK.out _ _ ?_;clear hK K;refine normW (a':=?_) ?_ ?_;rotate_left
      ·show Act.put _ (some 69) _=_
       simp only [Act.put,sIb,sC0,sCs,i64_w,i32_w];rfl
      refine oW 15 (some 70) (fun K hK=>?_)
      refine offW (by rfl) ?_
      refine hK.out _ _ ?_;clear hK K;refine normW (a':=?_) ?_ ?_;rotate_left
      ·show Act.put _ (some 70) _=_
       simp only [Act.put,sIb,sC0,sCs,i64_w,i32_w];rfl
      refine uW 16 71 ?_;refine pW 17 72 ?_
      refine doneW (by kernel_rfl) ?_
      all_goals
       have HQ:=am (show ((P0++[(partE e e.f0 a,false)])++[(partE e a b,true)])=piecesL (L.take (i+1)) lo hi by
        rw [HE.out]
        unfold piecesL
        rw [List.flatMap_append,List.flatMap_cons,List.flatMap_nil,List.append_nil]
        show _=piecesL (L.take i) lo hi++pieces3 e lo hi
        rw [← HP.out]
        unfold pieces3
        rw [HA.out,HB.out,HMAB.out,HEN.out,if_pos (by have:=HC1.out;omega),if_pos (by have:=HC2.out;omega),if_neg (by have:=HC3.out;omega)];simp)
       gi_wp2
       go_wp2
       go_roundg g
       case measure=>omega
       case rel=>exact ⟨i+1,by rw [HIW.out],⟨by have:=HK.out;omega⟩,⟨by rw [← HQ.out];exact HI3yye.out⟩,HR3yye,HBL3yye,HBF3yye,HBT3yye⟩
    ·by_cases hc3:mab < en
     ·skip
      have hd1:decide (e.f0 < a)=true:=decide_eq_true hc1
      have HC1:=am hc1
      have hd2:decide (a < b)=false:=decide_eq_false hc2
      have HC2:=am hc2
      have hd3:decide (mab < en)=true:=decide_eq_true hc3
      have HC3:=am hc3
      clear hc1 hc2 hc3
      have hce0:=(blk_cell HE3.out.at_ 0).trans rfl
      have hce1:=(blk_cell HE3.out.at_ 1).trans rfl
      have hce2:=(blk_cell HE3.out.at_ 2).trans rfl
      have hce3:=(blk_cell HE3.out.at_ 3).trans rfl
      gi_wp2_with (first|(refine ⟨trivial,?_⟩;gi_at_call 67;refine (callsIn_wide.2 (part_calls e e.f0 a _ HMY.out (by have:=HBD.out;omega) (by have:=HBD.out;omega) (by have:=HBD.out;omega) (by have:=HBD.out;omega))).mono ?_;rintro r w3c ⟨rfl,hb3c⟩;have hbz3c:∀ b∈bs,b < _:=fun b hb=>Nat.lt_trans (hbs b hb) (Nat.lt_trans (Nat.lt_succ_self d) (hRd _ HR3.out));have HI3c:=am (hIB _ _ _ HI3.out hb3c);have HR3c:=am (hRB _ _ HR3.out hb3c);have HBL3c:=am (HBL3.out.below hbz3c hb3c);have HBF3c:=am (HBF3.out.below hbz3c hb3c);have HBT3c:=am (HBT3.out.below hbz3c hb3c);have HE3c:=am (HE3.out.below hbz3c hb3c);clear hbz3c;obtain ⟨fn,tmps,assign,body,hy,hRd4⟩:=hY P0 (partE e e.f0 a,false) w3c HI3c.out HR3c.out (by have:=HPN.out;have:=hN;(try simp only [List.length_append,List.length_cons,List.length_nil]);omega))|((with_reducible refine And.intro ?_ ?_);(first|exact trivial|exact fun _ _=>trivial)))
      refine hRd4.mono ?_
      clear hce0 hce1 hce2 hce3
      intro r w3y h9
      obtain ⟨rfl,hI3y,hR3y,hK3y⟩:=h9.elim id (fun h=>by obtain ⟨_,c,hF,_⟩:=h;exact hF.elim)
      have HI3y:=am hI3y
      have HR3y:=am hR3y
      have HBL3y:=am (HBL3c.out.kept hK3y)
      have HBF3y:=am (HBF3c.out.kept hK3y)
      have HBT3y:=am (HBT3c.out.kept hK3y)
      have HE3y:=am (HE3c.out.kept hK3y)
      clear hI3y hR3y hK3y hy hRd4
      have hce0:=(blk_cell HE3y.out.at_ 0).trans rfl
      have hce1:=(blk_cell HE3y.out.at_ 1).trans rfl
      have hce2:=(blk_cell HE3y.out.at_ 2).trans rfl
      have hce3:=(blk_cell HE3y.out.at_ 3).trans rfl
      gi_wp2_with ((with_reducible refine And.intro ?_ ?_);(first|exact trivial|exact fun _ _=>trivial))
      refine startW (m:=18) _ (by kernel_rfl) rfl rfl ?_;refine pW 2 57 ?_;refine pW 3 58 ?_;refine pW 4 59 ?_
      refine oW 0 (some 55) (fun K hK=>?_)
      refine valueW (w1:=?_) (v:=?_) (by rfl) rfl ?_ ?_
      rotate_left 2
      ·go_simp
       constructor;(rfl);(rfl)
      refine hK.out _ _ ?_;clear hK K;refine normW (a':=?_) ?_ ?_;rotate_left
      ·show Act.put _ (some 55) _=_
       simp only [Act.put,sIb,sC0,sCs,i64_w,i32_w];rfl
      refine oW 1 (some 56) (fun K hK=>?_)
      refine gW Try.func35 #[.agg #[.int .i64 e.f0,.int .i64 e.f1,.int .i64 e.f2,.bool e.f3]] ?_
      with_reducible refine (extent_end.calls e.f0 e.f1 e.f2 e.f3 en _ HENF.out).mono ?_
      rintro r6 w3ye ⟨rfl,hb3ye⟩
      refine ⟨_,rfl,?_⟩
      clear hce0 hce1 hce2 hce3
      replace hb3ye:=(below_drew1 (Below.refl _ w3y)).trans (hb3ye.mono (Nat.le_refl _))
      have hbz3ye:∀ b∈bs,b < _:=fun b hb=>Nat.lt_trans (hbs b hb) (Nat.lt_trans (Nat.lt_succ_self d) (hRd _ HR3y.out))
      have HI3ye:=am (hIB _ _ _ HI3y.out hb3ye)
      have HR3ye:=am (hRB _ _ HR3y.out hb3ye)
      have HBL3ye:=am (HBL3y.out.below hbz3ye hb3ye)
      have HBF3ye:=am (HBF3y.out.below hbz3ye hb3ye)
      have HBT3ye:=am (HBT3y.out.below hbz3ye hb3ye)
      have HE3ye:=am (HE3y.out.below hbz3ye hb3ye)
      clear hbz3ye
      have hce0:=(blk_cell HE3ye.out.at_ 0).trans rfl
      have hce1:=(blk_cell HE3ye.out.at_ 1).trans rfl
      have hce2:=(blk_cell HE3ye.out.at_ 2).trans rfl
      have hce3:=(blk_cell HE3ye.out.at_ 3).trans rfl
      refine hK.out _ _ ?_;clear hK K;refine normW (a':=?_) ?_ ?_;rotate_left
      ·show Act.put _ (some 56) _=_
       simp only [Act.put,sIb,sC0,sCs,i64_w,i32_w];rfl
      refine pW 5 60 ?_;refine pW 6 61 ?_;refine pW 7 62 ?_;refine pW 9 64 ?_;refine pW 10 65 ?_;refine pW 11 66 ?_
      refine twoW (i:=8) (j:=12) (Ni:=some 63) (Nj:=some 67) #[true,true,true,true,true,true,true,true,true,true,true,true,false,false,false,false,false,false] #[true,true,true,true,true,true,true,true,false,true,true,true,true,false,false,false,false,false] rfl rfl rfl rfl (by kernel_rfl) (fun K hK=>?_) (fun K hK=>?_)
      focus
       refine valueW (w1:=?_) (v:=?_) (by rfl) rfl ?_ ?_
       rotate_left 2
       ·go_simp
        constructor;(rfl);(rfl)
       refine hK.out _ _ ?_;clear hK K;refine normW (a':=?_) ?_ ?_;rotate_left
       ·show Act.put _ (some 63) _=_
        simp only [Act.put,sIb,sC0,sCs,i64_w,i32_w];rfl
       refine oW 12 (some 67) (fun K hK=>?_)
       refine valueW (w1:=?_) (v:=?_) (by rfl) rfl ?_ ?_
       rotate_left 2
       ·go_simp
        constructor;(rfl);(rfl)
       refine hK.out _ _ ?_;clear hK K;refine normW (a':=?_) ?_ ?_;rotate_left
       ·show Act.put _ (some 67) _=_
        simp only [Act.put,sIb,sC0,sCs,i64_w,i32_w];rfl
       refine oW 13 (some 68) (fun K hK=>?_)
       refine gW Try.func35 #[.agg #[.int .i64 e.f0,.int .i64 e.f1,.int .i64 e.f2,.bool e.f3]] ?_
       with_reducible refine (extent_end.calls e.f0 e.f1 e.f2 e.f3 en _ HENF.out).mono ?_
       rintro r6 w3yee ⟨rfl,hb3yee⟩
       refine ⟨_,rfl,?_⟩
       clear hce0 hce1 hce2 hce3
       have hbz3yee:∀ b∈bs,b < _:=fun b hb=>Nat.lt_trans (hbs b hb) (Nat.lt_trans (Nat.lt_succ_self d) (hRd _ HR3ye.out))
       have HI3yee:=am (hIB _ _ _ HI3ye.out hb3yee)
       have HR3yee:=am (hRB _ _ HR3ye.out hb3yee)
       have HBL3yee:=am (HBL3ye.out.below hbz3yee hb3yee)
       have HBF3yee:=am (HBF3ye.out.below hbz3yee hb3yee)
       have HBT3yee:=am (HBT3ye.out.below hbz3yee hb3yee)
       have HE3yee:=am (HE3ye.out.below hbz3yee hb3yee)
       clear hbz3yee
       have hce0:=(blk_cell HE3yee.out.at_ 0).trans rfl
       have hce1:=(blk_cell HE3yee.out.at_ 1).trans rfl
       have hce2:=(blk_cell HE3yee.out.at_ 2).trans rfl
       have hce3:=(blk_cell HE3yee.out.at_ 3).trans rfl
       refine hK.out _ _ ?_;clear hK K;refine normW (a':=?_) ?_ ?_;rotate_left
       ·show Act.put _ (some 68) _=_
        simp only [Act.put,sIb,sC0,sCs,i64_w,i32_w];rfl
       refine oW 14 (some 69) (fun K hK=>?_)
       refine gW Try.func67 #[.agg #[.int .i64 e.f0,.int .i64 e.f1,.int .i64 e.f2,.bool e.f3],.int .i64 mab,.int .i64 en] ?_
       with_reducible refine (part_calls e mab en _ HMY.out (by have:=HBD.out;omega) (by have:=HBD.out;omega) (by have:=HBD.out;omega) (by have:=HBD.out;omega)).mono ?_
       rintro r6 w3yep ⟨rfl,hb3yep⟩
       refine ⟨_,rfl,?_⟩
       clear hce0 hce1 hce2 hce3
       have hbz3yep:∀ b∈bs,b < _:=fun b hb=>Nat.lt_trans (hbs b hb) (Nat.lt_trans (Nat.lt_succ_self d) (hRd _ HR3yee.out))
       have HI3yep:=am (hIB _ _ _ HI3yee.out hb3yep)
       have HR3yep:=am (hRB _ _ HR3yee.out hb3yep)
       have HBL3yep:=am (HBL3yee.out.below hbz3yep hb3yep)
       have HBF3yep:=am (HBF3yee.out.below hbz3yep hb3yep)
       have HBT3yep:=am (HBT3yee.out.below hbz3yep hb3yep)
       have HE3yep:=am (HE3yee.out.below hbz3yep hb3yep)
       clear hbz3yep;refine hK.out _ _ ?_;clear hK K;refine normW (a':=?_) ?_ ?_;rotate_left
       ·show Act.put _ (some 69) _=_
        simp only [Act.put,sIb,sC0,sCs,i64_w,i32_w];rfl
       refine oW 15 (some 70) (fun K hK=>?_)
       refine yieldW #[.agg #[.int .i64 (partE e mab en).f0,.int .i64 (partE e mab en).f1,.int .i64 (partE e mab en).f2,.bool (partE e mab en).f3],.bool false] (by rfl) rfl rfl rfl (by simp only [List.map_toArray,List.map_cons,List.map_nil];rfl) (hY (P0++[(partE e e.f0 a,false)]) (partE e mab en,false) _ HI3yep.out HR3yep.out (by have:=HPN.out;have:=hN;(try simp only [List.length_append,List.length_cons,List.length_nil]);omega)) ?_
       intro r w3yey h9
       obtain ⟨rfl,hI3yey,hR3yey,hK3yey⟩:=h9.elim id (fun h=>by obtain ⟨_,c,hF,_⟩:=h;exact hF.elim)
       have HI3yey:=am hI3yey
       have HR3yey:=am hR3yey
       have HBL3yey:=am (HBL3yep.out.kept hK3yey)
       have HBF3yey:=am (HBF3yep.out.kept hK3yey)
       have HBT3yey:=am (HBT3yep.out.kept hK3yey)
       have HE3yey:=am (HE3yep.out.kept hK3yey)
       clear hI3yey hR3yey hK3yey
       refine ⟨_,rfl,?_⟩
       refine hK.out _ _ ?_;clear hK K;refine normW (a':=?_) ?_ ?_;rotate_left
       ·show Act.put _ (some 70) _=_
        simp only [Act.put,sIb,sC0,sCs,i64_w,i32_w];rfl
       refine pW 16 71 ?_;refine pW 17 72 ?_
       refine doneW (by kernel_rfl) ?_
      rotate_left 1
      focus
       refine valueW (w1:=?_) (v:=?_) (by rfl) rfl ?_ ?_
       rotate_left 2
       ·go_simp
        constructor;(rfl);(rfl)
       refine hK.out _ _ ?_;clear hK K;refine normW (a':=?_) ?_ ?_;rotate_left
       ·show Act.put _ (some 67) _=_
        simp only [Act.put,sIb,sC0,sCs,i64_w,i32_w];rfl
       refine twoW (i:=8) (j:=13) (Ni:=some 63) (Nj:=some 68) #[true,true,true,true,true,true,true,true,true,true,true,true,true,false,false,false,false,false] #[true,true,true,true,true,true,true,true,false,true,true,true,true,true,false,false,false,false] rfl rfl rfl rfl (by kernel_rfl) (fun K hK=>?_) (fun K hK=>?_)
       focus
        refine valueW (w1:=?_) (v:=?_) (by rfl) rfl ?_ ?_
        rotate_left 2
        ·go_simp
         constructor;(rfl);(rfl)
        refine hK.out _ _ ?_;clear hK K;refine normW (a':=?_) ?_ ?_;rotate_left
        ·show Act.put _ (some 63) _=_
         simp only [Act.put,sIb,sC0,sCs,i64_w,i32_w];rfl
        refine oW 13 (some 68) (fun K hK=>?_)
        refine gW Try.func35 #[.agg #[.int .i64 e.f0,.int .i64 e.f1,.int .i64 e.f2,.bool e.f3]] ?_
        with_reducible refine (extent_end.calls e.f0 e.f1 e.f2 e.f3 en _ HENF.out).mono ?_
        rintro r6 w3yee ⟨rfl,hb3yee⟩
        refine ⟨_,rfl,?_⟩
        clear hce0 hce1 hce2 hce3
        have hbz3yee:∀ b∈bs,b < _:=fun b hb=>Nat.lt_trans (hbs b hb) (Nat.lt_trans (Nat.lt_succ_self d) (hRd _ HR3ye.out))
        have HI3yee:=am (hIB _ _ _ HI3ye.out hb3yee)
        have HR3yee:=am (hRB _ _ HR3ye.out hb3yee)
        have HBL3yee:=am (HBL3ye.out.below hbz3yee hb3yee)
        have HBF3yee:=am (HBF3ye.out.below hbz3yee hb3yee)
        have HBT3yee:=am (HBT3ye.out.below hbz3yee hb3yee)
        have HE3yee:=am (HE3ye.out.below hbz3yee hb3yee)
        clear hbz3yee
        have hce0:=(blk_cell HE3yee.out.at_ 0).trans rfl
        have hce1:=(blk_cell HE3yee.out.at_ 1).trans rfl
        have hce2:=(blk_cell HE3yee.out.at_ 2).trans rfl
        have hce3:=(blk_cell HE3yee.out.at_ 3).trans rfl
        refine hK.out _ _ ?_;clear hK K;refine normW (a':=?_) ?_ ?_;rotate_left
        ·show Act.put _ (some 68) _=_
         simp only [Act.put,sIb,sC0,sCs,i64_w,i32_w];rfl
        refine oW 14 (some 69) (fun K hK=>?_)
        refine gW Try.func67 #[.agg #[.int .i64 e.f0,.int .i64 e.f1,.int .i64 e.f2,.bool e.f3],.int .i64 mab,.int .i64 en] ?_
        with_reducible refine (part_calls e mab en _ HMY.out (by have:=HBD.out;omega) (by have:=HBD.out;omega) (by have:=HBD.out;omega) (by have:=HBD.out;omega)).mono ?_
        rintro r6 w3yep ⟨rfl,hb3yep⟩
        refine ⟨_,rfl,?_⟩
        clear hce0 hce1 hce2 hce3
        have hbz3yep:∀ b∈bs,b < _:=fun b hb=>Nat.lt_trans (hbs b hb) (Nat.lt_trans (Nat.lt_succ_self d) (hRd _ HR3yee.out))
        have HI3yep:=am (hIB _ _ _ HI3yee.out hb3yep)
        have HR3yep:=am (hRB _ _ HR3yee.out hb3yep)
        have HBL3yep:=am (HBL3yee.out.below hbz3yep hb3yep)
        have HBF3yep:=am (HBF3yee.out.below hbz3yep hb3yep)
        have HBT3yep:=am (HBT3yee.out.below hbz3yep hb3yep)
        have HE3yep:=am (HE3yee.out.below hbz3yep hb3yep)
        clear hbz3yep;refine hK.out _ _ ?_;clear hK K;refine normW (a':=?_) ?_ ?_;rotate_left
        ·show Act.put _ (some 69) _=_
         simp only [Act.put,sIb,sC0,sCs,i64_w,i32_w];rfl
        refine oW 15 (some 70) (fun K hK=>?_)
        refine yieldW #[.agg #[.int .i64 (partE e mab en).f0,.int .i64 (partE e mab en).f1,.int .i64 (partE e mab en).f2,.bool (partE e mab en).f3],.bool false] (by rfl) rfl rfl rfl (by simp only [List.map_toArray,List.map_cons,List.map_nil];rfl) (hY (P0++[(partE e e.f0 a,false)]) (partE e mab en,false) _ HI3yep.out HR3yep.out (by have:=HPN.out;have:=hN;(try simp only [List.length_append,List.length_cons,List.length_nil]);omega)) ?_
        intro r w3yey h9
        obtain ⟨rfl,hI3yey,hR3yey,hK3yey⟩:=h9.elim id (fun h=>by obtain ⟨_,c,hF,_⟩:=h;exact hF.elim)
        have HI3yey:=am hI3yey
        have HR3yey:=am hR3yey
        have HBL3yey:=am (HBL3yep.out.kept hK3yey)
        have HBF3yey:=am (HBF3yep.out.kept hK3yey)
        have HBT3yey:=am (HBT3yep.out.kept hK3yey)
        have HE3yey:=am (HE3yep.out.kept hK3yey)
        clear hI3yey hR3yey hK3yey
        refine ⟨_,rfl,?_⟩
        refine hK.out _ _ ?_;clear hK K;refine normW (a':=?_) ?_ ?_;rotate_left
        ·show Act.put _ (some 70) _=_
         simp only [Act.put,sIb,sC0,sCs,i64_w,i32_w];rfl
        refine pW 16 71 ?_;refine pW 17 72 ?_
        refine doneW (by kernel_rfl) ?_
       rotate_left 1
       focus
        refine gW Try.func35 #[.agg #[.int .i64 e.f0,.int .i64 e.f1,.int .i64 e.f2,.bool e.f3]] ?_
        with_reducible refine (extent_end.calls e.f0 e.f1 e.f2 e.f3 en _ HENF.out).mono ?_
        rintro r6 w3yee ⟨rfl,hb3yee⟩
        refine ⟨_,rfl,?_⟩
        clear hce0 hce1 hce2 hce3
        have hbz3yee:∀ b∈bs,b < _:=fun b hb=>Nat.lt_trans (hbs b hb) (Nat.lt_trans (Nat.lt_succ_self d) (hRd _ HR3ye.out))
        have HI3yee:=am (hIB _ _ _ HI3ye.out hb3yee)
        have HR3yee:=am (hRB _ _ HR3ye.out hb3yee)
        have HBL3yee:=am (HBL3ye.out.below hbz3yee hb3yee)
        have HBF3yee:=am (HBF3ye.out.below hbz3yee hb3yee)
        have HBT3yee:=am (HBT3ye.out.below hbz3yee hb3yee)
        have HE3yee:=am (HE3ye.out.below hbz3yee hb3yee)
        clear hbz3yee
        have hce0:=(blk_cell HE3yee.out.at_ 0).trans rfl
        have hce1:=(blk_cell HE3yee.out.at_ 1).trans rfl
        have hce2:=(blk_cell HE3yee.out.at_ 2).trans rfl
        have hce3:=(blk_cell HE3yee.out.at_ 3).trans rfl
        refine hK.out _ _ ?_;clear hK K;refine normW (a':=?_) ?_ ?_;rotate_left
        ·show Act.put _ (some 68) _=_
         simp only [Act.put,sIb,sC0,sCs,i64_w,i32_w];rfl
        refine oW 8 (some 63) (fun K hK=>?_)
        refine valueW (w1:=?_) (v:=?_) (by rfl) rfl ?_ ?_
        rotate_left 2
        ·go_simp
         constructor;(rfl);(rfl)
        refine hK.out _ _ ?_;clear hK K;refine normW (a':=?_) ?_ ?_;rotate_left
        ·show Act.put _ (some 63) _=_
         simp only [Act.put,sIb,sC0,sCs,i64_w,i32_w];rfl
        refine oW 14 (some 69) (fun K hK=>?_)
        refine gW Try.func67 #[.agg #[.int .i64 e.f0,.int .i64 e.f1,.int .i64 e.f2,.bool e.f3],.int .i64 mab,.int .i64 en] ?_
        with_reducible refine (part_calls e mab en _ HMY.out (by have:=HBD.out;omega) (by have:=HBD.out;omega) (by have:=HBD.out;omega) (by have:=HBD.out;omega)).mono ?_
        rintro r6 w3yep ⟨rfl,hb3yep⟩
        refine ⟨_,rfl,?_⟩
        clear hce0 hce1 hce2 hce3
        have hbz3yep:∀ b∈bs,b < _:=fun b hb=>Nat.lt_trans (hbs b hb) (Nat.lt_trans (Nat.lt_succ_self d) (hRd _ HR3yee.out))
        have HI3yep:=am (hIB _ _ _ HI3yee.out hb3yep)
        have HR3yep:=am (hRB _ _ HR3yee.out hb3yep)
        have HBL3yep:=am (HBL3yee.out.below hbz3yep hb3yep)
        have HBF3yep:=am (HBF3yee.out.below hbz3yep hb3yep)
        have HBT3yep:=am (HBT3yee.out.below hbz3yep hb3yep)
        have HE3yep:=am (HE3yee.out.below hbz3yep hb3yep)
        clear hbz3yep;refine hK.out _ _ ?_;clear hK K;refine normW (a':=?_) ?_ ?_;rotate_left
        ·show Act.put _ (some 69) _=_
         simp only [Act.put,sIb,sC0,sCs,i64_w,i32_w];rfl
        refine oW 15 (some 70) (fun K hK=>?_)
        refine yieldW #[.agg #[.int .i64 (partE e mab en).f0,.int .i64 (partE e mab en).f1,.int .i64 (partE e mab en).f2,.bool (partE e mab en).f3],.bool false] (by rfl) rfl rfl rfl (by simp only [List.map_toArray,List.map_cons,List.map_nil];rfl) (hY (P0++[(partE e e.f0 a,false)]) (partE e mab en,false) _ HI3yep.out HR3yep.out (by have:=HPN.out;have:=hN;(try simp only [List.length_append,List.length_cons,List.length_nil]);omega)) ?_
        intro r w3yey h9
        obtain ⟨rfl,hI3yey,hR3yey,hK3yey⟩:=h9.elim id (fun h=>by obtain ⟨_,c,hF,_⟩:=h;exact hF.elim)
        have HI3yey:=am hI3yey
        have HR3yey:=am hR3yey
        have HBL3yey:=am (HBL3yep.out.kept hK3yey)
        have HBF3yey:=am (HBF3yep.out.kept hK3yey)
        have HBT3yey:=am (HBT3yep.out.kept hK3yey)
        have HE3yey:=am (HE3yep.out.kept hK3yey)
        clear hI3yey hR3yey hK3yey
        refine ⟨_,rfl,?_⟩
        refine hK.out _ _ ?_;clear hK K;refine normW (a':=?_) ?_ ?_;rotate_left
        ·show Act.put _ (some 70) _=_
         simp only [Act.put,sIb,sC0,sCs,i64_w,i32_w];rfl
        refine pW 16 71 ?_;refine pW 17 72 ?_
        refine doneW (by kernel_rfl) ?_
      all_goals
       have HQ:=am (show ((P0++[(partE e e.f0 a,false)])++[(partE e mab en,false)])=piecesL (L.take (i+1)) lo hi by
        rw [HE.out]
        unfold piecesL
        rw [List.flatMap_append,List.flatMap_cons,List.flatMap_nil,List.append_nil]
        show _=piecesL (L.take i) lo hi++pieces3 e lo hi
        rw [← HP.out]
        unfold pieces3
        rw [HA.out,HB.out,HMAB.out,HEN.out,if_pos (by have:=HC1.out;omega),if_neg (by have:=HC2.out;omega),if_pos (by have:=HC3.out;omega)];simp)
       gi_wp2
       go_wp2
       go_roundg g
       case measure=>omega
       case rel=>exact ⟨i+1,by rw [HIW.out],⟨by have:=HK.out;omega⟩,⟨by rw [← HQ.out];exact HI3yey.out⟩,HR3yey,HBL3yey,HBF3yey,HBT3yey⟩
     ·skip
      have hd1:decide (e.f0 < a)=true:=decide_eq_true hc1
      have HC1:=am hc1
      have hd2:decide (a < b)=false:=decide_eq_false hc2
      have HC2:=am hc2
      have hd3:decide (mab < en)=false:=decide_eq_false hc3
      have HC3:=am hc3
      clear hc1 hc2 hc3
      have hce0:=(blk_cell HE3.out.at_ 0).trans rfl
      have hce1:=(blk_cell HE3.out.at_ 1).trans rfl
      have hce2:=(blk_cell HE3.out.at_ 2).trans rfl
      have hce3:=(blk_cell HE3.out.at_ 3).trans rfl
      gi_wp2_with (first|(refine ⟨trivial,?_⟩;gi_at_call 67;refine (callsIn_wide.2 (part_calls e e.f0 a _ HMY.out (by have:=HBD.out;omega) (by have:=HBD.out;omega) (by have:=HBD.out;omega) (by have:=HBD.out;omega))).mono ?_;rintro r w3c ⟨rfl,hb3c⟩;have hbz3c:∀ b∈bs,b < _:=fun b hb=>Nat.lt_trans (hbs b hb) (Nat.lt_trans (Nat.lt_succ_self d) (hRd _ HR3.out));have HI3c:=am (hIB _ _ _ HI3.out hb3c);have HR3c:=am (hRB _ _ HR3.out hb3c);have HBL3c:=am (HBL3.out.below hbz3c hb3c);have HBF3c:=am (HBF3.out.below hbz3c hb3c);have HBT3c:=am (HBT3.out.below hbz3c hb3c);have HE3c:=am (HE3.out.below hbz3c hb3c);clear hbz3c;obtain ⟨fn,tmps,assign,body,hy,hRd4⟩:=hY P0 (partE e e.f0 a,false) w3c HI3c.out HR3c.out (by have:=HPN.out;have:=hN;(try simp only [List.length_append,List.length_cons,List.length_nil]);omega))|((with_reducible refine And.intro ?_ ?_);(first|exact trivial|exact fun _ _=>trivial)))
      refine hRd4.mono ?_
      clear hce0 hce1 hce2 hce3
      intro r w3y h9
      obtain ⟨rfl,hI3y,hR3y,hK3y⟩:=h9.elim id (fun h=>by obtain ⟨_,c,hF,_⟩:=h;exact hF.elim)
      have HI3y:=am hI3y
      have HR3y:=am hR3y
      have HBL3y:=am (HBL3c.out.kept hK3y)
      have HBF3y:=am (HBF3c.out.kept hK3y)
      have HBT3y:=am (HBT3c.out.kept hK3y)
      have HE3y:=am (HE3c.out.kept hK3y)
      clear hI3y hR3y hK3y hy hRd4
      have hce0:=(blk_cell HE3y.out.at_ 0).trans rfl
      have hce1:=(blk_cell HE3y.out.at_ 1).trans rfl
      have hce2:=(blk_cell HE3y.out.at_ 2).trans rfl
      have hce3:=(blk_cell HE3y.out.at_ 3).trans rfl
      gi_wp2_with ((with_reducible refine And.intro ?_ ?_);(first|exact trivial|exact fun _ _=>trivial))
      refine startW (m:=18) _ (by kernel_rfl) rfl rfl ?_;refine pW 2 57 ?_;refine pW 3 58 ?_;refine pW 4 59 ?_
      refine oW 0 (some 55) (fun K hK=>?_)
      refine valueW (w1:=?_) (v:=?_) (by rfl) rfl ?_ ?_
      rotate_left 2
      ·go_simp
       constructor;(rfl);(rfl)
      refine hK.out _ _ ?_;clear hK K;refine normW (a':=?_) ?_ ?_;rotate_left
      ·show Act.put _ (some 55) _=_
       simp only [Act.put,sIb,sC0,sCs,i64_w,i32_w];rfl
      refine oW 1 (some 56) (fun K hK=>?_)
      refine gW Try.func35 #[.agg #[.int .i64 e.f0,.int .i64 e.f1,.int .i64 e.f2,.bool e.f3]] ?_
      with_reducible refine (extent_end.calls e.f0 e.f1 e.f2 e.f3 en _ HENF.out).mono ?_
      rintro r6 w3ye ⟨rfl,hb3ye⟩
      refine ⟨_,rfl,?_⟩
      clear hce0 hce1 hce2 hce3
      replace hb3ye:=(below_drew1 (Below.refl _ w3y)).trans (hb3ye.mono (Nat.le_refl _))
      have hbz3ye:∀ b∈bs,b < _:=fun b hb=>Nat.lt_trans (hbs b hb) (Nat.lt_trans (Nat.lt_succ_self d) (hRd _ HR3y.out))
      have HI3ye:=am (hIB _ _ _ HI3y.out hb3ye)
      have HR3ye:=am (hRB _ _ HR3y.out hb3ye)
      have HBL3ye:=am (HBL3y.out.below hbz3ye hb3ye)
      have HBF3ye:=am (HBF3y.out.below hbz3ye hb3ye)
      have HBT3ye:=am (HBT3y.out.below hbz3ye hb3ye)
      have HE3ye:=am (HE3y.out.below hbz3ye hb3ye)
      clear hbz3ye
      have hce0:=(blk_cell HE3ye.out.at_ 0).trans rfl
      have hce1:=(blk_cell HE3ye.out.at_ 1).trans rfl
      have hce2:=(blk_cell HE3ye.out.at_ 2).trans rfl
      have hce3:=(blk_cell HE3ye.out.at_ 3).trans rfl
      refine hK.out _ _ ?_;clear hK K;refine normW (a':=?_) ?_ ?_;rotate_left
      ·show Act.put _ (some 56) _=_
       simp only [Act.put,sIb,sC0,sCs,i64_w,i32_w];rfl
      refine pW 5 60 ?_;refine pW 6 61 ?_;refine uW 7 62 ?_;refine uW 8 63 ?_;refine uW 9 64 ?_;refine uW 10 65 ?_;refine uW 11 66 ?_;refine uW 12 67 ?_
      refine oW 13 (some 68) (fun K hK=>?_)
      refine offW (by rfl) ?_
      refine hK.out _ _ ?_;clear hK K;refine normW (a':=?_) ?_ ?_;rotate_left
      ·show Act.put _ (some 68) _=_
       simp only [Act.put,sIb,sC0,sCs,i64_w,i32_w];rfl
      refine oW 14 (some 69) (fun K hK=>?_)
      refine offW (by rfl) ?_
      refine hK.out _ _ ?_;clear hK K;refine normW (a':=?_) ?_ ?_;rotate_left
      ·show Act.put _ (some 69) _=_
       simp only [Act.put,sIb,sC0,sCs,i64_w,i32_w];rfl
      refine oW 15 (some 70) (fun K hK=>?_)
      refine offW (by rfl) ?_
      refine hK.out _ _ ?_;clear hK K;refine normW (a':=?_) ?_ ?_;rotate_left
      ·show Act.put _ (some 70) _=_
       simp only [Act.put,sIb,sC0,sCs,i64_w,i32_w];rfl
      refine uW 16 71 ?_;refine pW 17 72 ?_
      refine doneW (by kernel_rfl) ?_
      all_goals
       have HQ:=am (show (P0++[(partE e e.f0 a,false)])=piecesL (L.take (i+1)) lo hi by
        rw [HE.out]
        unfold piecesL
        rw [List.flatMap_append,List.flatMap_cons,List.flatMap_nil,List.append_nil]
        show _=piecesL (L.take i) lo hi++pieces3 e lo hi
        rw [← HP.out]
        unfold pieces3
        rw [HA.out,HB.out,HMAB.out,HEN.out,if_pos (by have:=HC1.out;omega),if_neg (by have:=HC2.out;omega),if_neg (by have:=HC3.out;omega)];simp)
       gi_wp2
       go_wp2
       go_roundg g
       case measure=>omega
       case rel=>exact ⟨i+1,by rw [HIW.out],⟨by have:=HK.out;omega⟩,⟨by rw [← HQ.out];exact HI3ye.out⟩,HR3ye,HBL3ye,HBF3ye,HBT3ye⟩
   ·by_cases hc2:a < b
    ·by_cases hc3:mab < en
     ·skip
      have hd1:decide (e.f0 < a)=false:=decide_eq_false hc1
      have HC1:=am hc1
      have hd2:decide (a < b)=true:=decide_eq_true hc2
      have HC2:=am hc2
      have hd3:decide (mab < en)=true:=decide_eq_true hc3
      have HC3:=am hc3
      clear hc1 hc2 hc3
      have hce0:=(blk_cell HE3.out.at_ 0).trans rfl
      have hce1:=(blk_cell HE3.out.at_ 1).trans rfl
      have hce2:=(blk_cell HE3.out.at_ 2).trans rfl
      have hce3:=(blk_cell HE3.out.at_ 3).trans rfl
      gi_wp2_with (first|(refine ⟨trivial,?_⟩;gi_at_call 67;refine (callsIn_wide.2 (part_calls e a b _ HMY.out (by have:=HBD.out;omega) (by have:=HBD.out;omega) (by have:=HBD.out;omega) (by have:=HBD.out;omega))).mono ?_;rintro r w3c ⟨rfl,hb3c⟩;have hbz3c:∀ b∈bs,b < _:=fun b hb=>Nat.lt_trans (hbs b hb) (Nat.lt_trans (Nat.lt_succ_self d) (hRd _ HR3.out));have HI3c:=am (hIB _ _ _ HI3.out hb3c);have HR3c:=am (hRB _ _ HR3.out hb3c);have HBL3c:=am (HBL3.out.below hbz3c hb3c);have HBF3c:=am (HBF3.out.below hbz3c hb3c);have HBT3c:=am (HBT3.out.below hbz3c hb3c);have HE3c:=am (HE3.out.below hbz3c hb3c);clear hbz3c;obtain ⟨fn,tmps,assign,body,hy,hRd5⟩:=hY P0 (partE e a b,true) w3c HI3c.out HR3c.out (by have:=HPN.out;have:=hN;(try simp only [List.length_append,List.length_cons,List.length_nil]);omega))|((with_reducible refine And.intro ?_ ?_);(first|exact trivial|exact fun _ _=>trivial)))
      refine hRd5.mono ?_
      clear hce0 hce1 hce2 hce3
      intro r w3y h9
      obtain ⟨rfl,hI3y,hR3y,hK3y⟩:=h9.elim id (fun h=>by obtain ⟨_,c,hF,_⟩:=h;exact hF.elim)
      have HI3y:=am hI3y
      have HR3y:=am hR3y
      have HBL3y:=am (HBL3c.out.kept hK3y)
      have HBF3y:=am (HBF3c.out.kept hK3y)
      have HBT3y:=am (HBT3c.out.kept hK3y)
      have HE3y:=am (HE3c.out.kept hK3y)
      clear hI3y hR3y hK3y hy hRd5
      have hce0:=(blk_cell HE3y.out.at_ 0).trans rfl
      have hce1:=(blk_cell HE3y.out.at_ 1).trans rfl
      have hce2:=(blk_cell HE3y.out.at_ 2).trans rfl
      have hce3:=(blk_cell HE3y.out.at_ 3).trans rfl
      gi_wp2_with ((with_reducible refine And.intro ?_ ?_);(first|exact trivial|exact fun _ _=>trivial))
      refine startW (m:=18) _ (by kernel_rfl) rfl rfl ?_;refine pW 2 57 ?_;refine pW 3 58 ?_;refine pW 4 59 ?_
      refine oW 0 (some 55) (fun K hK=>?_)
      refine valueW (w1:=?_) (v:=?_) (by rfl) rfl ?_ ?_
      rotate_left 2
      ·go_simp
       constructor;(rfl);(rfl)
      refine hK.out _ _ ?_;clear hK K;refine normW (a':=?_) ?_ ?_;rotate_left
      ·show Act.put _ (some 55) _=_
       simp only [Act.put,sIb,sC0,sCs,i64_w,i32_w];rfl
      refine oW 1 (some 56) (fun K hK=>?_)
      refine gW Try.func35 #[.agg #[.int .i64 e.f0,.int .i64 e.f1,.int .i64 e.f2,.bool e.f3]] ?_
      with_reducible refine (extent_end.calls e.f0 e.f1 e.f2 e.f3 en _ HENF.out).mono ?_
      rintro r6 w3ye ⟨rfl,hb3ye⟩
      refine ⟨_,rfl,?_⟩
      clear hce0 hce1 hce2 hce3
      replace hb3ye:=(below_drew1 (Below.refl _ w3y)).trans (hb3ye.mono (Nat.le_refl _))
      have hbz3ye:∀ b∈bs,b < _:=fun b hb=>Nat.lt_trans (hbs b hb) (Nat.lt_trans (Nat.lt_succ_self d) (hRd _ HR3y.out))
      have HI3ye:=am (hIB _ _ _ HI3y.out hb3ye)
      have HR3ye:=am (hRB _ _ HR3y.out hb3ye)
      have HBL3ye:=am (HBL3y.out.below hbz3ye hb3ye)
      have HBF3ye:=am (HBF3y.out.below hbz3ye hb3ye)
      have HBT3ye:=am (HBT3y.out.below hbz3ye hb3ye)
      have HE3ye:=am (HE3y.out.below hbz3ye hb3ye)
      clear hbz3ye
      have hce0:=(blk_cell HE3ye.out.at_ 0).trans rfl
      have hce1:=(blk_cell HE3ye.out.at_ 1).trans rfl
      have hce2:=(blk_cell HE3ye.out.at_ 2).trans rfl
      have hce3:=(blk_cell HE3ye.out.at_ 3).trans rfl
      refine hK.out _ _ ?_;clear hK K;refine normW (a':=?_) ?_ ?_;rotate_left
      ·show Act.put _ (some 56) _=_
       simp only [Act.put,sIb,sC0,sCs,i64_w,i32_w];rfl
      refine pW 5 60 ?_;refine pW 6 61 ?_;refine pW 7 62 ?_;refine pW 9 64 ?_;refine pW 10 65 ?_;refine pW 11 66 ?_
      refine twoW (i:=8) (j:=12) (Ni:=some 63) (Nj:=some 67) #[true,true,true,true,true,true,true,true,true,true,true,true,false,false,false,false,false,false] #[true,true,true,true,true,true,true,true,false,true,true,true,true,false,false,false,false,false] rfl rfl rfl rfl (by kernel_rfl) (fun K hK=>?_) (fun K hK=>?_)
      focus
       refine valueW (w1:=?_) (v:=?_) (by rfl) rfl ?_ ?_
       rotate_left 2
       ·go_simp
        constructor;(rfl);(rfl)
       refine hK.out _ _ ?_;clear hK K;refine normW (a':=?_) ?_ ?_;rotate_left
       ·show Act.put _ (some 63) _=_
        simp only [Act.put,sIb,sC0,sCs,i64_w,i32_w];rfl
       refine oW 12 (some 67) (fun K hK=>?_)
       refine valueW (w1:=?_) (v:=?_) (by rfl) rfl ?_ ?_
       rotate_left 2
       ·go_simp
        constructor;(rfl);(rfl)
       refine hK.out _ _ ?_;clear hK K;refine normW (a':=?_) ?_ ?_;rotate_left
       ·show Act.put _ (some 67) _=_
        simp only [Act.put,sIb,sC0,sCs,i64_w,i32_w];rfl
       refine oW 13 (some 68) (fun K hK=>?_)
       refine gW Try.func35 #[.agg #[.int .i64 e.f0,.int .i64 e.f1,.int .i64 e.f2,.bool e.f3]] ?_
       with_reducible refine (extent_end.calls e.f0 e.f1 e.f2 e.f3 en _ HENF.out).mono ?_
       rintro r6 w3yee ⟨rfl,hb3yee⟩
       refine ⟨_,rfl,?_⟩
       clear hce0 hce1 hce2 hce3
       have hbz3yee:∀ b∈bs,b < _:=fun b hb=>Nat.lt_trans (hbs b hb) (Nat.lt_trans (Nat.lt_succ_self d) (hRd _ HR3ye.out))
       have HI3yee:=am (hIB _ _ _ HI3ye.out hb3yee)
       have HR3yee:=am (hRB _ _ HR3ye.out hb3yee)
       have HBL3yee:=am (HBL3ye.out.below hbz3yee hb3yee)
       have HBF3yee:=am (HBF3ye.out.below hbz3yee hb3yee)
       have HBT3yee:=am (HBT3ye.out.below hbz3yee hb3yee)
       have HE3yee:=am (HE3ye.out.below hbz3yee hb3yee)
       clear hbz3yee
       have hce0:=(blk_cell HE3yee.out.at_ 0).trans rfl
       have hce1:=(blk_cell HE3yee.out.at_ 1).trans rfl
       have hce2:=(blk_cell HE3yee.out.at_ 2).trans rfl
       have hce3:=(blk_cell HE3yee.out.at_ 3).trans rfl
       refine hK.out _ _ ?_;clear hK K;refine normW (a':=?_) ?_ ?_;rotate_left
       ·show Act.put _ (some 68) _=_
        simp only [Act.put,sIb,sC0,sCs,i64_w,i32_w];rfl
       refine oW 14 (some 69) (fun K hK=>?_)
       refine gW Try.func67 #[.agg #[.int .i64 e.f0,.int .i64 e.f1,.int .i64 e.f2,.bool e.f3],.int .i64 mab,.int .i64 en] ?_
       with_reducible refine (part_calls e mab en _ HMY.out (by have:=HBD.out;omega) (by have:=HBD.out;omega) (by have:=HBD.out;omega) (by have:=HBD.out;omega)).mono ?_
       rintro r6 w3yep ⟨rfl,hb3yep⟩
       refine ⟨_,rfl,?_⟩
       clear hce0 hce1 hce2 hce3
       have hbz3yep:∀ b∈bs,b < _:=fun b hb=>Nat.lt_trans (hbs b hb) (Nat.lt_trans (Nat.lt_succ_self d) (hRd _ HR3yee.out))
       have HI3yep:=am (hIB _ _ _ HI3yee.out hb3yep)
       have HR3yep:=am (hRB _ _ HR3yee.out hb3yep)
       have HBL3yep:=am (HBL3yee.out.below hbz3yep hb3yep)
       have HBF3yep:=am (HBF3yee.out.below hbz3yep hb3yep)
       have HBT3yep:=am (HBT3yee.out.below hbz3yep hb3yep)
       have HE3yep:=am (HE3yee.out.below hbz3yep hb3yep)
       clear hbz3yep;refine hK.out _ _ ?_;clear hK K;refine normW (a':=?_) ?_ ?_;rotate_left
       ·show Act.put _ (some 69) _=_
        simp only [Act.put,sIb,sC0,sCs,i64_w,i32_w];rfl
       refine oW 15 (some 70) (fun K hK=>?_)
       refine yieldW #[.agg #[.int .i64 (partE e mab en).f0,.int .i64 (partE e mab en).f1,.int .i64 (partE e mab en).f2,.bool (partE e mab en).f3],.bool false] (by rfl) rfl rfl rfl (by simp only [List.map_toArray,List.map_cons,List.map_nil];rfl) (hY (P0++[(partE e a b,true)]) (partE e mab en,false) _ HI3yep.out HR3yep.out (by have:=HPN.out;have:=hN;(try simp only [List.length_append,List.length_cons,List.length_nil]);omega)) ?_
       intro r w3yey h9
       obtain ⟨rfl,hI3yey,hR3yey,hK3yey⟩:=h9.elim id (fun h=>by obtain ⟨_,c,hF,_⟩:=h;exact hF.elim)
       have HI3yey:=am hI3yey
       have HR3yey:=am hR3yey
       have HBL3yey:=am (HBL3yep.out.kept hK3yey)
       have HBF3yey:=am (HBF3yep.out.kept hK3yey)
       have HBT3yey:=am (HBT3yep.out.kept hK3yey)
       have HE3yey:=am (HE3yep.out.kept hK3yey)
       clear hI3yey hR3yey hK3yey
       refine ⟨_,rfl,?_⟩
       refine hK.out _ _ ?_;clear hK K;refine normW (a':=?_) ?_ ?_;rotate_left
       ·show Act.put _ (some 70) _=_
        simp only [Act.put,sIb,sC0,sCs,i64_w,i32_w];rfl
       refine pW 16 71 ?_;refine pW 17 72 ?_
       refine doneW (by kernel_rfl) ?_
      rotate_left 1
      focus
       refine valueW (w1:=?_) (v:=?_) (by rfl) rfl ?_ ?_
       rotate_left 2
       ·go_simp
        constructor;(rfl);(rfl)
       refine hK.out _ _ ?_;clear hK K;refine normW (a':=?_) ?_ ?_;rotate_left
       ·show Act.put _ (some 67) _=_
        simp only [Act.put,sIb,sC0,sCs,i64_w,i32_w];rfl
       refine twoW (i:=8) (j:=13) (Ni:=some 63) (Nj:=some 68) #[true,true,true,true,true,true,true,true,true,true,true,true,true,false,false,false,false,false] #[true,true,true,true,true,true,true,true,false,true,true,true,true,true,false,false,false,false] rfl rfl rfl rfl (by kernel_rfl) (fun K hK=>?_) (fun K hK=>?_)
       focus
        refine valueW (w1:=?_) (v:=?_) (by rfl) rfl ?_ ?_
        rotate_left 2
        ·go_simp
         constructor;(rfl);(rfl)
        refine hK.out _ _ ?_;clear hK K;refine normW (a':=?_) ?_ ?_;rotate_left
        ·show Act.put _ (some 63) _=_
         simp only [Act.put,sIb,sC0,sCs,i64_w,i32_w];rfl
        refine oW 13 (some 68) (fun K hK=>?_)
        refine gW Try.func35 #[.agg #[.int .i64 e.f0,.int .i64 e.f1,.int .i64 e.f2,.bool e.f3]] ?_
        with_reducible refine (extent_end.calls e.f0 e.f1 e.f2 e.f3 en _ HENF.out).mono ?_
        rintro r6 w3yee ⟨rfl,hb3yee⟩
        refine ⟨_,rfl,?_⟩
        clear hce0 hce1 hce2 hce3
        have hbz3yee:∀ b∈bs,b < _:=fun b hb=>Nat.lt_trans (hbs b hb) (Nat.lt_trans (Nat.lt_succ_self d) (hRd _ HR3ye.out))
        have HI3yee:=am (hIB _ _ _ HI3ye.out hb3yee)
        have HR3yee:=am (hRB _ _ HR3ye.out hb3yee)
        have HBL3yee:=am (HBL3ye.out.below hbz3yee hb3yee)
        have HBF3yee:=am (HBF3ye.out.below hbz3yee hb3yee)
        have HBT3yee:=am (HBT3ye.out.below hbz3yee hb3yee)
        have HE3yee:=am (HE3ye.out.below hbz3yee hb3yee)
        clear hbz3yee
        have hce0:=(blk_cell HE3yee.out.at_ 0).trans rfl
        have hce1:=(blk_cell HE3yee.out.at_ 1).trans rfl
        have hce2:=(blk_cell HE3yee.out.at_ 2).trans rfl
        have hce3:=(blk_cell HE3yee.out.at_ 3).trans rfl
        refine hK.out _ _ ?_;clear hK K;refine normW (a':=?_) ?_ ?_;rotate_left
        ·show Act.put _ (some 68) _=_
         simp only [Act.put,sIb,sC0,sCs,i64_w,i32_w];rfl
        refine oW 14 (some 69) (fun K hK=>?_)
        refine gW Try.func67 #[.agg #[.int .i64 e.f0,.int .i64 e.f1,.int .i64 e.f2,.bool e.f3],.int .i64 mab,.int .i64 en] ?_
        with_reducible refine (part_calls e mab en _ HMY.out (by have:=HBD.out;omega) (by have:=HBD.out;omega) (by have:=HBD.out;omega) (by have:=HBD.out;omega)).mono ?_
        rintro r6 w3yep ⟨rfl,hb3yep⟩
        refine ⟨_,rfl,?_⟩
        clear hce0 hce1 hce2 hce3
        have hbz3yep:∀ b∈bs,b < _:=fun b hb=>Nat.lt_trans (hbs b hb) (Nat.lt_trans (Nat.lt_succ_self d) (hRd _ HR3yee.out))
        have HI3yep:=am (hIB _ _ _ HI3yee.out hb3yep)
        have HR3yep:=am (hRB _ _ HR3yee.out hb3yep)
        have HBL3yep:=am (HBL3yee.out.below hbz3yep hb3yep)
        have HBF3yep:=am (HBF3yee.out.below hbz3yep hb3yep)
        have HBT3yep:=am (HBT3yee.out.below hbz3yep hb3yep)
        have HE3yep:=am (HE3yee.out.below hbz3yep hb3yep)
        clear hbz3yep;refine hK.out _ _ ?_;clear hK K;refine normW (a':=?_) ?_ ?_;rotate_left
        ·show Act.put _ (some 69) _=_
         simp only [Act.put,sIb,sC0,sCs,i64_w,i32_w];rfl
        refine oW 15 (some 70) (fun K hK=>?_)
        refine yieldW #[.agg #[.int .i64 (partE e mab en).f0,.int .i64 (partE e mab en).f1,.int .i64 (partE e mab en).f2,.bool (partE e mab en).f3],.bool false] (by rfl) rfl rfl rfl (by simp only [List.map_toArray,List.map_cons,List.map_nil];rfl) (hY (P0++[(partE e a b,true)]) (partE e mab en,false) _ HI3yep.out HR3yep.out (by have:=HPN.out;have:=hN;(try simp only [List.length_append,List.length_cons,List.length_nil]);omega)) ?_
        intro r w3yey h9
        obtain ⟨rfl,hI3yey,hR3yey,hK3yey⟩:=h9.elim id (fun h=>by obtain ⟨_,c,hF,_⟩:=h;exact hF.elim)
        have HI3yey:=am hI3yey
        have HR3yey:=am hR3yey
        have HBL3yey:=am (HBL3yep.out.kept hK3yey)
        have HBF3yey:=am (HBF3yep.out.kept hK3yey)
        have HBT3yey:=am (HBT3yep.out.kept hK3yey)
        have HE3yey:=am (HE3yep.out.kept hK3yey)
        clear hI3yey hR3yey hK3yey
        refine ⟨_,rfl,?_⟩
        refine hK.out _ _ ?_;clear hK K;refine normW (a':=?_) ?_ ?_;rotate_left
        ·show Act.put _ (some 70) _=_
         simp only [Act.put,sIb,sC0,sCs,i64_w,i32_w];rfl
        refine pW 16 71 ?_;refine pW 17 72 ?_
        refine doneW (by kernel_rfl) ?_
       rotate_left 1
       focus
        refine gW Try.func35 #[.agg #[.int .i64 e.f0,.int .i64 e.f1,.int .i64 e.f2,.bool e.f3]] ?_
        with_reducible refine (extent_end.calls e.f0 e.f1 e.f2 e.f3 en _ HENF.out).mono ?_
        rintro r6 w3yee ⟨rfl,hb3yee⟩
        refine ⟨_,rfl,?_⟩
        clear hce0 hce1 hce2 hce3
        have hbz3yee:∀ b∈bs,b < _:=fun b hb=>Nat.lt_trans (hbs b hb) (Nat.lt_trans (Nat.lt_succ_self d) (hRd _ HR3ye.out))
        have HI3yee:=am (hIB _ _ _ HI3ye.out hb3yee)
        have HR3yee:=am (hRB _ _ HR3ye.out hb3yee)
        have HBL3yee:=am (HBL3ye.out.below hbz3yee hb3yee)
        have HBF3yee:=am (HBF3ye.out.below hbz3yee hb3yee)
        have HBT3yee:=am (HBT3ye.out.below hbz3yee hb3yee)
        have HE3yee:=am (HE3ye.out.below hbz3yee hb3yee)
        clear hbz3yee
        have hce0:=(blk_cell HE3yee.out.at_ 0).trans rfl
        have hce1:=(blk_cell HE3yee.out.at_ 1).trans rfl
        have hce2:=(blk_cell HE3yee.out.at_ 2).trans rfl
        have hce3:=(blk_cell HE3yee.out.at_ 3).trans rfl
        refine hK.out _ _ ?_;clear hK K;refine normW (a':=?_) ?_ ?_;rotate_left
        ·show Act.put _ (some 68) _=_
         simp only [Act.put,sIb,sC0,sCs,i64_w,i32_w];rfl
        refine oW 8 (some 63) (fun K hK=>?_)
        refine valueW (w1:=?_) (v:=?_) (by rfl) rfl ?_ ?_
        rotate_left 2
        ·go_simp
         constructor;(rfl);(rfl)
        refine hK.out _ _ ?_;clear hK K;refine normW (a':=?_) ?_ ?_;rotate_left
        ·show Act.put _ (some 63) _=_
         simp only [Act.put,sIb,sC0,sCs,i64_w,i32_w];rfl
        refine oW 14 (some 69) (fun K hK=>?_)
        refine gW Try.func67 #[.agg #[.int .i64 e.f0,.int .i64 e.f1,.int .i64 e.f2,.bool e.f3],.int .i64 mab,.int .i64 en] ?_
        with_reducible refine (part_calls e mab en _ HMY.out (by have:=HBD.out;omega) (by have:=HBD.out;omega) (by have:=HBD.out;omega) (by have:=HBD.out;omega)).mono ?_
        rintro r6 w3yep ⟨rfl,hb3yep⟩
        refine ⟨_,rfl,?_⟩
        clear hce0 hce1 hce2 hce3
        have hbz3yep:∀ b∈bs,b < _:=fun b hb=>Nat.lt_trans (hbs b hb) (Nat.lt_trans (Nat.lt_succ_self d) (hRd _ HR3yee.out))
        have HI3yep:=am (hIB _ _ _ HI3yee.out hb3yep)
        have HR3yep:=am (hRB _ _ HR3yee.out hb3yep)
        have HBL3yep:=am (HBL3yee.out.below hbz3yep hb3yep)
        have HBF3yep:=am (HBF3yee.out.below hbz3yep hb3yep)
        have HBT3yep:=am (HBT3yee.out.below hbz3yep hb3yep)
        have HE3yep:=am (HE3yee.out.below hbz3yep hb3yep)
        clear hbz3yep;refine hK.out _ _ ?_;clear hK K;refine normW (a':=?_) ?_ ?_;rotate_left
        ·show Act.put _ (some 69) _=_
         simp only [Act.put,sIb,sC0,sCs,i64_w,i32_w];rfl
        refine oW 15 (some 70) (fun K hK=>?_)
        refine yieldW #[.agg #[.int .i64 (partE e mab en).f0,.int .i64 (partE e mab en).f1,.int .i64 (partE e mab en).f2,.bool (partE e mab en).f3],.bool false] (by rfl) rfl rfl rfl (by simp only [List.map_toArray,List.map_cons,List.map_nil];rfl) (hY (P0++[(partE e a b,true)]) (partE e mab en,false) _ HI3yep.out HR3yep.out (by have:=HPN.out;have:=hN;(try simp only [List.length_append,List.length_cons,List.length_nil]);omega)) ?_
        intro r w3yey h9
        obtain ⟨rfl,hI3yey,hR3yey,hK3yey⟩:=h9.elim id (fun h=>by obtain ⟨_,c,hF,_⟩:=h;exact hF.elim)
        have HI3yey:=am hI3yey
        have HR3yey:=am hR3yey
        have HBL3yey:=am (HBL3yep.out.kept hK3yey)
        have HBF3yey:=am (HBF3yep.out.kept hK3yey)
        have HBT3yey:=am (HBT3yep.out.kept hK3yey)
        have HE3yey:=am (HE3yep.out.kept hK3yey)
        clear hI3yey hR3yey hK3yey
        refine ⟨_,rfl,?_⟩
        refine hK.out _ _ ?_;clear hK K;refine normW (a':=?_) ?_ ?_;rotate_left
        ·show Act.put _ (some 70) _=_
         simp only [Act.put,sIb,sC0,sCs,i64_w,i32_w];rfl
        refine pW 16 71 ?_;refine pW 17 72 ?_
        refine doneW (by kernel_rfl) ?_
      all_goals
       have HQ:=am (show ((P0++[(partE e a b,true)])++[(partE e mab en,false)])=piecesL (L.take (i+1)) lo hi by
        rw [HE.out]
        unfold piecesL
        rw [List.flatMap_append,List.flatMap_cons,List.flatMap_nil,List.append_nil]
        show _=piecesL (L.take i) lo hi++pieces3 e lo hi
        rw [← HP.out]
        unfold pieces3
        rw [HA.out,HB.out,HMAB.out,HEN.out,if_neg (by have:=HC1.out;omega),if_pos (by have:=HC2.out;omega),if_pos (by have:=HC3.out;omega)];simp)
       gi_wp2
       go_wp2
       go_roundg g
       case measure=>omega
       case rel=>exact ⟨i+1,by rw [HIW.out],⟨by have:=HK.out;omega⟩,⟨by rw [← HQ.out];exact HI3yey.out⟩,HR3yey,HBL3yey,HBF3yey,HBT3yey⟩
     ·skip
      have hd1:decide (e.f0 < a)=false:=decide_eq_false hc1
      have HC1:=am hc1
      have hd2:decide (a < b)=true:=decide_eq_true hc2
      have HC2:=am hc2
      have hd3:decide (mab < en)=false:=decide_eq_false hc3
      have HC3:=am hc3
      clear hc1 hc2 hc3
      have hce0:=(blk_cell HE3.out.at_ 0).trans rfl
      have hce1:=(blk_cell HE3.out.at_ 1).trans rfl
      have hce2:=(blk_cell HE3.out.at_ 2).trans rfl
      have hce3:=(blk_cell HE3.out.at_ 3).trans rfl
      gi_wp2_with (first|(refine ⟨trivial,?_⟩;gi_at_call 67;refine (callsIn_wide.2 (part_calls e a b _ HMY.out (by have:=HBD.out;omega) (by have:=HBD.out;omega) (by have:=HBD.out;omega) (by have:=HBD.out;omega))).mono ?_;rintro r w3c ⟨rfl,hb3c⟩;have hbz3c:∀ b∈bs,b < _:=fun b hb=>Nat.lt_trans (hbs b hb) (Nat.lt_trans (Nat.lt_succ_self d) (hRd _ HR3.out));have HI3c:=am (hIB _ _ _ HI3.out hb3c);have HR3c:=am (hRB _ _ HR3.out hb3c);have HBL3c:=am (HBL3.out.below hbz3c hb3c);have HBF3c:=am (HBF3.out.below hbz3c hb3c);have HBT3c:=am (HBT3.out.below hbz3c hb3c);have HE3c:=am (HE3.out.below hbz3c hb3c);clear hbz3c;obtain ⟨fn,tmps,assign,body,hy,hRd5⟩:=hY P0 (partE e a b,true) w3c HI3c.out HR3c.out (by have:=HPN.out;have:=hN;(try simp only [List.length_append,List.length_cons,List.length_nil]);omega))|((with_reducible refine And.intro ?_ ?_);(first|exact trivial|exact fun _ _=>trivial)))
      refine hRd5.mono ?_
      clear hce0 hce1 hce2 hce3
      intro r w3y h9
      obtain ⟨rfl,hI3y,hR3y,hK3y⟩:=h9.elim id (fun h=>by obtain ⟨_,c,hF,_⟩:=h;exact hF.elim)
      have HI3y:=am hI3y
      have HR3y:=am hR3y
      have HBL3y:=am (HBL3c.out.kept hK3y)
      have HBF3y:=am (HBF3c.out.kept hK3y)
      have HBT3y:=am (HBT3c.out.kept hK3y)
      have HE3y:=am (HE3c.out.kept hK3y)
      clear hI3y hR3y hK3y hy hRd5
      have hce0:=(blk_cell HE3y.out.at_ 0).trans rfl
      have hce1:=(blk_cell HE3y.out.at_ 1).trans rfl
      have hce2:=(blk_cell HE3y.out.at_ 2).trans rfl
      have hce3:=(blk_cell HE3y.out.at_ 3).trans rfl
      gi_wp2_with ((with_reducible refine And.intro ?_ ?_);(first|exact trivial|exact fun _ _=>trivial))
      refine startW (m:=18) _ (by kernel_rfl) rfl rfl ?_;refine pW 2 57 ?_;refine pW 3 58 ?_;refine pW 4 59 ?_
      refine oW 0 (some 55) (fun K hK=>?_)
      refine valueW (w1:=?_) (v:=?_) (by rfl) rfl ?_ ?_
      rotate_left 2
      ·go_simp
       constructor;(rfl);(rfl)
      refine hK.out _ _ ?_;clear hK K;refine normW (a':=?_) ?_ ?_;rotate_left
      ·show Act.put _ (some 55) _=_
       simp only [Act.put,sIb,sC0,sCs,i64_w,i32_w];rfl
      refine oW 1 (some 56) (fun K hK=>?_)
      refine gW Try.func35 #[.agg #[.int .i64 e.f0,.int .i64 e.f1,.int .i64 e.f2,.bool e.f3]] ?_
      with_reducible refine (extent_end.calls e.f0 e.f1 e.f2 e.f3 en _ HENF.out).mono ?_
      rintro r6 w3ye ⟨rfl,hb3ye⟩
      refine ⟨_,rfl,?_⟩
      clear hce0 hce1 hce2 hce3
      replace hb3ye:=(below_drew1 (Below.refl _ w3y)).trans (hb3ye.mono (Nat.le_refl _))
      have hbz3ye:∀ b∈bs,b < _:=fun b hb=>Nat.lt_trans (hbs b hb) (Nat.lt_trans (Nat.lt_succ_self d) (hRd _ HR3y.out))
      have HI3ye:=am (hIB _ _ _ HI3y.out hb3ye)
      have HR3ye:=am (hRB _ _ HR3y.out hb3ye)
      have HBL3ye:=am (HBL3y.out.below hbz3ye hb3ye)
      have HBF3ye:=am (HBF3y.out.below hbz3ye hb3ye)
      have HBT3ye:=am (HBT3y.out.below hbz3ye hb3ye)
      have HE3ye:=am (HE3y.out.below hbz3ye hb3ye)
      clear hbz3ye
      have hce0:=(blk_cell HE3ye.out.at_ 0).trans rfl
      have hce1:=(blk_cell HE3ye.out.at_ 1).trans rfl
      have hce2:=(blk_cell HE3ye.out.at_ 2).trans rfl
      have hce3:=(blk_cell HE3ye.out.at_ 3).trans rfl
      refine hK.out _ _ ?_;clear hK K;refine normW (a':=?_) ?_ ?_;rotate_left
      ·show Act.put _ (some 56) _=_
       simp only [Act.put,sIb,sC0,sCs,i64_w,i32_w];rfl
      refine pW 5 60 ?_;refine pW 6 61 ?_;refine uW 7 62 ?_;refine uW 8 63 ?_;refine uW 9 64 ?_;refine uW 10 65 ?_;refine uW 11 66 ?_;refine uW 12 67 ?_
      refine oW 13 (some 68) (fun K hK=>?_)
      refine offW (by rfl) ?_
      refine hK.out _ _ ?_;clear hK K;refine normW (a':=?_) ?_ ?_;rotate_left
      ·show Act.put _ (some 68) _=_
       simp only [Act.put,sIb,sC0,sCs,i64_w,i32_w];rfl
      refine oW 14 (some 69) (fun K hK=>?_)
      refine offW (by rfl) ?_
      refine hK.out _ _ ?_;clear hK K;refine normW (a':=?_) ?_ ?_;rotate_left
      ·show Act.put _ (some 69) _=_
       simp only [Act.put,sIb,sC0,sCs,i64_w,i32_w];rfl
      refine oW 15 (some 70) (fun K hK=>?_)
      refine offW (by rfl) ?_
      refine hK.out _ _ ?_;clear hK K;refine normW (a':=?_) ?_ ?_;rotate_left
      ·show Act.put _ (some 70) _=_
       simp only [Act.put,sIb,sC0,sCs,i64_w,i32_w];rfl
      refine uW 16 71 ?_;refine pW 17 72 ?_
      refine doneW (by kernel_rfl) ?_
      all_goals
       have HQ:=am (show (P0++[(partE e a b,true)])=piecesL (L.take (i+1)) lo hi by
        rw [HE.out]
        unfold piecesL
        rw [List.flatMap_append,List.flatMap_cons,List.flatMap_nil,List.append_nil]
        show _=piecesL (L.take i) lo hi++pieces3 e lo hi
        rw [← HP.out]
        unfold pieces3
        rw [HA.out,HB.out,HMAB.out,HEN.out,if_neg (by have:=HC1.out;omega),if_pos (by have:=HC2.out;omega),if_neg (by have:=HC3.out;omega)];simp)
       gi_wp2
       go_wp2
       go_roundg g
       case measure=>omega
       case rel=>exact ⟨i+1,by rw [HIW.out],⟨by have:=HK.out;omega⟩,⟨by rw [← HQ.out];exact HI3ye.out⟩,HR3ye,HBL3ye,HBF3ye,HBT3ye⟩
    ·by_cases hc3:mab < en
     ·skip
      have hd1:decide (e.f0 < a)=false:=decide_eq_false hc1
      have HC1:=am hc1
      have hd2:decide (a < b)=false:=decide_eq_false hc2
      have HC2:=am hc2
      have hd3:decide (mab < en)=true:=decide_eq_true hc3
      have HC3:=am hc3
      clear hc1 hc2 hc3
      have hce0:=(blk_cell HE3.out.at_ 0).trans rfl
      have hce1:=(blk_cell HE3.out.at_ 1).trans rfl
      have hce2:=(blk_cell HE3.out.at_ 2).trans rfl
      have hce3:=(blk_cell HE3.out.at_ 3).trans rfl
      gi_wp2_with ((with_reducible refine And.intro ?_ ?_);(first|exact trivial|exact fun _ _=>trivial))
      refine startW (m:=18) _ (by kernel_rfl) rfl rfl ?_;refine pW 2 57 ?_;refine pW 3 58 ?_;refine pW 4 59 ?_
      refine oW 0 (some 55) (fun K hK=>?_)
      refine valueW (w1:=?_) (v:=?_) (by rfl) rfl ?_ ?_
      rotate_left 2
      ·go_simp
       constructor;(rfl);(rfl)
      refine hK.out _ _ ?_;clear hK K;refine normW (a':=?_) ?_ ?_;rotate_left
      ·show Act.put _ (some 55) _=_
       simp only [Act.put,sIb,sC0,sCs,i64_w,i32_w];rfl
      refine oW 1 (some 56) (fun K hK=>?_)
      refine gW Try.func35 #[.agg #[.int .i64 e.f0,.int .i64 e.f1,.int .i64 e.f2,.bool e.f3]] ?_
      with_reducible refine (extent_end.calls e.f0 e.f1 e.f2 e.f3 en _ HENF.out).mono ?_
      rintro r6 w3e ⟨rfl,hb3e⟩
      refine ⟨_,rfl,?_⟩
      clear hce0 hce1 hce2 hce3
      replace hb3e:=(below_drew1 (Below.refl _ w3)).trans (hb3e.mono (Nat.le_refl _))
      have hbz3e:∀ b∈bs,b < _:=fun b hb=>Nat.lt_trans (hbs b hb) (Nat.lt_trans (Nat.lt_succ_self d) (hRd _ HR3.out))
      have HI3e:=am (hIB _ _ _ HI3.out hb3e)
      have HR3e:=am (hRB _ _ HR3.out hb3e)
      have HBL3e:=am (HBL3.out.below hbz3e hb3e)
      have HBF3e:=am (HBF3.out.below hbz3e hb3e)
      have HBT3e:=am (HBT3.out.below hbz3e hb3e)
      have HE3e:=am (HE3.out.below hbz3e hb3e)
      clear hbz3e
      have hce0:=(blk_cell HE3e.out.at_ 0).trans rfl
      have hce1:=(blk_cell HE3e.out.at_ 1).trans rfl
      have hce2:=(blk_cell HE3e.out.at_ 2).trans rfl
      have hce3:=(blk_cell HE3e.out.at_ 3).trans rfl
      refine hK.out _ _ ?_;clear hK K;refine normW (a':=?_) ?_ ?_;rotate_left
      ·show Act.put _ (some 56) _=_
       simp only [Act.put,sIb,sC0,sCs,i64_w,i32_w];rfl
      refine pW 5 60 ?_;refine pW 6 61 ?_;refine pW 7 62 ?_;refine pW 9 64 ?_;refine pW 10 65 ?_;refine pW 11 66 ?_
      refine twoW (i:=8) (j:=12) (Ni:=some 63) (Nj:=some 67) #[true,true,true,true,true,true,true,true,true,true,true,true,false,false,false,false,false,false] #[true,true,true,true,true,true,true,true,false,true,true,true,true,false,false,false,false,false] rfl rfl rfl rfl (by kernel_rfl) (fun K hK=>?_) (fun K hK=>?_)
      focus
       refine valueW (w1:=?_) (v:=?_) (by rfl) rfl ?_ ?_
       rotate_left 2
       ·go_simp
        constructor;(rfl);(rfl)
       refine hK.out _ _ ?_;clear hK K;refine normW (a':=?_) ?_ ?_;rotate_left
       ·show Act.put _ (some 63) _=_
        simp only [Act.put,sIb,sC0,sCs,i64_w,i32_w];rfl
       refine oW 12 (some 67) (fun K hK=>?_)
       refine valueW (w1:=?_) (v:=?_) (by rfl) rfl ?_ ?_
       rotate_left 2
       ·go_simp
        constructor;(rfl);(rfl)
       refine hK.out _ _ ?_;clear hK K;refine normW (a':=?_) ?_ ?_;rotate_left
       ·show Act.put _ (some 67) _=_
        simp only [Act.put,sIb,sC0,sCs,i64_w,i32_w];rfl
       refine oW 13 (some 68) (fun K hK=>?_)
       refine gW Try.func35 #[.agg #[.int .i64 e.f0,.int .i64 e.f1,.int .i64 e.f2,.bool e.f3]] ?_
       with_reducible refine (extent_end.calls e.f0 e.f1 e.f2 e.f3 en _ HENF.out).mono ?_
       rintro r6 w3ee ⟨rfl,hb3ee⟩
       refine ⟨_,rfl,?_⟩
       clear hce0 hce1 hce2 hce3
       have hbz3ee:∀ b∈bs,b < _:=fun b hb=>Nat.lt_trans (hbs b hb) (Nat.lt_trans (Nat.lt_succ_self d) (hRd _ HR3e.out))
       have HI3ee:=am (hIB _ _ _ HI3e.out hb3ee)
       have HR3ee:=am (hRB _ _ HR3e.out hb3ee)
       have HBL3ee:=am (HBL3e.out.below hbz3ee hb3ee)
       have HBF3ee:=am (HBF3e.out.below hbz3ee hb3ee)
       have HBT3ee:=am (HBT3e.out.below hbz3ee hb3ee)
       have HE3ee:=am (HE3e.out.below hbz3ee hb3ee)
       clear hbz3ee
       have hce0:=(blk_cell HE3ee.out.at_ 0).trans rfl
       have hce1:=(blk_cell HE3ee.out.at_ 1).trans rfl
       have hce2:=(blk_cell HE3ee.out.at_ 2).trans rfl
       have hce3:=(blk_cell HE3ee.out.at_ 3).trans rfl
       refine hK.out _ _ ?_;clear hK K;refine normW (a':=?_) ?_ ?_;rotate_left
       ·show Act.put _ (some 68) _=_
        simp only [Act.put,sIb,sC0,sCs,i64_w,i32_w];rfl
       refine oW 14 (some 69) (fun K hK=>?_)
       refine gW Try.func67 #[.agg #[.int .i64 e.f0,.int .i64 e.f1,.int .i64 e.f2,.bool e.f3],.int .i64 mab,.int .i64 en] ?_
       with_reducible refine (part_calls e mab en _ HMY.out (by have:=HBD.out;omega) (by have:=HBD.out;omega) (by have:=HBD.out;omega) (by have:=HBD.out;omega)).mono ?_
       rintro r6 w3ep ⟨rfl,hb3ep⟩
       refine ⟨_,rfl,?_⟩
       clear hce0 hce1 hce2 hce3
       have hbz3ep:∀ b∈bs,b < _:=fun b hb=>Nat.lt_trans (hbs b hb) (Nat.lt_trans (Nat.lt_succ_self d) (hRd _ HR3ee.out))
       have HI3ep:=am (hIB _ _ _ HI3ee.out hb3ep)
       have HR3ep:=am (hRB _ _ HR3ee.out hb3ep)
       have HBL3ep:=am (HBL3ee.out.below hbz3ep hb3ep)
       have HBF3ep:=am (HBF3ee.out.below hbz3ep hb3ep)
       have HBT3ep:=am (HBT3ee.out.below hbz3ep hb3ep)
       have HE3ep:=am (HE3ee.out.below hbz3ep hb3ep)
       clear hbz3ep;refine hK.out _ _ ?_;clear hK K;refine normW (a':=?_) ?_ ?_;rotate_left
       ·show Act.put _ (some 69) _=_
        simp only [Act.put,sIb,sC0,sCs,i64_w,i32_w];rfl
       refine oW 15 (some 70) (fun K hK=>?_)
       refine yieldW #[.agg #[.int .i64 (partE e mab en).f0,.int .i64 (partE e mab en).f1,.int .i64 (partE e mab en).f2,.bool (partE e mab en).f3],.bool false] (by rfl) rfl rfl rfl (by simp only [List.map_toArray,List.map_cons,List.map_nil];rfl) (hY P0 (partE e mab en,false) _ HI3ep.out HR3ep.out (by have:=HPN.out;have:=hN;(try simp only [List.length_append,List.length_cons,List.length_nil]);omega)) ?_
       intro r w3ey h9
       obtain ⟨rfl,hI3ey,hR3ey,hK3ey⟩:=h9.elim id (fun h=>by obtain ⟨_,c,hF,_⟩:=h;exact hF.elim)
       have HI3ey:=am hI3ey
       have HR3ey:=am hR3ey
       have HBL3ey:=am (HBL3ep.out.kept hK3ey)
       have HBF3ey:=am (HBF3ep.out.kept hK3ey)
       have HBT3ey:=am (HBT3ep.out.kept hK3ey)
       have HE3ey:=am (HE3ep.out.kept hK3ey)
       clear hI3ey hR3ey hK3ey
       refine ⟨_,rfl,?_⟩
       refine hK.out _ _ ?_;clear hK K;refine normW (a':=?_) ?_ ?_;rotate_left
       ·show Act.put _ (some 70) _=_
        simp only [Act.put,sIb,sC0,sCs,i64_w,i32_w];rfl
       refine pW 16 71 ?_;refine pW 17 72 ?_
       refine doneW (by kernel_rfl) ?_
      rotate_left 1
      focus
       refine valueW (w1:=?_) (v:=?_) (by rfl) rfl ?_ ?_
       rotate_left 2
       ·go_simp
        constructor;(rfl);(rfl)
       refine hK.out _ _ ?_;clear hK K;refine normW (a':=?_) ?_ ?_;rotate_left
       ·show Act.put _ (some 67) _=_
        simp only [Act.put,sIb,sC0,sCs,i64_w,i32_w];rfl
       refine twoW (i:=8) (j:=13) (Ni:=some 63) (Nj:=some 68) #[true,true,true,true,true,true,true,true,true,true,true,true,true,false,false,false,false,false] #[true,true,true,true,true,true,true,true,false,true,true,true,true,true,false,false,false,false] rfl rfl rfl rfl (by kernel_rfl) (fun K hK=>?_) (fun K hK=>?_)
       focus
        refine valueW (w1:=?_) (v:=?_) (by rfl) rfl ?_ ?_
        rotate_left 2
        ·go_simp
         constructor;(rfl);(rfl)
        refine hK.out _ _ ?_;clear hK K;refine normW (a':=?_) ?_ ?_;rotate_left
        ·show Act.put _ (some 63) _=_
         simp only [Act.put,sIb,sC0,sCs,i64_w,i32_w];rfl
        refine oW 13 (some 68) (fun K hK=>?_)
        refine gW Try.func35 #[.agg #[.int .i64 e.f0,.int .i64 e.f1,.int .i64 e.f2,.bool e.f3]] ?_
        with_reducible refine (extent_end.calls e.f0 e.f1 e.f2 e.f3 en _ HENF.out).mono ?_
        rintro r6 w3ee ⟨rfl,hb3ee⟩
        refine ⟨_,rfl,?_⟩
        clear hce0 hce1 hce2 hce3
        have hbz3ee:∀ b∈bs,b < _:=fun b hb=>Nat.lt_trans (hbs b hb) (Nat.lt_trans (Nat.lt_succ_self d) (hRd _ HR3e.out))
        have HI3ee:=am (hIB _ _ _ HI3e.out hb3ee)
        have HR3ee:=am (hRB _ _ HR3e.out hb3ee)
        have HBL3ee:=am (HBL3e.out.below hbz3ee hb3ee)
        have HBF3ee:=am (HBF3e.out.below hbz3ee hb3ee)
        have HBT3ee:=am (HBT3e.out.below hbz3ee hb3ee)
        have HE3ee:=am (HE3e.out.below hbz3ee hb3ee)
        clear hbz3ee
        have hce0:=(blk_cell HE3ee.out.at_ 0).trans rfl
        have hce1:=(blk_cell HE3ee.out.at_ 1).trans rfl
        have hce2:=(blk_cell HE3ee.out.at_ 2).trans rfl
        have hce3:=(blk_cell HE3ee.out.at_ 3).trans rfl
        refine hK.out _ _ ?_;clear hK K;refine normW (a':=?_) ?_ ?_;rotate_left
        ·show Act.put _ (some 68) _=_
         simp only [Act.put,sIb,sC0,sCs,i64_w,i32_w];rfl
        refine oW 14 (some 69) (fun K hK=>?_)
        refine gW Try.func67 #[.agg #[.int .i64 e.f0,.int .i64 e.f1,.int .i64 e.f2,.bool e.f3],.int .i64 mab,.int .i64 en] ?_
        with_reducible refine (part_calls e mab en _ HMY.out (by have:=HBD.out;omega) (by have:=HBD.out;omega) (by have:=HBD.out;omega) (by have:=HBD.out;omega)).mono ?_
        rintro r6 w3ep ⟨rfl,hb3ep⟩
        refine ⟨_,rfl,?_⟩
        clear hce0 hce1 hce2 hce3
        have hbz3ep:∀ b∈bs,b < _:=fun b hb=>Nat.lt_trans (hbs b hb) (Nat.lt_trans (Nat.lt_succ_self d) (hRd _ HR3ee.out))
        have HI3ep:=am (hIB _ _ _ HI3ee.out hb3ep)
        have HR3ep:=am (hRB _ _ HR3ee.out hb3ep)
        have HBL3ep:=am (HBL3ee.out.below hbz3ep hb3ep)
        have HBF3ep:=am (HBF3ee.out.below hbz3ep hb3ep)
        have HBT3ep:=am (HBT3ee.out.below hbz3ep hb3ep)
        have HE3ep:=am (HE3ee.out.below hbz3ep hb3ep)
        clear hbz3ep;refine hK.out _ _ ?_;clear hK K;refine normW (a':=?_) ?_ ?_;rotate_left
        ·show Act.put _ (some 69) _=_
         simp only [Act.put,sIb,sC0,sCs,i64_w,i32_w];rfl
        refine oW 15 (some 70) (fun K hK=>?_)
        refine yieldW #[.agg #[.int .i64 (partE e mab en).f0,.int .i64 (partE e mab en).f1,.int .i64 (partE e mab en).f2,.bool (partE e mab en).f3],.bool false] (by rfl) rfl rfl rfl (by simp only [List.map_toArray,List.map_cons,List.map_nil];rfl) (hY P0 (partE e mab en,false) _ HI3ep.out HR3ep.out (by have:=HPN.out;have:=hN;(try simp only [List.length_append,List.length_cons,List.length_nil]);omega)) ?_
        intro r w3ey h9
        obtain ⟨rfl,hI3ey,hR3ey,hK3ey⟩:=h9.elim id (fun h=>by obtain ⟨_,c,hF,_⟩:=h;exact hF.elim)
        have HI3ey:=am hI3ey
        have HR3ey:=am hR3ey
        have HBL3ey:=am (HBL3ep.out.kept hK3ey)
        have HBF3ey:=am (HBF3ep.out.kept hK3ey)
        have HBT3ey:=am (HBT3ep.out.kept hK3ey)
        have HE3ey:=am (HE3ep.out.kept hK3ey)
        clear hI3ey hR3ey hK3ey
        refine ⟨_,rfl,?_⟩
        refine hK.out _ _ ?_;clear hK K;refine normW (a':=?_) ?_ ?_;rotate_left
        ·show Act.put _ (some 70) _=_
         simp only [Act.put,sIb,sC0,sCs,i64_w,i32_w];rfl
        refine pW 16 71 ?_;refine pW 17 72 ?_
        refine doneW (by kernel_rfl) ?_
       rotate_left 1
       focus
        refine gW Try.func35 #[.agg #[.int .i64 e.f0,.int .i64 e.f1,.int .i64 e.f2,.bool e.f3]] ?_
        with_reducible refine (extent_end.calls e.f0 e.f1 e.f2 e.f3 en _ HENF.out).mono ?_
        rintro r6 w3ee ⟨rfl,hb3ee⟩
        refine ⟨_,rfl,?_⟩
        clear hce0 hce1 hce2 hce3
        have hbz3ee:∀ b∈bs,b < _:=fun b hb=>Nat.lt_trans (hbs b hb) (Nat.lt_trans (Nat.lt_succ_self d) (hRd _ HR3e.out))
        have HI3ee:=am (hIB _ _ _ HI3e.out hb3ee)
        have HR3ee:=am (hRB _ _ HR3e.out hb3ee)
        have HBL3ee:=am (HBL3e.out.below hbz3ee hb3ee)
        have HBF3ee:=am (HBF3e.out.below hbz3ee hb3ee)
        have HBT3ee:=am (HBT3e.out.below hbz3ee hb3ee)
        have HE3ee:=am (HE3e.out.below hbz3ee hb3ee)
        clear hbz3ee
        have hce0:=(blk_cell HE3ee.out.at_ 0).trans rfl
        have hce1:=(blk_cell HE3ee.out.at_ 1).trans rfl
        have hce2:=(blk_cell HE3ee.out.at_ 2).trans rfl
        have hce3:=(blk_cell HE3ee.out.at_ 3).trans rfl
        refine hK.out _ _ ?_;clear hK K;refine normW (a':=?_) ?_ ?_;rotate_left
        ·show Act.put _ (some 68) _=_
         simp only [Act.put,sIb,sC0,sCs,i64_w,i32_w];rfl
        refine oW 8 (some 63) (fun K hK=>?_)
        refine valueW (w1:=?_) (v:=?_) (by rfl) rfl ?_ ?_
        rotate_left 2
        ·go_simp
         constructor;(rfl);(rfl)
        refine hK.out _ _ ?_;clear hK K;refine normW (a':=?_) ?_ ?_;rotate_left
        ·show Act.put _ (some 63) _=_
         simp only [Act.put,sIb,sC0,sCs,i64_w,i32_w];rfl
        refine oW 14 (some 69) (fun K hK=>?_)
        refine gW Try.func67 #[.agg #[.int .i64 e.f0,.int .i64 e.f1,.int .i64 e.f2,.bool e.f3],.int .i64 mab,.int .i64 en] ?_
        with_reducible refine (part_calls e mab en _ HMY.out (by have:=HBD.out;omega) (by have:=HBD.out;omega) (by have:=HBD.out;omega) (by have:=HBD.out;omega)).mono ?_
        rintro r6 w3ep ⟨rfl,hb3ep⟩
        refine ⟨_,rfl,?_⟩
        clear hce0 hce1 hce2 hce3
        have hbz3ep:∀ b∈bs,b < _:=fun b hb=>Nat.lt_trans (hbs b hb) (Nat.lt_trans (Nat.lt_succ_self d) (hRd _ HR3ee.out))
        have HI3ep:=am (hIB _ _ _ HI3ee.out hb3ep)
        have HR3ep:=am (hRB _ _ HR3ee.out hb3ep)
        have HBL3ep:=am (HBL3ee.out.below hbz3ep hb3ep)
        have HBF3ep:=am (HBF3ee.out.below hbz3ep hb3ep)
        have HBT3ep:=am (HBT3ee.out.below hbz3ep hb3ep)
        have HE3ep:=am (HE3ee.out.below hbz3ep hb3ep)
        clear hbz3ep;refine hK.out _ _ ?_;clear hK K;refine normW (a':=?_) ?_ ?_;rotate_left
        ·show Act.put _ (some 69) _=_
         simp only [Act.put,sIb,sC0,sCs,i64_w,i32_w];rfl
        refine oW 15 (some 70) (fun K hK=>?_)
        refine yieldW #[.agg #[.int .i64 (partE e mab en).f0,.int .i64 (partE e mab en).f1,.int .i64 (partE e mab en).f2,.bool (partE e mab en).f3],.bool false] (by rfl) rfl rfl rfl (by simp only [List.map_toArray,List.map_cons,List.map_nil];rfl) (hY P0 (partE e mab en,false) _ HI3ep.out HR3ep.out (by have:=HPN.out;have:=hN;(try simp only [List.length_append,List.length_cons,List.length_nil]);omega)) ?_
        intro r w3ey h9
        obtain ⟨rfl,hI3ey,hR3ey,hK3ey⟩:=h9.elim id (fun h=>by obtain ⟨_,c,hF,_⟩:=h;exact hF.elim)
        have HI3ey:=am hI3ey
        have HR3ey:=am hR3ey
        have HBL3ey:=am (HBL3ep.out.kept hK3ey)
        have HBF3ey:=am (HBF3ep.out.kept hK3ey)
        have HBT3ey:=am (HBT3ep.out.kept hK3ey)
        have HE3ey:=am (HE3ep.out.kept hK3ey)
        clear hI3ey hR3ey hK3ey
        refine ⟨_,rfl,?_⟩
        refine hK.out _ _ ?_;clear hK K;refine normW (a':=?_) ?_ ?_;rotate_left
        ·show Act.put _ (some 70) _=_
         simp only [Act.put,sIb,sC0,sCs,i64_w,i32_w];rfl
        refine pW 16 71 ?_;refine pW 17 72 ?_
        refine doneW (by kernel_rfl) ?_
      all_goals
       have HQ:=am (show (P0++[(partE e mab en,false)])=piecesL (L.take (i+1)) lo hi by
        rw [HE.out]
        unfold piecesL
        rw [List.flatMap_append,List.flatMap_cons,List.flatMap_nil,List.append_nil]
        show _=piecesL (L.take i) lo hi++pieces3 e lo hi
        rw [← HP.out]
        unfold pieces3
        rw [HA.out,HB.out,HMAB.out,HEN.out,if_neg (by have:=HC1.out;omega),if_neg (by have:=HC2.out;omega),if_pos (by have:=HC3.out;omega)];simp)
       gi_wp2
       go_wp2
       go_roundg g
       case measure=>omega
       case rel=>exact ⟨i+1,by rw [HIW.out],⟨by have:=HK.out;omega⟩,⟨by rw [← HQ.out];exact HI3ey.out⟩,HR3ey,HBL3ey,HBF3ey,HBT3ey⟩
     ·skip
      have hd1:decide (e.f0 < a)=false:=decide_eq_false hc1
      have HC1:=am hc1
      have hd2:decide (a < b)=false:=decide_eq_false hc2
      have HC2:=am hc2
      have hd3:decide (mab < en)=false:=decide_eq_false hc3
      have HC3:=am hc3
      clear hc1 hc2 hc3
      have hce0:=(blk_cell HE3.out.at_ 0).trans rfl
      have hce1:=(blk_cell HE3.out.at_ 1).trans rfl
      have hce2:=(blk_cell HE3.out.at_ 2).trans rfl
      have hce3:=(blk_cell HE3.out.at_ 3).trans rfl
      gi_wp2_with ((with_reducible refine And.intro ?_ ?_);(first|exact trivial|exact fun _ _=>trivial))
      refine startW (m:=18) _ (by kernel_rfl) rfl rfl ?_;refine pW 2 57 ?_;refine pW 3 58 ?_;refine pW 4 59 ?_
      refine oW 0 (some 55) (fun K hK=>?_)
      refine valueW (w1:=?_) (v:=?_) (by rfl) rfl ?_ ?_
      rotate_left 2
      ·go_simp
       constructor;(rfl);(rfl)
      refine hK.out _ _ ?_;clear hK K;refine normW (a':=?_) ?_ ?_;rotate_left
      ·show Act.put _ (some 55) _=_
       simp only [Act.put,sIb,sC0,sCs,i64_w,i32_w];rfl
      refine oW 1 (some 56) (fun K hK=>?_)
      refine gW Try.func35 #[.agg #[.int .i64 e.f0,.int .i64 e.f1,.int .i64 e.f2,.bool e.f3]] ?_
      with_reducible refine (extent_end.calls e.f0 e.f1 e.f2 e.f3 en _ HENF.out).mono ?_
      rintro r6 w3e ⟨rfl,hb3e⟩
      refine ⟨_,rfl,?_⟩
      clear hce0 hce1 hce2 hce3
      replace hb3e:=(below_drew1 (Below.refl _ w3)).trans (hb3e.mono (Nat.le_refl _))
      have hbz3e:∀ b∈bs,b < _:=fun b hb=>Nat.lt_trans (hbs b hb) (Nat.lt_trans (Nat.lt_succ_self d) (hRd _ HR3.out))
      have HI3e:=am (hIB _ _ _ HI3.out hb3e)
      have HR3e:=am (hRB _ _ HR3.out hb3e)
      have HBL3e:=am (HBL3.out.below hbz3e hb3e)
      have HBF3e:=am (HBF3.out.below hbz3e hb3e)
      have HBT3e:=am (HBT3.out.below hbz3e hb3e)
      have HE3e:=am (HE3.out.below hbz3e hb3e)
      clear hbz3e
      have hce0:=(blk_cell HE3e.out.at_ 0).trans rfl
      have hce1:=(blk_cell HE3e.out.at_ 1).trans rfl
      have hce2:=(blk_cell HE3e.out.at_ 2).trans rfl
      have hce3:=(blk_cell HE3e.out.at_ 3).trans rfl
      refine hK.out _ _ ?_;clear hK K;refine normW (a':=?_) ?_ ?_;rotate_left
      ·show Act.put _ (some 56) _=_
       simp only [Act.put,sIb,sC0,sCs,i64_w,i32_w];rfl
      refine pW 5 60 ?_;refine pW 6 61 ?_;refine uW 7 62 ?_;refine uW 8 63 ?_;refine uW 9 64 ?_;refine uW 10 65 ?_;refine uW 11 66 ?_;refine uW 12 67 ?_
      refine oW 13 (some 68) (fun K hK=>?_)
      refine offW (by rfl) ?_
      refine hK.out _ _ ?_;clear hK K;refine normW (a':=?_) ?_ ?_;rotate_left
      ·show Act.put _ (some 68) _=_
       simp only [Act.put,sIb,sC0,sCs,i64_w,i32_w];rfl
      refine oW 14 (some 69) (fun K hK=>?_)
      refine offW (by rfl) ?_
      refine hK.out _ _ ?_;clear hK K;refine normW (a':=?_) ?_ ?_;rotate_left
      ·show Act.put _ (some 69) _=_
       simp only [Act.put,sIb,sC0,sCs,i64_w,i32_w];rfl
      refine oW 15 (some 70) (fun K hK=>?_)
      refine offW (by rfl) ?_
      refine hK.out _ _ ?_;clear hK K;refine normW (a':=?_) ?_ ?_;rotate_left
      ·show Act.put _ (some 70) _=_
       simp only [Act.put,sIb,sC0,sCs,i64_w,i32_w];rfl
      refine uW 16 71 ?_;refine pW 17 72 ?_
      refine doneW (by kernel_rfl) ?_
      all_goals
       have HQ:=am (show P0=piecesL (L.take (i+1)) lo hi by
        rw [HE.out]
        unfold piecesL
        rw [List.flatMap_append,List.flatMap_cons,List.flatMap_nil,List.append_nil]
        show _=piecesL (L.take i) lo hi++pieces3 e lo hi
        rw [← HP.out]
        unfold pieces3
        rw [HA.out,HB.out,HMAB.out,HEN.out,if_neg (by have:=HC1.out;omega),if_neg (by have:=HC2.out;omega),if_neg (by have:=HC3.out;omega)];simp)
       gi_wp2
       go_wp2
       go_roundg g
       case measure=>omega
       case rel=>exact ⟨i+1,by rw [HIW.out],⟨by have:=HK.out;omega⟩,⟨by rw [← HQ.out];exact HI3e.out⟩,HR3e,HBL3e,HBF3e,HBT3e⟩
end Go.Proofs.Ytopmjjnkolfciaa.Pr
end
section
namespace Go.Proofs.Ytopmjjnkolfciaa.Pr
open Go Go.RowKit Go.Shelf Go.Proofs.YtopmjjnkolfciaaW.PrintWords Go.Proofs.YtopmjjnkolfciaaW.PrintLast Go.Proofs.YtopmjjnkolfciaaW.PrintMore Go.Proofs.Ytopmjjnkolfciaa.Sq
set_option linter.unusedVariables false
set_option linter.unusedSimpArgs false
theorem own_ge {W : World} {base : Nat} {e : TypeId} {size : Nat} {v : Value} {k : Nat} {xs : List Value} (h : W.ownsRow base e size v k xs) {g : Nat} (hg : v.ownBlock = some g) : base ≤ g ∧ ∃ cs, W.heap[g]? = some (.cells cs e (0, 0)) := by
  rcases h.2 with ⟨rfl, _⟩ | ⟨g', cap, cur, rfl, hb, hh, _⟩
  · simp [Value.ownBlock] at hg
  · obtain rfl : g' = g := by simpa [Value.ownBlock] using hg
    exact ⟨hb, cur, hh⟩
theorem own_of_heap {W W' : World} {base : Nat} {e : TypeId} {size : Nat} {v : Value} {k : Nat} {xs : List Value} (h : W.ownsRow base e size v k xs) (hs : ∀ g, v.ownBlock = some g → W'.heap[g]? = W.heap[g]?) : W'.ownsRow base e size v k xs :=
  ⟨h.1, h.2.imp id (fun ⟨g, cap, cur, ev, hb, hg, r⟩ => ⟨g, cap, cur, ev, hb, (hs g (by rw [ev]; rfl)).trans hg, r⟩)⟩
structure LB {α : Type} (e sz tb : Nat) (cells : α → List Value) (bb b : Nat) (xs : List α) (v : Value) (W : World) : Prop where
  box : W.heap[b]? = some (.cells #[v] tb (0, 0))
  row : W.ownsRow bb e sz v xs.length (xs.flatMap cells)
section
variable {α : Type} {e sz tb bb b : Nat} {cells : α → List Value} {xs : List α} {v : Value} {W W' : World}
theorem LB.heap (h : LB e sz tb cells bb b xs v W) (h1 : W'.heap[b]? = W.heap[b]?) (h2 : ∀ g, v.ownBlock = some g → W'.heap[g]? = W.heap[g]?) : LB e sz tb cells bb b xs v W' :=
  ⟨h1.trans h.box, own_of_heap h.row h2⟩
theorem LB.below (h : LB e sz tb cells bb b xs v W) (hb : Below W.heap.size W W') : LB e sz tb cells bb b xs v W' :=
  h.heap (hb.block b (blk_lt h.box)) (fun g hg => by obtain ⟨_, cs, hh⟩ := own_ge h.row hg; exact hb.block g (blk_lt hh))
theorem LB.grown (h : LB e sz tb cells bb b xs v W) {row : Option Nat} (hg : W.grownBy W' row) (hr : ∀ r, row = some r → ∃ o : Obj, W.heap[r]? = some o ∧ o.isCells = false) : LB e sz tb cells bb b xs v W' := by
  have key : ∀ k cs t fr, W.heap[k]? = some (Obj.cells cs t fr) → W'.heap[k]? = W.heap[k]? := fun k cs t fr hk => hg.block k (blk_lt hk) (fun ee => by
    obtain ⟨o, ho, hc⟩ := hr k ee.symm
    rw [hk] at ho; cases ho; cases hc)
  exact h.heap (key b _ _ _ h.box) (fun g hgv => by obtain ⟨_, cs, hh⟩ := own_ge h.row hgv; exact key g _ _ _ hh)
theorem LB.cell (h : LB e sz tb cells bb b xs v W) : W.cell? ⟨b, 0, none⟩ = some v := blk_cell h.box 0
theorem LB.off (h : LB e sz tb cells bb b xs v W) {k : Nat} (hk : W.heap.size ≤ k) : OffRow W b k := fun u hu eo => by
  rw [h.cell] at hu
  injection hu with hu
  subst hu
  obtain ⟨_, cs, hh⟩ := own_ge h.row eo
  have := blk_lt hh
  omega
theorem LB.slice (h : LB e sz tb cells bb b xs v W) : ∃ A c, v = .slice A xs.length c := by
  rcases h.row.2 with ⟨e1, e2⟩ | ⟨g, cap, cur, e1, _⟩
  · exact ⟨none, 0, by rw [e1, e2]⟩
  · exact ⟨_, _, e1⟩
theorem LB.app (h : LB e sz tb cells bb b xs v W) (hbb : b < bb) {tmp : Obj} {w1 : World} {v' : Value} {y : α} (hgrow : (W.alloc tmp).grownBy w1 v.ownBlock) (hown : w1.ownsRow bb e sz v' (xs.length + 1) (xs.flatMap cells ++ cells y)) :
    w1.heap[b]? = some (.cells #[v] tb (0, 0)) ∧ LB e sz tb cells bb b (xs ++ [y]) v' (w1.setCell ⟨b, 0, none⟩ v') := by
  have h1 : w1.heap[b]? = some (.cells #[v] tb (0, 0)) := (hgrow.block b (by have := blk_lt h.box; simp; omega) (fun ee => by have := (own_ge h.row ee.symm).1; omega)).trans (blk_alloc h.box tmp)
  refine ⟨h1, blk_put h1 0 v' rfl, own_of_heap (W := w1) ?_ (fun g hg => Below.heap_setCell w1 ⟨b, 0, none⟩ v' g (fun ee => by have := (own_ge hown hg).1; have e2 : g = b := ee; omega))⟩
  rw [List.length_append, List.flatMap_append]
  simpa using hown
theorem LB.keeps (h : LB e sz tb cells bb b xs v W) {tmp : Obj} {w1 : World} (v' : Value) (hgrow : (W.alloc tmp).grownBy w1 v.ownBlock) : KeepsOthers W (w1.setCell ⟨b, 0, none⟩ v') := by
  refine ((KeepsOthers.alloc W tmp).trans (KeepsOthers.of_grownBy hgrow fun j o ej hj => ?_)).trans (KeepsOthers.setCell _ _ _)
  obtain ⟨_, cs, hh⟩ := own_ge h.row ej
  rw [blk_alloc hh tmp] at hj
  cases hj; rfl
theorem LB.bel (h : LB e sz tb cells bb b xs v W) (hbb : b < bb) {w0 : Nat} {w : World} (hw : w0 ≤ b) (hb : Below w0 w W) {tmp : Obj} {w1 : World} (v' : Value) (hgrow : (W.alloc tmp).grownBy w1 v.ownBlock) : Below w0 w (w1.setCell ⟨b, 0, none⟩ v') ∧ W.heap.size ≤ (w1.setCell ⟨b, 0, none⟩ v').heap.size := by
  have hbl := blk_lt h.box
  have h1 : Below w0 w w1 := (hb.alloc (by omega) tmp).grown hgrow (by simp; omega) (fun k ek => by have := (own_ge h.row ek).1; omega)
  refine ⟨h1.setCell (p := ⟨b, 0, none⟩) hw _, ?_⟩
  have := hgrow.size
  simp [World.setCell] at this ⊢
  omega
theorem LB.other {β : Type} {e2 sz2 tb2 b2 : Nat} {cells2 : β → List Value} {ys : List β} {u : Value} (h : LB e sz tb cells bb b xs v W) (h2 : LB e2 sz2 tb2 cells2 bb b2 ys u W) (hne : e ≠ e2) (hb : b ≠ b2) (hbb : b < bb) (hbb2 : b2 < bb) {tmp : Obj} {w1 : World} (v' : Value) (hgrow : (W.alloc tmp).grownBy w1 v.ownBlock) :
    LB e2 sz2 tb2 cells2 bb b2 ys u (w1.setCell ⟨b, 0, none⟩ v') := by
  have key : ∀ (k : Nat) (o : Obj), W.heap[k]? = some o → k ≠ b → v.ownBlock ≠ some k → (w1.setCell ⟨b, 0, none⟩ v').heap[k]? = W.heap[k]? := fun k o hk h1 h3 => by
    have hkl := (Array.getElem?_eq_some_iff.1 hk).1
    exact (Below.heap_setCell w1 ⟨b, 0, none⟩ v' k h1).trans ((hgrow.block k (by simp; omega) (fun ee => h3 ee.symm)).trans (Below.heap_alloc W tmp k hkl))
  refine h2.heap (key b2 _ h2.box (fun ee => hb ee.symm) (fun ee => by have := (own_ge h.row ee).1; omega)) (fun g hg => ?_)
  obtain ⟨hg1, cs, hh⟩ := own_ge h2.row hg
  refine key g _ hh (by omega) (fun ee => ?_)
  obtain ⟨_, cs', hh'⟩ := own_ge h.row ee
  rw [hh] at hh'
  injection hh' with hh'
  injection hh' with _ ht
  exact hne ht.symm
theorem KpF.app {d : Nat} {bs : List Nat} (h : LB e sz tb cells bb b xs v W) (hb : b ∈ bs) (hbs : ∀ q ∈ bs, q < bb ∧ q < W.heap.size) {tmp : Obj} {w1 : World} {v' : Value} (hgrow : (W.alloc tmp).grownBy w1 v.ownBlock)
    (hat : v'.ownBlock = v.ownBlock ∨ v'.ownBlock = some (W.alloc tmp).heap.size) (hcell : w1.heap[b]? = some (.cells #[v] tb (0, 0))) : KpF d bs W (w1.setCell ⟨b, 0, none⟩ v') := by
  have hs : W.heap.size < (W.alloc tmp).heap.size := by simp
  refine ⟨by have := hgrow.size; simp [World.setCell]; omega, fun k cs t hk hf => ?_⟩
  have hkl := blk_lt hk
  have hoff := (hf.2 b hb).2 v h.cell
  have hne := (hf.2 b hb).1
  have h1 : (w1.setCell ⟨b, 0, none⟩ v').heap[k]? = some (.cells cs t (0, 0)) :=
    (Below.heap_setCell w1 ⟨b, 0, none⟩ v' k hne).trans ((hgrow.block k (by omega) (fun ee => hoff ee.symm)).trans (blk_alloc hk tmp))
  refine ⟨h1, hf.1, fun q hq => ⟨(hf.2 q hq).1, fun u hu => ?_⟩⟩
  by_cases e1 : q = b
  · subst e1
    have hq2 : (w1.setCell ⟨q, 0, none⟩ v').cell? ⟨q, 0, none⟩ = some v' := blk_cell (blk_put hcell 0 v' rfl) 0
    rw [hq2] at hu
    injection hu with hu
    subst hu
    intro eo
    rcases hat with hat | hat
    · exact hoff (hat.symm.trans eo)
    · have := hat.symm.trans eo
      injection this with this
      omega
  · have hqb := hbs q hq
    have h2 : (w1.setCell ⟨b, 0, none⟩ v').heap[q]? = W.heap[q]? :=
      (Below.heap_setCell w1 ⟨b, 0, none⟩ v' q e1).trans ((hgrow.block q (by omega) (fun ee => by have := (own_ge h.row ee.symm).1; omega)).trans (Below.heap_alloc W tmp q hqb.2))
    rw [cell_of_heap h2] at hu
    exact (hf.2 q hq).2 u hu
end
def AsG (bs : List Nat) (act : Nat → S24 × Bool → Act) (I : List (S24 × Bool) → World → Prop) (a' : Act) (s : List (S24 × Bool) × (S24 × Bool) × World) (W : World) : Prop :=
  ∃ eb : Nat, a' = act eb s.2.1 ∧ W.heap[eb]? = some (.cells #[.int .i64 s.2.1.1.f0, .int .i64 s.2.1.1.f1, .int .i64 s.2.1.1.f2, .bool s.2.1.1.f3] 24 (0, 0)) ∧ I s.1 W ∧ s.2.2.heap.size = eb ∧
    (∀ (k : Nat) (cs : Array Value) (t : TypeId), s.2.2.heap[k]? = some (Obj.cells cs t (0, 0)) → W.heap[k]? = some (Obj.cells cs t (0, 0))) ∧ ∀ b ∈ bs, OffRow W b eb ∧ ∃ (cs : Array Value) (t : TypeId), s.2.2.heap[b]? = some (Obj.cells cs t (0, 0))
theorem AsG.own {B : Nat} {bs : List Nat} {act : Nat → S24 × Bool → Act} {I : List (S24 × Bool) → World → Prop} (hI : OwnFrom B I) (a' : Act) : OwnFrom B (AsG bs act I a') := by
  rintro s A A' row ⟨eb, h1, h2, h3, h4, h5, h6⟩ hg hr
  have key : ∀ k cs t, A.heap[k]? = some (Obj.cells cs t (0, 0)) → A'.heap[k]? = some (Obj.cells cs t (0, 0)) := fun k cs t hk => (hg.block k (blk_lt hk) (fun ee => by
    obtain ⟨_, o, ho, hc⟩ := hr k ee.symm
    rw [hk] at ho; cases ho; cases hc)).trans hk
  refine ⟨eb, h1, key _ _ _ h2, hI _ _ _ _ h3 hg hr, h4, fun k cs t hk => key _ _ _ (h5 k cs t hk), fun b hb => ⟨fun v hv => ?_, (h6 b hb).2⟩⟩
  obtain ⟨cs, t, hc⟩ := (h6 b hb).2
  have e1 := h5 b cs t hc
  rw [cell_of_heap ((key b cs t e1).trans e1.symm)] at hv
  exact (h6 b hb).1 v hv
theorem AsG.kp {d : Nat} {bs : List Nat} {act : Nat → S24 × Bool → Act} {I : List (S24 × Bool) → World → Prop} {a' : Act} {s : List (S24 × Bool) × (S24 × Bool) × World} {W W1 : World} (h : AsG bs act I a' s W)
    (hW : W.heap.size ≤ W1.heap.size) (h1 : ∀ k, k ≠ s.2.2.heap.size → W1.heap[k]? = W.heap[k]?) : KpF d bs s.2.2 W1 := by
  obtain ⟨eb, _, h2, _, h4, h5, h6⟩ := h
  have key : ∀ k cs t, s.2.2.heap[k]? = some (Obj.cells cs t (0, 0)) → W1.heap[k]? = some (Obj.cells cs t (0, 0)) := fun k cs t hk => (h1 k (by have := blk_lt hk; omega)).trans (h5 k cs t hk)
  refine ⟨by have := blk_lt h2; omega, fun k cs t hk hf => ⟨key k cs t hk, hf.1, fun b hb => ⟨(hf.2 b hb).1, fun v hv => ?_⟩⟩⟩
  obtain ⟨cs', t', hc⟩ := (h6 b hb).2
  rw [cell_of_heap ((key b cs' t' hc).trans hc.symm)] at hv
  exact (hf.2 b hb).2 v hv
theorem AsG.start {bs : List Nat} {act : Nat → S24 × Bool → Act} {I : List (S24 × Bool) → World → Prop} {pre : List (S24 × Bool)} {x : S24 × Bool} {W : World} (hI : I pre W) (hIB : ∀ W', Below W.heap.size W W' → I pre W')
    (hb : ∀ b ∈ bs, (∀ k, W.heap.size ≤ k → OffRow W b k) ∧ ∃ cs t, W.heap[b]? = some (.cells cs t (0, 0))) : AsG bs act I (act W.heap.size x) (pre, x, W) (W.alloc (.cells #[.int .i64 x.1.f0, .int .i64 x.1.f1, .int .i64 x.1.f2, .bool x.1.f3] 24)) := by
  have hB := (Below.refl W.heap.size W).alloc (Nat.le_refl _) (.cells #[.int .i64 x.1.f0, .int .i64 x.1.f1, .int .i64 x.1.f2, .bool x.1.f3] 24)
  refine ⟨W.heap.size, rfl, blk_new W _, hIB _ hB, rfl, fun k cs t hk => blk_below hk hB, fun b hbb => ⟨fun v hv => ?_, (hb b hbb).2⟩⟩
  obtain ⟨cs, t, hc⟩ := (hb b hbb).2
  rw [cell_of_heap ((blk_below hc hB).trans hc.symm)] at hv
  exact (hb b hbb).1 _ (Nat.le_refl _) v hv
end Go.Proofs.Ytopmjjnkolfciaa.Pr
end
section
namespace Go.Proofs.Ytopmjjnkolfciaa.Pr
open Go.RowKit Go.Proofs.YtopmjjnkolfciaaW.PrintWords Go.Proofs.YtopmjjnkolfciaaW.PrintLast Go.Proofs.YtopmjjnkolfciaaW.PrintMore
attribute [local go_sem] max2_int min2_int max_two min_two max_three min_three max_four min_four
attribute [local go_sem] Go.Proofs.Ytopmjjnkolfciaa.Hl.str_geq Go.Proofs.Ytopmjjnkolfciaa.Hl.str_gtr Go.Proofs.Ytopmjjnkolfciaa.Hl.str_leq
set_option linter.unusedVariables false
set_option linter.unusedSimpArgs false
open Go.Shelf Go.Proofs.Ytopmjjnkolfciaa.Sq
attribute [local go_sem] Go.Oper.semAt_some
theorem split_made (A0:Option Addr) (n c:Nat) (lo hi:Int) (w:World):Calls Try.prog 39 #[.slice A0 n c,.int .i64 lo,.int .i64 hi] w fun e w' =>
  e=.returned (.func (.func 66) #[] #[.pointer (some ⟨w.heap.size,0,none⟩),.pointer (some ⟨w.heap.size+1,0,none⟩),.pointer (some ⟨w.heap.size+1+1,0,none⟩)]) ∧
   w'=((w.alloc (.cells #[.slice A0 n c] 22)).alloc (.cells #[.int .i64 lo] 3)).alloc (.cells #[.int .i64 hi] 3):=by
 go_enter Try.func39,Try.ntmps39
 go_wp2;go_ret
 exact ⟨rfl,rfl⟩
def MkI (n0 w0:Nat) (w:World) (pre:List (S24×Bool)) (W:World):Prop:=(∃ v,LB 24 4 22 Rw.cells2 (n0+4) n0 (pre.map markP) v W)∧Below w0 w W∧n0+4≤W.heap.size
theorem MkI.own (n0 w0:Nat) (hw0:w0≤n0) (w:World):OwnFrom (n0+4) (MkI n0 w0 w):=by
 rintro s A B row ⟨⟨v,h⟩,hb,hs⟩ hg hr
 exact ⟨⟨v,h.grown hg (fun r e=>(hr r e).2)⟩,hb.grown hg (by omega) (fun k e=>by have:=(hr k e).1;omega),Nat.le_trans hs hg.size⟩
theorem MkI.below {n0 w0:Nat} (hw0:w0≤n0) {w:World} {pre:List (S24×Bool)} {W W':World} (h:MkI n0 w0 w pre W) (hb:Below W.heap.size W W'):MkI n0 w0 w pre W':=by
 obtain ⟨⟨v,h1⟩,h2,h3⟩:=h
 exact ⟨⟨v,h1.below hb⟩,h2.trans (hb.mono (by omega)),Nat.le_trans h3 hb.size⟩
def extent_Cut.f (k:Nat) (l0:List S24) (a1 a2:Int):Option (List S24×List S32×Int):=(extent_ranged.f k l0 a1 a2).bind fun t=>(if t=true then (if (okB l0=true∧0≤a1)∧a1≤a2 then some (cutR l0 a1 a2) else none) else some ([],[],1))
def leftOf (pre:List (S24×Bool)):List S24:=(pre.filter (fun p=>!p.2)).map (·.1)
def spansOf (pre:List (S24×Bool)):List S32:=(pre.filter (fun p=>p.2)).map (fun p=>⟨p.1.f1,p.1.f2⟩)
theorem leftOf_len (pre:List (S24×Bool)):(leftOf pre).length≤pre.length:=by unfold leftOf;rw [List.length_map];exact List.length_filter_le _ _
theorem spansOf_len (pre:List (S24×Bool)):(spansOf pre).length≤pre.length:=by unfold spansOf;rw [List.length_map];exact List.length_filter_le _ _
theorem leftOf_in (pre:List (S24×Bool)) (x:S24×Bool) (h:x.2=true):leftOf (pre++[x])=leftOf pre∧spansOf (pre++[x])=spansOf pre++[⟨x.1.f1,x.1.f2⟩]:=by
 unfold leftOf spansOf
 rw [List.filter_append,List.filter_append,List.map_append,List.map_append]
 simp [h]
theorem leftOf_out (pre:List (S24×Bool)) (x:S24×Bool) (h:x.2=false):leftOf (pre++[x])=leftOf pre++[x.1]∧spansOf (pre++[x])=spansOf pre:=by
 unfold leftOf spansOf
 rw [List.filter_append,List.filter_append,List.map_append,List.map_append]
 simp [h]
def CkI (n0 w0:Nat) (w:World) (pre:List (S24×Bool)) (W:World):Prop:=(∃ v,LB 24 4 22 Rw.cells2 (n0+5) n0 (leftOf pre) v W)∧(∃ v,LB 32 2 28 RwS.cells2 (n0+5) (n0+1) (spansOf pre) v W)∧Below w0 w W∧n0+5≤W.heap.size
theorem CkI.own (n0 w0:Nat) (hw0:w0≤n0) (w:World):OwnFrom (n0+5) (CkI n0 w0 w):=by
 rintro s A B row ⟨⟨v,h⟩,⟨u,h2⟩,hb,hs⟩ hg hr
 exact ⟨⟨v,h.grown hg (fun r e=>(hr r e).2)⟩,⟨u,h2.grown hg (fun r e=>(hr r e).2)⟩,hb.grown hg (by omega) (fun k e=>by have:=(hr k e).1;omega),Nat.le_trans hs hg.size⟩
theorem CkI.below {n0 w0:Nat} (hw0:w0≤n0) {w:World} {pre:List (S24×Bool)} {W W':World} (h:CkI n0 w0 w pre W) (hb:Below W.heap.size W W'):CkI n0 w0 w pre W':=by
 obtain ⟨⟨v,h1⟩,⟨u,h4⟩,h2,h3⟩:=h
 exact ⟨⟨v,h1.below hb⟩,⟨u,h4.below hb⟩,h2.trans (hb.mono (by omega)),Nat.le_trans h3 hb.size⟩
theorem CkI.off {n0 w0:Nat} {w:World} {pre:List (S24×Bool)} {W:World} (h:CkI n0 w0 w pre W) {k b:Nat} (hk:W.heap.size≤k) (hb:b∈[n0,n0+1]):OffRow W b k:=by
 obtain ⟨⟨v,h1⟩,⟨u,h2⟩,_⟩:=h
 rcases List.mem_cons.1 hb with rfl|hb
 ·exact h1.off hk
 ·rw [List.mem_singleton.1 hb];exact h2.off hk
theorem CkI.box {n0 w0:Nat} {w:World} {pre:List (S24×Bool)} {W:World} (h:CkI n0 w0 w pre W) {b:Nat} (hb:b∈[n0,n0+1]):∃ (cs:Array Value) (t:TypeId),W.heap[b]? = some (Obj.cells cs t (0,0)):=by
 obtain ⟨⟨v,h1⟩,⟨u,h2⟩,_⟩:=h
 rcases List.mem_cons.1 hb with rfl|hb
 ·exact ⟨_,_,h1.box⟩
 ·rw [List.mem_singleton.1 hb];exact ⟨_,_,h2.box⟩
abbrev actC (A0:Option Addr) (n c lo hi n0:Nat) (eb:Nat) (x:S24×Bool):Act:={ tmps:=#[.slice A0 n c,.int .i64 lo,.int .i64 hi,undef,undef,undef,.slice none 0 0,.slice none 0 0,.int .i64 0,.pointer (some ⟨n0,0,none⟩),.pointer (some ⟨n0+1,0,none⟩),.pointer (some ⟨eb,0,none⟩),.bool x.2,undef,undef,.slice A0 n c,.int .i64 lo,.int .i64 hi,.bool true,.bool false,.slice A0 n c,.int .i64 lo,.int .i64 hi,
 .func (.func 66) #[] #[.pointer (some ⟨n0+1+1,0,none⟩),.pointer (some ⟨n0+1+1+1,0,none⟩),.pointer (some ⟨n0+1+1+1+1,0,none⟩)],.agg #[.int .i64 x.1.f0,.int .i64 x.1.f1,.int .i64 x.1.f2,.bool x.1.f3],.bool x.2,undef,undef,undef,undef,undef,undef,undef,undef,undef,undef,undef,undef,undef,undef,undef,undef,undef,undef,undef,undef,undef,undef,undef],defers:=[] }
set_option maxHeartbeats 8000000 in
set_option maxRecDepth 100000 in
theorem extent_Cut.calls (k:Nat) (A0:Option Addr) (c0:Nat) (l0:List (S24)) (a1:Int) (a2:Int) (r1:List (S24)) (r2:List (S32)) (r3:Int) (w:World) (hr0:Kd.C k24 w A0 l0.length l0) (hc0:l0.length≤c0) (h:extent_Cut.f k l0 a1 a2=some (r1,r2,r3)) :
  Calls Try.prog 13 #[.slice A0 l0.length c0,.int .i64 a1,.int .i64 a2] w fun e w'=>∃ v0_ v1_:Value,e=.returned (.tuple #[v0_,v1_,.int .i64 r3])∧Kd.R k24 24 w' w.heap.size (fun _=>True) v0_ r1∧Kd.R k32 32 w' w.heap.size (fun _=>True) v1_ r2∧Below w.heap.size w w':=by
 unfold extent_Cut.f at h
 obtain ⟨t,ht,h⟩:=Option.bind_eq_some_iff.1 h
 have hu24:=Try.underlying24
 have hu32:=Try.underlying32
 have HR0:=am hr0
 have HC0:=am hc0
 have HT:=am ht
 clear hr0 hc0 ht
 cases t with
 | true =>
  rw [if_pos rfl] at h
  by_cases hok:(okB l0=true∧0≤a1)∧a1≤a2
  ·rw [if_pos hok] at h
   have HOK:=am (okB_facts hok.1.1)
   have HM:=am (show cutR l0 a1 a2=(r1,r2,r3) from Option.some.inj h)
   obtain ⟨lo,rfl⟩:∃ lo:Nat,a1=(lo:Int):=⟨a1.toNat,by omega⟩
   obtain ⟨hi,rfl⟩:∃ hi:Nat,a2=(hi:Int):=⟨a2.toNat,by omega⟩
   clear h hok
   refine (callsIn_wide (n:=6)).1 ?_
   refine callsIn_of_wp_marks Try.func13 rfl trivial ?_ rfl
   simp only [Try.ntmps13,List.size_toArray,List.length_cons,List.length_nil,Nat.reduceAdd,Nat.reduceSub,Array.replicate_succ,Array.replicate_zero,List.push_toArray,List.append_toArray,List.nil_append,List.cons_append]
   gi_wp2_with (first|(refine ⟨trivial,?_⟩;gi_at_call 39;refine (callsIn_wide.2 (split_made A0 l0.length c0 (lo:Int) (hi:Int) _)).mono ?_;rintro e3 w3 ⟨rfl,hw3⟩;have HW3:=am hw3;clear hw3)|(refine ⟨trivial,?_⟩;gi_at_call 38;refine (callsIn_wide.2 (extent_ranged.calls k A0 c0 l0 (lo:Int) (hi:Int) true _ HR0.out HC0.out HT.out)).mono ?_;rintro e2 w2 ⟨rfl,hb2⟩;have HB2:=am hb2;clear hb2))
   obtain ⟨n0,hn0⟩:∃ n0,w2.heap.size=n0:=⟨_,rfl⟩
   have HW0:=am (show w.heap.size≤n0 by rw [← hn0];exact HB2.out.size)
   have hsz:w3.heap.size=n0+5:=by rw [HW3.out];simp [hn0]
   have hb3:Below w.heap.size w w3:=by
    rw [HW3.out]
    exact ((((HB2.out.alloc HB2.out.size _).alloc (by simp;have:=HB2.out.size;omega) _).alloc (by simp;have:=HB2.out.size;omega) _).alloc (by simp;have:=HB2.out.size;omega) _).alloc (by simp;have:=HB2.out.size;omega) _
   have hbx0:w3.heap[n0]? = some (.cells #[.slice none 0 0] 22 (0,0)):=by
    have h1:=blk_new w2 (.cells #[.slice none 0 0] 22)
    rw [hn0] at h1
    rw [HW3.out];exact blk_alloc (blk_alloc (blk_alloc (blk_alloc (h1) _) _) _) _
   have hbx1:w3.heap[n0+1]? = some (.cells #[.slice none 0 0] 28 (0,0)):=by
    have h1:=blk_new (w2.alloc (.cells #[.slice none 0 0] 22)) (.cells #[.slice none 0 0] 28)
    rw [World.size_alloc,hn0] at h1
    rw [HW3.out];exact blk_alloc (blk_alloc (blk_alloc (h1) _) _) _
   have hbx2:w3.heap[n0+1+1]? = some (.cells #[.slice A0 l0.length c0] 22 (0,0)):=by
    have h1:=blk_new ((w2.alloc (.cells #[.slice none 0 0] 22)).alloc (.cells #[.slice none 0 0] 28)) (.cells #[.slice A0 l0.length c0] 22)
    rw [World.size_alloc,World.size_alloc,hn0] at h1
    rw [HW3.out];exact blk_alloc (blk_alloc (h1) _) _
   have hbx3:w3.heap[n0+1+1+1]? = some (.cells #[.int .i64 (lo:Int)] 3 (0,0)):=by
    have h1:=blk_new (((w2.alloc (.cells #[.slice none 0 0] 22)).alloc (.cells #[.slice none 0 0] 28)).alloc (.cells #[.slice A0 l0.length c0] 22)) (.cells #[.int .i64 (lo:Int)] 3)
    rw [World.size_alloc,World.size_alloc,World.size_alloc,hn0] at h1
    rw [HW3.out];exact blk_alloc (h1) _
   have hbx4:w3.heap[n0+1+1+1+1]? = some (.cells #[.int .i64 (hi:Int)] 3 (0,0)):=by
    have h1:=blk_new ((((w2.alloc (.cells #[.slice none 0 0] 22)).alloc (.cells #[.slice none 0 0] 28)).alloc (.cells #[.slice A0 l0.length c0] 22)).alloc (.cells #[.int .i64 (lo:Int)] 3)) (.cells #[.int .i64 (hi:Int)] 3)
    rw [World.size_alloc,World.size_alloc,World.size_alloc,World.size_alloc,hn0] at h1
    rw [HW3.out];exact h1
   have hI0:CkI n0 w.heap.size w [] w3:=⟨⟨_,hbx0,World.ownsRow_nil _ _ _ _⟩,⟨_,hbx1,World.ownsRow_nil _ _ _ _⟩,hb3,by omega⟩
   have hoff:∀ b∈[n0,n0+1],∀ k,OffRow w3 b k:=fun b hb k v hv=>by
    have hv2:some v=some (.slice none 0 0):=by
     rcases List.mem_cons.1 hb with rfl|hb
     ·exact hv.symm.trans (blk_cell hbx0 0)
     ·rw [List.mem_singleton.1 hb] at hv;exact hv.symm.trans (blk_cell hbx1 0)
    rw [Option.some.inj hv2];simp [Value.ownBlock]
   rw [hn0]
   clear hn0 HW3 HB2 hb3
   have HBX0:=am hbx0
   have HBX1:=am hbx1
   have HBX2:=am hbx2
   have HBX3:=am hbx3
   have HBX4:=am hbx4
   have HI0:=am hI0
   have HOFF:=am hoff
   clear hbx0 hbx1 hbx2 hbx3 hbx4 hI0 hoff
   obtain ⟨i0,hi0,hz3⟩:=Option.map_eq_some_iff.1 info24
   simp only [Prod.mk.injEq] at hz3
   have HZ:=am hz3
   have HI:=am hi0
   obtain ⟨i1,hi1,hz4⟩:=Option.map_eq_some_iff.1 info32
   simp only [Prod.mk.injEq] at hz4
   have HZS:=am hz4
   have HIS:=am hi1
   clear hz3 hi0 hz4 hi1
   refine range_state (α:=S24×Bool) rfl (by decide) (gf:=66) (lb:=#[.pointer (some ⟨n0+1+1,0,none⟩),.pointer (some ⟨n0+1+1+1,0,none⟩),.pointer (some ⟨n0+1+1+1+1,0,none⟩)]) rfl trivial (enters_of Try.func66 (by kernel_rfl) rfl)
    (fun x=>#[.agg #[.int .i64 x.1.f0,.int .i64 x.1.f1,.int .i64 x.1.f2,.bool x.1.f3],.bool x.2]) (fun _=>rfl) (KpF (n0+5) [n0,n0+1]) (fun xs=>xs=piecesL l0 lo hi) (fun _=>False) 180 KpF.trans (fun W o=>by rw [hsz];exact KpF.put (by intro b hb;simp at hb;omega) W o)
    (CkI n0 w.heap.size w) (fun _ _ _=>False) (by rw [hsz];exact CkI.own n0 w.heap.size HW0.out w) (fun c=>by rintro s A B row h _ _;exact h) HI0.out
    (AsG [n0,n0+1] (actC A0 l0.length c0 lo hi n0) (CkI n0 w.heap.size w)) (fun a'=>by rw [hsz];exact AsG.own (CkI.own n0 w.heap.size HW0.out w) a') ?hit ?assign ?body ?done ?stop
   case hit =>
    intro l R Rx W hRk hRxk hRs hBW hY hI0 hR0
    have ow:∀ {k cs t},k≠n0→k≠n0+1→w3.heap[k]? = some (.cells cs t (0,0))→Own1 (n0+5) [n0,n0+1] W k cs t:=fun {k cs t} hk hk1 hh=>⟨(hBW.block k (blk_lt hh)).trans hh,by have:=blk_lt hh;rw [hsz] at this;omega,fun b hb=>by
     refine ⟨fun ee=>?_,fun v hv=>?_⟩
     ·rcases List.mem_cons.1 hb with e1|hb
      ·exact hk (ee.trans e1)
      ·exact hk1 (ee.trans (List.mem_singleton.1 hb))
     ·obtain ⟨cs',t',hbb⟩:=HI0.out.box hb
      rw [cell_of_heap (hBW.block b (blk_lt hbb))] at hv
      exact HOFF.out b hb k v hv⟩
    refine (split_in 5 (by decide) l (n0+5) [n0,n0+1] (by intro b hb;simp at hb;omega) (n0+1+1) (n0+1+1+1) (n0+1+1+1+1) A0 c0 l0 HC0.out HOK.out.1 (List.all_eq_true.1 HOK.out.2.1) lo hi (CkI n0 w.heap.size w) R Rx 180 (Nat.le_refl _)
     (fun pre W h=>Kd.C_below HR0.out h.2.2.1) (fun pre W W' h hb=>h.below HW0.out hb) (fun pre W h k hk b hb=>h.off hk hb)
     (fun W W' h hb=>hRk _ _ ⟨hb.size,fun k o _ hk _=>(hb.block k (Array.getElem?_eq_some_iff.1 hk).1).trans hk⟩ h) (fun W h=>by have:=hRs W h;rw [hsz] at this;exact this) hY W (ow (by omega) (by omega) HBX2.out) (ow (by omega) (by omega) HBX3.out) (ow (by omega) (by omega) HBX4.out) hI0 hR0).mono ?_
    rintro e W' ⟨⟨v,rfl⟩,hI9,hR9⟩
    exact ⟨⟨v,rfl⟩,.inl ⟨_,rfl,hI9,hR9⟩⟩
   case assign =>
    intro l pre x W K hIp hlen hszW hK
    have hq:=AsG.start (bs:=[n0,n0+1]) (act:=actC A0 l0.length c0 lo hi n0) (x:=x) hIp (fun W' hb=>hIp.below HW0.out hb) (fun b hb=>⟨fun k hk=>hIp.off hk hb,hIp.box hb⟩)
    gi_wp2
    exact hK _ _ ((KeepsOthers.alloc W _).from _) hq
   case body =>
    rintro l pre x a' W0 W has hlen
    have has2:=has
    obtain ⟨eb,rfl,hE,⟨⟨v,hLB⟩,⟨u,hSB⟩,hBel,hszW⟩,heb,hkeep,hbb⟩:=has2
    dsimp only at hE hLB hSB heb hkeep hbb
    have hoe:=(hbb n0 (by simp)).1 v hLB.cell
    obtain ⟨M,hM⟩:∃ M,M=leftOf pre:=⟨_,rfl⟩
    have HM2:=am hM
    have HLEN:=am (show M.length≤180 by rw [hM];have:=leftOf_len pre;omega)
    rw [← hM] at hLB
    obtain ⟨Z,hZ⟩:∃ Z,Z=spansOf pre:=⟨_,rfl⟩
    have HZ2:=am hZ
    have HLENZ:=am (show Z.length≤180 by rw [hZ];have:=spansOf_len pre;omega)
    rw [← hZ] at hSB
    clear hM hZ
    obtain ⟨A,c,rfl⟩:=hLB.slice
    obtain ⟨A2,c2,rfl⟩:=hSB.slice
    have HLB1:=am hLB
    have HSB1:=am hSB
    have HAS:=am has
    have HBEL1:=am hBel
    have hv:=hLB.cell
    have hfv:=blk_frozen hLB.box 0
    have hv2:=hSB.cell
    have hfv2:=blk_frozen hSB.box 0
    have hce0:=(blk_cell hE 0).trans rfl
    have hce1:=(blk_cell hE 1).trans rfl
    have hce2:=(blk_cell hE 2).trans rfl
    have hce3:=(blk_cell hE 3).trans rfl
    have HEB:=am heb
    clear has hLB hSB hE hbb hkeep hBel heb
    cases hx2:x.2 with
    | true =>
     have HX:=am (leftOf_in pre x hx2)
     have HNEW:=am (show ∀ (j:Nat) (q:Value),(RwS.cells2 (⟨x.1.f1,x.1.f2⟩:S32))[j]? = some q→(W.alloc (.cells #[.int .i64 x.1.f1,.int .i64 x.1.f2] 32)).cell? ((⟨W.heap.size,0,none⟩:Addr).add j)=some q by
      intro j q hq
      rw [add_plain,blk_cell (blk_new W _) j,← hq];simp [RwS.cells2])
     have HONE:=am (show ∀ q∈RwS.cells2 (⟨x.1.f1,x.1.f2⟩:S32),q.oneCell'=true by intro q hq;simp only [RwS.cells2,List.mem_cons,List.not_mem_nil,or_false] at hq;rcases hq with rfl|rfl<;>rfl)
     gi_wp2_with (gi_at_builtin;refine wpListIn_append_own_at _ rfl _ _ 28 rfl (n0+5) 32 i1 (.agg #[.int .i64 0,.int .i64 0]) 2 16 Try.underlying28 HIS.out HZS.out.1 HZS.out.2.1 HZS.out.2.2 rfl (by decide) _ _ _ rfl (HSB1.out.row.alloc _) ⟨W.heap.size,0,none⟩ 1 1 (RwS.cells2 (⟨x.1.f1,x.1.f2⟩:S32)) rfl rfl HNEW.out HONE.out (by have:=HLENZ.out;unfold maxLen;omega) (by have:=HLENZ.out;omega) (by simp;omega) ?_;intro v' w1 hown' hgrow _ hat;obtain ⟨g',cap',rfl⟩:=ownsRow_succ hown';obtain ⟨hq1,hLBq⟩:=HSB1.out.app (by omega) hgrow hown';have hqc:=blk_cell hq1 0;have hqf:=blk_frozen hq1 0;have HGROW:=am hgrow;have HAT:=am hat;have HLBQ:=am hLBq;have HQ1:=am hq1;clear hgrow hat hLBq hq1 hown')
     obtain ⟨hbel9,hsz9⟩:=HSB1.out.bel (by omega) (by have:=HW0.out;omega) HBEL1.out (.slice (some ⟨g',0,none⟩) (Z.length+1) cap') HGROW.out
     refine ⟨(HSB1.out.keeps (.slice (some ⟨g',0,none⟩) (Z.length+1) cap') HGROW.out).from _,(HAS.out.kp (Nat.le_refl _) (fun k hk=>rfl)).trans (KpF.app HSB1.out (by simp) (by intro q hq;simp at hq;omega) HGROW.out HAT.out HQ1.out),⟨_,by rw [HX.out.1,← HM2.out];exact HSB1.out.other HLB1.out (by decide) (by omega) (by omega) (by omega) _ HGROW.out⟩,⟨_,by rw [HX.out.2,← HZ2.out];exact HLBQ.out⟩,hbel9,Nat.le_trans hszW hsz9⟩
    | false =>
     have HX:=am (leftOf_out pre x hx2)
     have HNEW:=am (show ∀ (j:Nat) (q:Value),(Rw.cells2 x.1)[j]? = some q→(W.alloc (.cells #[.int .i64 x.1.f0,.int .i64 x.1.f1,.int .i64 x.1.f2,.bool x.1.f3] 24)).cell? ((⟨W.heap.size,0,none⟩:Addr).add j)=some q by
      intro j q hq
      rw [add_plain,blk_cell (blk_new W _) j,← hq];simp [Rw.cells2])
     have HONE:=am (show ∀ q∈Rw.cells2 x.1,q.oneCell'=true by intro q hq;simp only [Rw.cells2,List.mem_cons,List.not_mem_nil,or_false] at hq;rcases hq with rfl|rfl|rfl|rfl<;>rfl)
     gi_wp2_with (gi_at_builtin;refine wpListIn_append_own_at _ rfl _ _ 22 rfl (n0+5) 24 i0 (.agg #[.int .i64 0,.int .i64 0,.int .i64 0,.bool false]) 4 32 Try.underlying22 HI.out HZ.out.1 HZ.out.2.1 HZ.out.2.2 rfl (by decide) _ _ _ rfl (HLB1.out.row.alloc _) ⟨W.heap.size,0,none⟩ 1 1 (Rw.cells2 x.1) rfl rfl HNEW.out HONE.out (by have:=HLEN.out;unfold maxLen;omega) (by have:=HLEN.out;omega) (by simp;omega) ?_;intro v' w1 hown' hgrow _ hat;obtain ⟨g',cap',rfl⟩:=ownsRow_succ hown';obtain ⟨hq1,hLBq⟩:=HLB1.out.app (by omega) hgrow hown';have hqc:=blk_cell hq1 0;have hqf:=blk_frozen hq1 0;have HGROW:=am hgrow;have HAT:=am hat;have HLBQ:=am hLBq;have HQ1:=am hq1;clear hgrow hat hLBq hq1 hown')
     obtain ⟨hbel9,hsz9⟩:=HLB1.out.bel (by omega) HW0.out HBEL1.out (.slice (some ⟨g',0,none⟩) (M.length+1) cap') HGROW.out
     refine ⟨(HLB1.out.keeps (.slice (some ⟨g',0,none⟩) (M.length+1) cap') HGROW.out).from _,(HAS.out.kp (Nat.le_refl _) (fun k hk=>rfl)).trans (KpF.app HLB1.out (by simp) (by intro q hq;simp at hq;omega) HGROW.out HAT.out HQ1.out),⟨_,by rw [HX.out.1,← HM2.out];exact HLBQ.out⟩,⟨_,by rw [HX.out.2,← HZ2.out];exact HLB1.out.other HSB1.out (by decide) (by omega) (by omega) (by omega) _ HGROW.out⟩,hbel9,Nat.le_trans hszW hsz9⟩
   case done =>
    rintro D xs W hD rfl ⟨⟨v,hLB⟩,⟨u,hSB⟩,hBel,hszW⟩ hK
    obtain ⟨M,hM⟩:∃ M,leftL l0 lo hi=M:=⟨_,rfl⟩
    obtain ⟨Z,hZ⟩:∃ Z,spansL l0 lo hi=Z:=⟨_,rfl⟩
    have hLB2:LB 24 4 22 Rw.cells2 (n0+5) n0 M v W:=by rw [← hM];exact hLB
    have hSB2:LB 32 2 28 RwS.cells2 (n0+5) (n0+1) Z u W:=by rw [← hZ];exact hSB
    have hlen:M.length < 4398046511104:=by rw [← hM];have:=leftOf_len (piecesL l0 lo hi);have:=piecesL_len l0 lo hi;have:=HOK.out.1;show (leftOf (piecesL l0 lo hi)).length < _;omega
    have hmr:=merged_f M hlen (M.length+1) (Nat.lt_succ_self _)
    have hfin:=HM.out
    unfold cutR at hfin
    rw [hM,hZ] at hfin
    obtain ⟨q,hq⟩:∃ q,fitL (mergeL M)=q:=⟨_,rfl⟩
    rw [hq] at hfin hmr
    obtain ⟨q1,q2⟩:=q
    dsimp only at hfin
    have HMR:=am hmr
    obtain ⟨A,c,rfl⟩:=hLB2.slice
    obtain ⟨A2,c2,rfl⟩:=hSB2.slice
    have hR:=Kd.R_reads' (Rw.flat_R (ok:=fun _=>True) hLB2.row (fun _ _=>trivial))
    have HCR:=am hR.2.2
    have HLE:=am hR.2.1
    have HBEL:=am hBel
    have HKD:=am hK
    have HSR:=am (RwS.flat_R (ok:=fun _=>True) hSB2.row (fun _ _=>trivial))
    have HSB2:=am hSB2
    have hv:=hLB2.cell
    clear hmr hlen hM hZ hR hLB hSB hLB2 hSB2 hBel hK hq
    have hDw:w.heap.size≤D:=by have:=HW0.out;omega
    by_cases hz:q2=0
    ·rw [if_pos hz] at hfin
     obtain ⟨rfl,h9⟩:=Prod.mk.inj hfin
     obtain ⟨rfl,rfl⟩:=Prod.mk.inj h9
     subst hz
     clear hfin h9
     gi_wp2_with (refine ⟨trivial,?_⟩;gi_at_call 40;refine (callsIn_wide.2 (extent_merged.calls _ A c M q1 0 _ HCR.out HLE.out HMR.out)).mono ?_;rintro e9 w9 ⟨v9,rfl,ho9,hb9⟩;have HO9:=am ho9;have HB9:=am hb9;have hv9:=(HSB2.out.below hb9).cell;clear ho9 hb9)
     gi_region
     all_goals
      gi_wp2
      have hK9:w9.drew.heap[D]? = some (.deferred (some [])):=(HB9.out.block D (Array.getElem?_eq_some_iff.1 HKD.out).1).trans HKD.out
      have hneD:(some D)≠v9.ownBlock:=fun ee=>by
       obtain ⟨_,cs,hh⟩:=own_ge (Rw.R_flat HO9.out) ee.symm
       rw [show w9.heap[D]? = some (.deferred (some [])) from hK9] at hh;cases hh
      have hneS:(some D)≠(Value.slice A2 Z.length c2).ownBlock:=fun ee=>by
       obtain ⟨_,cs,hh⟩:=own_ge (HSB2.out.below HB9.out).row ee.symm
       rw [show w9.heap[D]? = some (.deferred (some [])) from hK9] at hh;cases hh
      refine ⟨by simp,.inl ⟨_,_,rfl,run_takeDeferred hK9,?_⟩⟩
      exact ⟨_,by simp [results,Try.results13,go_sem],_,_,rfl,Kd.R_grown1 (Kd.R_drew (Kd.R_lower HO9.out HBEL.out.size)) rfl (grownBy_putObj' w9.drew D _) hneD,Kd.R_grown1 (Kd.R_drew (Kd.R_below (Kd.R_lower HSR.out (by have:=HW0.out;omega)) HB9.out)) rfl (grownBy_putObj' w9.drew D _) hneS,(below_drew1 (HBEL.out.trans (HB9.out.mono HBEL.out.size))).grown (grownBy_putObj' w9.drew D _) (by have:=HBEL.out.size;have:=HB9.out.size;show _≤w9.heap.size;omega) (fun k ek=>by have:=Option.some.inj ek;omega)⟩
    ·rw [if_neg hz] at hfin
     obtain ⟨rfl,h9⟩:=Prod.mk.inj hfin
     obtain ⟨rfl,rfl⟩:=Prod.mk.inj h9
     have hzb:(q2 != 0)=true:=by simpa using hz
     clear hfin h9 hz
     gi_wp2_with (refine ⟨trivial,?_⟩;gi_at_call 40;refine (callsIn_wide.2 (extent_merged.calls _ A c M q1 q2 _ HCR.out HLE.out HMR.out)).mono ?_;rintro e9 w9 ⟨v9,rfl,ho9,hb9⟩;have HB9:=am hb9;clear ho9 hb9)
     have hK9:w9.heap[D]? = some (.deferred (some [])):=(HB9.out.block D (Array.getElem?_eq_some_iff.1 HKD.out).1).trans HKD.out
     refine ⟨by simp,.inl ⟨_,_,rfl,run_takeDeferred hK9,?_⟩⟩
     exact ⟨_,by simp [results,Try.results13,go_sem],_,_,rfl,Kd.R_nil _ _ _ _ _,Kd.R_nil _ _ _ _ _,(HBEL.out.trans (HB9.out.mono HBEL.out.size)).grown (grownBy_putObj' w9 D _) (by have:=HBEL.out.size;have:=HB9.out.size;omega) (fun k ek=>by have:=Option.some.inj ek;omega)⟩
   case stop =>
    intro D c pre W _ _ h _
    exact h.elim
  ·rw [if_neg hok] at h
   cases h
 | false =>
  rw [if_neg (by decide)] at h
  obtain ⟨rfl,h9⟩:=Prod.mk.inj (Option.some.inj h)
  obtain ⟨rfl,rfl⟩:=Prod.mk.inj h9
  clear h h9
  go_enter Try.func13,Try.ntmps13
  go_wp2_with (go_at_call 38;refine (extent_ranged.calls k A0 c0 l0 a1 a2 false _ HR0.out HC0.out HT.out).mono ?_;rintro e2 w2 ⟨rfl,hb2⟩;have HB2:=am hb2;clear hb2)
  go_ret3
  exact ⟨_,_,rfl,Kd.R_nil _ _ _ _ _,Kd.R_nil _ _ _ _ _,HB2.out⟩
end Go.Proofs.Ytopmjjnkolfciaa.Pr
end
section
namespace Go.Proofs.Ytopmjjnkolfciaa.Pr
open Go.RowKit Go.Proofs.YtopmjjnkolfciaaW.PrintWords Go.Proofs.YtopmjjnkolfciaaW.PrintLast Go.Proofs.YtopmjjnkolfciaaW.PrintMore
set_option linter.unusedVariables false
set_option linter.unusedSimpArgs false
abbrev EX := S24
abbrev SP := S32
theorem w64 {n : Int} (h0 : -9223372036854775808 ≤ n) (h1 : n ≤ 9223372036854775807) : wrap64 n = n := by unfold wrap64; omega
theorem bs {α β : Type} (a : α) (f : α → Option β) : (some a).bind f = f a := by
  cases h : f a with
  | none => exact (Option.bind_some a f).trans h
  | some v => exact (Option.bind_some a f).trans h
theorem Ev.succ {α : Type} {g : Nat → Option α} {r : α} (h : Ev (fun k => g (k + 1)) r) : Ev g r := Ev.step (fun _ => rfl) h
theorem may_f (e : EX) : extent_may.f e.f0 e.f1 e.f2 e.f3 = some (mayE e) := by
  unfold extent_may.f extent_end.f extent_last.f
  by_cases h0 : e.f0 ≥ 0
  · rw [if_pos h0]
    by_cases h1 : e.f1 > 0
    · rw [if_pos h1]
      by_cases h2 : e.f2 > 0
      · rw [if_pos h2]
        by_cases h3 : e.f2 ≤ 256
        · rw [if_pos h3, bs]
          by_cases h7 : e.f0 < 256
          · rw [w64 (by omega) (by omega)]
            by_cases h4 : e.f0 + e.f2 ≤ 256
            · rw [if_pos h4]
              by_cases h5 : e.f1 < 1024
              · rw [if_pos h5, bs, w64 (by omega) (by omega)]
                by_cases h6 : e.f1 + e.f2 ≤ 1024
                · rw [if_pos h6]
                  exact congrArg some (decide_eq_decide.2 (by omega))
                · rw [if_neg h6]; exact congrArg some (decide_eq_false (by omega)).symm
              · rw [if_neg h5]; exact congrArg some (decide_eq_false (by omega)).symm
            · rw [if_neg h4]; exact congrArg some (decide_eq_false (by omega)).symm
          · have hm : mayE e = false := decide_eq_false (by omega)
            rw [hm, decide_eq_false h7]
            split
            · split
              · rw [bs]; split <;> rfl
              · rfl
            · rfl
        · rw [if_neg h3]; exact congrArg some (decide_eq_false (by omega)).symm
      · rw [if_neg h2]; exact congrArg some (decide_eq_false (by omega)).symm
    · rw [if_neg h1]; exact congrArg some (decide_eq_false (by omega)).symm
  · rw [if_neg h0]; exact congrArg some (decide_eq_false (by omega)).symm
def stB (l : List EX) (i : Nat) : Bool := mayE (l.getD i z24) && (decide (i = 0) || (!decide ((l.getD i z24).f0 < (l.getD (i - 1) z24).f0 + (l.getD (i - 1) z24).f2) && !goesR (l.getD (i - 1) z24) (l.getD i z24)))
def preB (l : List EX) : Bool := (List.range l.length).all (stB l)
def chkB (l : List EX) : Bool := decide (l.length ≤ 60) && (preB l && apartL l)
def chk (l : List EX) : Int := if chkB l = true then 0 else 1
theorem preB_iff {l : List EX} : preB l = true ↔ ∀ i, i < l.length → stB l i = true := by
  unfold preB
  rw [List.all_eq_true]
  exact ⟨fun h i hi => h i (List.mem_range.2 hi), fun h i hi => h i (List.mem_range.1 hi)⟩
theorem getD_el {l : List EX} {i : Nat} (h : i < l.length) : l.getD i z24 = l[i] := by rw [List.getD_eq_getElem?_getD, List.getElem?_eq_getElem h]; rfl
theorem stB_may {l : List EX} {i : Nat} (h : stB l i = true) (hi : i < l.length) : mayE l[i] = true := by
  unfold stB at h
  rw [Bool.and_eq_true, getD_el hi] at h
  exact h.1
theorem pre_may {l : List EX} (h : preB l = true) : ∀ e ∈ l, mayE e = true := by
  intro e he
  obtain ⟨i, hi, rfl⟩ := List.getElem_of_mem he
  exact stB_may (preB_iff.1 h i hi) hi
theorem pre_step {l : List EX} (h : preB l = true) {i : Nat} (hi : i + 1 < l.length) : l[i].f0 + l[i].f2 ≤ l[i + 1].f0 ∧ goesR l[i] l[i + 1] = false := by
  have := preB_iff.1 h (i + 1) hi
  unfold stB at this
  rw [Bool.and_eq_true, Bool.or_eq_true, getD_el hi, Nat.add_sub_cancel, getD_el (show i < l.length by omega)] at this
  rcases this.2 with h2 | h2
  · have := of_decide_eq_true h2; omega
  · rw [Bool.and_eq_true, Bool.not_eq_true', Bool.not_eq_true'] at h2
    exact ⟨by have := of_decide_eq_false h2.1; omega, h2.2⟩
theorem pre_rise {l : List EX} (h : preB l = true) : riseL l := by
  refine List.pairwise_iff_getElem.2 fun i j hi hj hij => ?_
  obtain ⟨d, rfl⟩ : ∃ d, j = i + 1 + d := ⟨j - (i + 1), by omega⟩
  clear hij
  induction d with
  | zero => exact (pre_step h hj).1
  | succ d ih =>
    have h1 := ih (by omega)
    have h2 := (pre_step h (i := i + 1 + d) (by omega)).1
    have h3 := mayE_facts (pre_may h _ (List.getElem_mem (show i + 1 + d < l.length by omega)))
    have e : l[i + 1 + (d + 1)] = l[i + 1 + d + 1] := rfl
    rw [e]
    omega
theorem chk_ok {l : List EX} (h : chkB l = true) : l.length ≤ 60 ∧ preB l = true ∧ apartL l = true := by
  unfold chkB at h
  rw [Bool.and_eq_true, Bool.and_eq_true, decide_eq_true_eq] at h
  exact ⟨h.1, h.2.1, h.2.2⟩
theorem chk_okB {l : List EX} (h : chkB l = true) : okB l = true := by
  obtain ⟨h1, h2, _⟩ := chk_ok h
  exact okB_of h1 (pre_may h2) (pre_rise h2)
theorem chk_bad {l : List EX} (h : ¬ chkB l = true) : chk l = 1 := if_neg h
theorem chk_good {l : List EX} (h : chkB l = true) : chk l = 0 := if_pos h
theorem stB_rest {l : List EX} {i : Nat} (hi : i < l.length) (hp : ∀ j, j < i → stB l j = true) (hm : mayE l[i] = true) :
    stB l i = (decide (i = 0) || (!decide (l[i].f0 < wrap64 ((l.getD (i - 1) z24).f0 + (l.getD (i - 1) z24).f2)) && !goesR (l.getD (i - 1) z24) l[i])) := by
  unfold stB
  rw [getD_el hi, hm, Bool.true_and]
  by_cases h0 : i = 0
  · rw [decide_eq_true h0, Bool.true_or, Bool.true_or]
  · have h1 : i - 1 < l.length := by omega
    have := mayE_facts (stB_may (hp (i - 1) (by omega)) h1)
    rw [getD_el h1, w64 (by omega) (by omega)]
theorem codeCheck_l0 (l : List EX) (hl : l.length ≤ 60) : ∀ (d i : Nat), i + d = l.length → (∀ j, j < i → stB l j = true) → Ev (fun k => extent_Check.l0 k l l (l.length : Int) (i : Int)) (chk l)
  | 0, i, hd, hp => by
    refine Ev.succ ?_
    have hpre : preB l = true := preB_iff.2 fun j hj => hp j (by omega)
    have hap : extent_apart.f l = some (apartL l) := by
      unfold extent_apart.f
      rw [if_pos ⟨List.all_eq_true.2 fun e he => mayE_D (pre_may hpre e he), by omega⟩]
    have hc : chkB l = apartL l := by unfold chkB; rw [decide_eq_true hl, hpre, Bool.true_and, Bool.true_and]
    have a1 : ¬ ((i : Int) < (l.length : Int)) := by omega
    refine Ev.congr (f := fun _ => some (chk l)) (fun k => ?_) (Ev.now _)
    rw [extent_Check.l0, if_neg a1, hap, bs]
    cases ha : apartL l
    · rw [if_neg (by decide), chk_bad (by rw [hc, ha]; decide)]
    · rw [if_pos rfl, chk_good (by rw [hc, ha])]
  | d + 1, i, hd, hp => by
    refine Ev.succ ?_
    have hi : i < l.length := by omega
    have hrd : rd_T24 l (i : Int) = l[i] := rd_in hi
    have a1 : (i : Int) < (l.length : Int) := by omega
    have a2 : (0 : Int) ≤ (i : Int) := by omega
    have bad : stB l i = false → chk l = 1 := fun h => chk_bad fun hc => by
      have := preB_iff.1 (chk_ok hc).2.1 i hi
      rw [h] at this; cases this
    have hw : wrap64 ((i : Int) + 1) = ((i + 1 : Nat) : Int) := by unfold wrap64; omega
    by_cases hm : mayE l[i] = true
    · have hst := stB_rest hi hp hm
      have next : stB l i = true → Ev (fun k => extent_Check.l0 k l l (l.length : Int) (wrap64 ((i : Int) + 1))) (chk l) := fun h => by
        rw [hw]
        exact codeCheck_l0 l hl d (i + 1) (by omega) fun j hj => by
          by_cases e : j = i
          · rw [e]; exact h
          · exact hp j (by omega)
      by_cases h0 : (i : Int) > 0
      · have h1 : wrap64 ((i : Int) - 1) = ((i - 1 : Nat) : Int) := by unfold wrap64; omega
        have hrd1 : rd_T24 l ((i - 1 : Nat) : Int) = l.getD (i - 1) z24 := rfl
        have a3 : (0 : Int) ≤ ((i - 1 : Nat) : Int) := by omega
        have a4 : ((i - 1 : Nat) : Int) < (l.length : Int) := by omega
        obtain ⟨p, hpp⟩ : ∃ p, l.getD (i - 1) z24 = p := ⟨_, rfl⟩
        rw [hpp] at hst hrd1
        rw [decide_eq_false (show ¬ i = 0 by omega), Bool.false_or] at hst
        by_cases c1 : l[i].f0 < wrap64 (p.f0 + p.f2)
        · rw [decide_eq_true c1] at hst
          refine Ev.congr (f := fun _ => some (chk l)) (fun k => ?_) (Ev.now _)
          rw [extent_Check.l0, if_pos a1, if_pos a2, if_pos a1, hrd, may_f, bs, if_pos hm, if_pos h0, h1, if_pos a3, if_pos a4, hrd1, extent_end.f, bs, if_pos c1, bad hst]
        · rw [decide_eq_false c1] at hst
          cases hg : goesR p l[i]
          · rw [hg] at hst
            refine Ev.congr (fun k => ?_) (next hst)
            rw [extent_Check.l0, if_pos a1, if_pos a2, if_pos a1, hrd, may_f, bs, if_pos hm, if_pos h0, h1, if_pos a3, if_pos a4, hrd1, extent_end.f, bs, if_neg c1, goesC_f, bs, hg, if_neg (by decide)]
          · rw [hg] at hst
            refine Ev.congr (f := fun _ => some (chk l)) (fun k => ?_) (Ev.now _)
            rw [extent_Check.l0, if_pos a1, if_pos a2, if_pos a1, hrd, may_f, bs, if_pos hm, if_pos h0, h1, if_pos a3, if_pos a4, hrd1, extent_end.f, bs, if_neg c1, goesC_f, bs, hg, if_pos rfl, bad hst]
      · rw [decide_eq_true (show i = 0 by omega), Bool.true_or] at hst
        refine Ev.congr (fun k => ?_) (next hst)
        rw [extent_Check.l0, if_pos a1, if_pos a2, if_pos a1, hrd, may_f, bs, if_pos hm, if_neg h0]
    · have hb : stB l i = false := by
        unfold stB
        rw [getD_el hi]
        cases hh : mayE l[i]
        · rfl
        · exact absurd hh hm
      refine Ev.congr (f := fun _ => some (chk l)) (fun k => ?_) (Ev.now _)
      rw [extent_Check.l0, if_pos a1, if_pos a2, if_pos a1, hrd, may_f, bs, if_neg hm, bad hb]
theorem codeCheck_ev (l : List EX) : Ev (fun k => extent_Check.f k l) (chk l) := by
  unfold extent_Check.f
  by_cases h : (l.length : Int) > 60
  · simp only [if_pos h]
    rw [chk_bad fun hc => by have := (chk_ok hc).1; omega]
    exact Ev.now _
  · simp only [if_neg h]
    exact codeCheck_l0 l (by omega) l.length 0 (by omega) fun j hj => absurd hj (Nat.not_lt_zero _)
theorem rmay_f (e : EX) : r_10_May.f e.f0 e.f1 e.f2 e.f3 = some (mayE e) := by
  unfold r_10_May.f
  by_cases h0 : e.f0 ≥ 0
  · rw [if_pos h0]
    by_cases h1 : e.f1 ≥ 1
    · rw [if_pos h1]
      by_cases h2 : e.f2 ≥ 1
      · rw [if_pos h2]
        by_cases h3 : e.f2 ≤ 256
        · rw [if_pos h3, w64 (n := 256 - e.f2) (by omega) (by omega), w64 (n := 1024 - e.f2) (by omega) (by omega)]
          by_cases h4 : e.f0 ≤ 256 - e.f2
          · rw [if_pos h4]; exact congrArg some (decide_eq_decide.2 (by omega))
          · rw [if_neg h4]; exact congrArg some (decide_eq_false (by omega)).symm
        · rw [if_neg h3]; exact congrArg some (decide_eq_false (by omega)).symm
      · rw [if_neg h2]; exact congrArg some (decide_eq_false (by omega)).symm
    · rw [if_neg h1]; exact congrArg some (decide_eq_false (by omega)).symm
  · rw [if_neg h0]; exact congrArg some (decide_eq_false (by omega)).symm
theorem apart_of {l : List EX} (h : ∀ i j : Nat, ∀ hj : j < l.length, ∀ hij : i < j, disjD (l[i]'(Nat.lt_trans hij hj)) l[j] = true) : apartL l = true := by
  rw [apartL_iff]
  exact List.pairwise_iff_getElem.2 fun i j hi hj hij => h i j hj hij
theorem apart_at {l : List EX} (h : apartL l = true) {i j : Nat} (hj : j < l.length) (hij : i < j) : disjD (l[i]'(Nat.lt_trans hij hj)) l[j] = true := by
  rw [apartL_iff] at h
  exact List.pairwise_iff_getElem.1 h i j (Nat.lt_trans hij hj) hj hij
theorem disj_mk {a b : EX} (h : a.f1 + a.f2 ≤ b.f1 ∨ b.f1 + b.f2 ≤ a.f1) : disjD a b = true := decide_eq_true h
theorem disj_el {a b : EX} (h : disjD a b = true) : a.f1 + a.f2 ≤ b.f1 ∨ b.f1 + b.f2 ≤ a.f1 := of_decide_eq_true h
theorem refCheck_l1 (l : List EX) (hl : l.length ≤ 60) (i : Nat) (hi : i < l.length) (hnext : stB l i = true → (∀ a : Nat, ∀ ha : a < i, disjD (l[a]'(Nat.lt_trans ha hi)) l[i] = true) → Ev (fun k => r_10_Check.l0 k l (((i + 1 : Nat) : Int))) (chk l)) (hp : ∀ j, j < i → stB l j = true) (hm : mayE l[i] = true) : ∀ (c j : Nat), j + c = i → (∀ a : Nat, ∀ ha : a < j, ∀ hai : a < l.length, disjD l[a] l[i] = true) → Ev (fun k => r_10_Check.l1 k l (i : Int) (j : Int)) (chk l)
  | 0, j, hc, hr => by
    refine Ev.succ ?_
    have b1 : ¬ ((j : Int) < (i : Int)) := by omega
    have a1 : (i : Int) < (l.length : Int) := by omega
    have a2 : (0 : Int) ≤ (i : Int) := by omega
    have hrd : rd_T24 l (i : Int) = l[i] := rd_in hi
    have bad : stB l i = false → chk l = 1 := fun h => chk_bad fun hc => by
      have := preB_iff.1 (chk_ok hc).2.1 i hi
      rw [h] at this; cases this
    have hw : wrap64 ((i : Int) + 1) = ((i + 1 : Nat) : Int) := by unfold wrap64; omega
    have hst := stB_rest hi hp hm
    have next : stB l i = true → Ev (fun k => r_10_Check.l0 k l (wrap64 ((i : Int) + 1))) (chk l) := fun h => by
      rw [hw]
      exact hnext h fun a ha => hr a (by omega) (by omega)
    by_cases h0 : (i : Int) > 0
    · have h1 : wrap64 ((i : Int) - 1) = ((i - 1 : Nat) : Int) := by unfold wrap64; omega
      have hrd1 : rd_T24 l ((i - 1 : Nat) : Int) = l.getD (i - 1) z24 := rfl
      have a3 : (0 : Int) ≤ ((i - 1 : Nat) : Int) := by omega
      have a4 : ((i - 1 : Nat) : Int) < (l.length : Int) := by omega
      obtain ⟨p, hpp⟩ : ∃ p, l.getD (i - 1) z24 = p := ⟨_, rfl⟩
      rw [hpp] at hst hrd1
      rw [decide_eq_false (show ¬ i = 0 by omega), Bool.false_or] at hst
      by_cases c1 : l[i].f0 < wrap64 (p.f0 + p.f2)
      · rw [decide_eq_true c1] at hst
        refine Ev.congr (f := fun _ => some (chk l)) (fun k => ?_) (Ev.now _)
        rw [r_10_Check.l1, if_neg b1, if_pos h0, if_pos a2, if_pos a1, h1, if_pos a3, if_pos a4, hrd, hrd1, if_pos c1, bad hst]
      · rw [decide_eq_false c1] at hst
        cases hg : goesR p l[i]
        · rw [hg] at hst
          refine Ev.congr (fun k => ?_) (next hst)
          rw [r_10_Check.l1, if_neg b1, if_pos h0, if_pos a2, if_pos a1, h1, if_pos a3, if_pos a4, hrd, hrd1, if_neg c1, goesR_f, bs, hg, if_neg (by decide)]
        · rw [hg] at hst
          refine Ev.congr (f := fun _ => some (chk l)) (fun k => ?_) (Ev.now _)
          rw [r_10_Check.l1, if_neg b1, if_pos h0, if_pos a2, if_pos a1, h1, if_pos a3, if_pos a4, hrd, hrd1, if_neg c1, goesR_f, bs, hg, if_pos rfl, bad hst]
    · rw [decide_eq_true (show i = 0 by omega), Bool.true_or] at hst
      refine Ev.congr (fun k => ?_) (next hst)
      rw [r_10_Check.l1, if_neg b1, if_neg h0]
  | c + 1, j, hc, hr => by
    refine Ev.succ ?_
    have hj : j < l.length := by omega
    have hji : j < i := by omega
    have hlt : ∀ a, a < j + 1 → a ≠ j → a < j := fun a h1 h2 => by omega
    have hjc : j + 1 + c = i := by omega
    have next : disjD l[j] l[i] = true → Ev (fun k => r_10_Check.l1 k l (i : Int) ((j + 1 : Nat) : Int)) (chk l) := fun h =>
      refCheck_l1 l hl i hi hnext hp hm c (j + 1) hjc (fun a ha hai => by
        by_cases e : a = j
        · subst e; exact h
        · exact hr a (hlt a ha e) hai)
    have b1 : (j : Int) < (i : Int) := by omega
    have b2 : (0 : Int) ≤ (j : Int) := by omega
    have b3 : (j : Int) < (l.length : Int) := by omega
    have a1 : (i : Int) < (l.length : Int) := by omega
    have a2 : (0 : Int) ≤ (i : Int) := by omega
    have hrd : rd_T24 l (i : Int) = l[i] := rd_in hi
    have hrdj : rd_T24 l (j : Int) = l[j] := rd_in hj
    have hmi := mayE_facts hm
    have hmj := mayE_facts (stB_may (hp j hji) hj)
    have w1 : wrap64 (l[i].f1 + l[i].f2) = l[i].f1 + l[i].f2 := w64 (by omega) (by omega)
    have w2 : wrap64 (l[j].f1 + l[j].f2) = l[j].f1 + l[j].f2 := w64 (by omega) (by omega)
    have hw : wrap64 ((j : Int) + 1) = ((j + 1 : Nat) : Int) := by unfold wrap64; omega
    by_cases c1 : l[j].f1 < l[i].f1 + l[i].f2
    · by_cases c2 : l[i].f1 < l[j].f1 + l[j].f2
      · have hb : ¬ chkB l = true := fun hh => by
          have h1 := disj_el (apart_at (chk_ok hh).2.2 hi hji)
          omega
        refine Ev.congr (f := fun _ => some (chk l)) (fun k => ?_) (Ev.now _)
        rw [r_10_Check.l1, if_pos b1, if_pos b2, if_pos b3, if_pos a2, if_pos a1, hrd, hrdj, w1, w2, if_pos c1, if_pos c2, chk_bad hb]
      · refine Ev.congr (fun k => ?_) (next (disj_mk (by omega)))
        rw [r_10_Check.l1, if_pos b1, if_pos b2, if_pos b3, if_pos a2, if_pos a1, hrd, hrdj, w1, w2, if_pos c1, if_neg c2, hw]
    · refine Ev.congr (fun k => ?_) (next (disj_mk (by omega)))
      rw [r_10_Check.l1, if_pos b1, if_pos b2, if_pos b3, if_pos a2, if_pos a1, hrd, hrdj, w1, if_neg c1, hw]
theorem refCheck_l0 (l : List EX) (hl : l.length ≤ 60) : ∀ (d i : Nat), i + d = l.length → (∀ j, j < i → stB l j = true) → (∀ a b : Nat, ∀ hb : b < l.length, ∀ hab : a < b, b < i → disjD (l[a]'(Nat.lt_trans hab hb)) l[b] = true) → Ev (fun k => r_10_Check.l0 k l (i : Int)) (chk l)
  | 0, i, hd, hp, hq => by
    refine Ev.succ ?_
    have hpre : preB l = true := preB_iff.2 fun j hj => hp j (by omega)
    have hap : apartL l = true := apart_of fun a b hb hab => hq a b hb hab (by omega)
    have a1 : ¬ ((i : Int) < (l.length : Int)) := by omega
    refine Ev.congr (f := fun _ => some (chk l)) (fun k => ?_) (Ev.now _)
    rw [r_10_Check.l0, if_neg a1, chk_good (by unfold chkB; rw [decide_eq_true hl, hpre, hap]; rfl)]
  | d + 1, i, hd, hp, hq => by
    refine Ev.succ ?_
    have hi : i < l.length := by omega
    have hrd : rd_T24 l (i : Int) = l[i] := rd_in hi
    have a1 : (i : Int) < (l.length : Int) := by omega
    have a2 : (0 : Int) ≤ (i : Int) := by omega
    by_cases hm : mayE l[i] = true
    · refine Ev.congr (fun k => ?_) (refCheck_l1 l hl i hi (fun h hr => refCheck_l0 l hl d (i + 1) (by omega) (fun j hj => by
        by_cases e : j = i
        · rw [e]; exact h
        · exact hp j (by omega)) (fun a b hb hab hbi => by
        by_cases e : b = i
        · subst e; exact hr a (by omega)
        · exact hq a b hb hab (by omega))) hp hm i 0 (by omega) (fun a ha => absurd ha (Nat.not_lt_zero _)))
      rw [r_10_Check.l0, if_pos a1, if_pos a2, hrd, rmay_f, bs, if_pos hm]; rfl
    · have hb : ¬ chkB l = true := fun hc => hm (stB_may (preB_iff.1 (chk_ok hc).2.1 i hi) hi)
      refine Ev.congr (f := fun _ => some (chk l)) (fun k => ?_) (Ev.now _)
      rw [r_10_Check.l0, if_pos a1, if_pos a2, hrd, rmay_f, bs, if_neg hm, chk_bad hb]
theorem refCheck_ev (l : List EX) : Ev (fun k => r_10_Check.f k l) (chk l) := by
  unfold r_10_Check.f
  by_cases h : (l.length : Int) > 60
  · simp only [if_pos h]
    rw [chk_bad fun hc => by have := (chk_ok hc).1; omega]
    exact Ev.now _
  · simp only [if_neg h]
    exact refCheck_l0 l (by omega) l.length 0 (by omega) (fun j hj => absurd hj (Nat.not_lt_zero _)) (fun a b hb hab h0 => absurd h0 (Nat.not_lt_zero _))
def putX (l : List EX) (e : EX) : List EX × Int := if chkB l = true ∧ mayE e = true then putR l e else ([], 1)
def cutX (l : List EX) (a b : Int) : List EX × List SP × Int := if chkB l = true ∧ 0 ≤ a ∧ a ≤ b then cutR l a b else ([], [], 1)
def needX (l : List EX) : Int := if chkB l = true then (if (l.length : Int) ≤ 4 then 0 else wrap64 (Int.tdiv (wrap64 ((wrap64 ((l.length : Int) + 20)) - 1)) 20)) else -1
theorem Ev.chk2 {α : Type} {l : List EX} {g : Nat → Int → Option α} {r : α} (f : Nat → Option Int) (hf : Ev f (chk l)) (h0 : chkB l = true → Ev (fun k => g k 0) r) (h1 : ¬ chkB l = true → Ev (fun k => g k 1) r) : Ev (fun k => (f k).bind (g k)) r := by
  refine Ev.bind hf ?_
  by_cases h : chkB l = true
  · rw [chk_good h]; exact h0 h
  · rw [chk_bad h]; exact h1 h
theorem put_ev (l : List EX) (e : EX) : Ev (fun k => extent_Put.f k l e.f0 e.f1 e.f2 e.f3) (putX l e) := by
  unfold extent_Put.f
  refine Ev.chk2 _ (codeCheck_ev l) (fun h => ?_) (fun h => ?_)
  · simp only [if_true, may_f, bs]
    unfold putX
    by_cases h0 : mayE e = true
    · have h2 : (okB l = true ∧ apartL l = true) ∧ mayE ⟨e.f0, e.f1, e.f2, e.f3⟩ = true := ⟨⟨chk_okB h, (chk_ok h).2.2⟩, h0⟩
      simp only [if_pos h0, if_pos h2]; rw [if_pos ⟨h, h0⟩]; exact Ev.now _
    · simp only [if_neg h0]; rw [if_neg (fun hh => h0 hh.2)]; exact Ev.now _
  · simp only [if_neg (show ¬ ((1 : Int) = 0) by decide)]
    unfold putX
    rw [if_neg (fun hh => h hh.1)]; exact Ev.now _
theorem ranged_ev (l : List EX) (a b : Int) : Ev (fun k => extent_ranged.f k l a b) (decide (chkB l = true ∧ 0 ≤ a ∧ a ≤ b)) := by
  unfold extent_ranged.f
  refine Ev.chk2 _ (codeCheck_ev l) (fun h => ?_) (fun h => ?_)
  · simp only [if_true]
    by_cases h0 : a ≥ 0
    · simp only [if_pos h0]
      refine Ev.congr (f := fun _ => some (decide (chkB l = true ∧ 0 ≤ a ∧ a ≤ b))) (fun k => congrArg some (decide_eq_decide.2 ⟨fun hb => ⟨h, h0, hb⟩, fun hh => hh.2.2⟩)) (Ev.now _)
    · simp only [if_neg h0]
      rw [show decide (chkB l = true ∧ 0 ≤ a ∧ a ≤ b) = false from decide_eq_false (fun hh => h0 hh.2.1)]; exact Ev.now _
  · simp only [if_neg (show ¬ ((1 : Int) = 0) by decide)]
    rw [show decide (chkB l = true ∧ 0 ≤ a ∧ a ≤ b) = false from decide_eq_false (fun hh => h hh.1)]; exact Ev.now _
theorem cut_ev (l : List EX) (a b : Int) : Ev (fun k => extent_Cut.f k l a b) (cutX l a b) := by
  unfold extent_Cut.f
  refine Ev.bind (ranged_ev l a b) ?_
  unfold cutX
  by_cases h : chkB l = true ∧ 0 ≤ a ∧ a ≤ b
  · have h2 : (okB l = true ∧ 0 ≤ a) ∧ a ≤ b := ⟨⟨chk_okB h.1, h.2.1⟩, h.2.2⟩
    rw [decide_eq_true h, if_pos h]; simp only [if_true, if_pos h2]; exact Ev.now _
  · rw [decide_eq_false h, if_neg h]; exact Ev.now _
theorem need_ev (l : List EX) : Ev (fun k => extent_Need.f k l) (needX l) := by
  unfold extent_Need.f
  refine Ev.chk2 _ (codeCheck_ev l) (fun h => ?_) (fun h => ?_)
  · simp only [if_true]
    unfold needX
    rw [if_pos h]
    by_cases h4 : (l.length : Int) ≤ 4
    · simp only [if_pos h4]; exact Ev.now _
    · simp only [if_neg h4]; exact Ev.now _
  · unfold needX
    rw [if_neg h]; exact Ev.now _
theorem rneed_ev (l : List EX) : Ev (fun k => r_10_Need.f k l) (needX l) := by
  unfold r_10_Need.f
  refine Ev.chk2 _ (refCheck_ev l) (fun h => ?_) (fun h => ?_)
  · simp only [if_true]
    unfold needX
    rw [if_pos h]
    by_cases h4 : (l.length : Int) ≤ 4
    · simp only [if_pos h4]; exact Ev.now _
    · simp only [if_neg h4]; exact Ev.now _
  · unfold needX
    rw [if_neg h]; exact Ev.now _
theorem same_l0 (l : List EX) (hl : l.length < 4398046511104) : ∀ (d i : Nat), i + d = l.length → Ev (fun k => r_10_Same.l0 k l l (i : Int)) true
  | 0, i, hd => by
    have a1 : ¬ ((i : Int) < (l.length : Int)) := by omega
    refine Ev.succ ?_
    simp only [r_10_Same.l0, if_neg a1]; exact Ev.now _
  | d + 1, i, hd => by
    have a1 : (i : Int) < (l.length : Int) := by omega
    have a2 : (0 : Int) ≤ (i : Int) := by omega
    have hw : wrap64 ((i : Int) + 1) = ((i + 1 : Nat) : Int) := by unfold wrap64; omega
    refine Ev.succ ?_
    simp only [r_10_Same.l0, if_pos a1, if_pos a2, hw, beq_self_eq_true, Bool.not_true, Bool.or_self, Bool.false_eq_true, if_false]
    exact same_l0 l hl d (i + 1) (by omega)
theorem same_ev (l : List EX) (hl : l.length < 4398046511104) : Ev (fun k => r_10_Same.f k l l) true := by
  unfold r_10_Same.f
  simp only [if_true]
  exact same_l0 l hl l.length 0 (by omega)
end Go.Proofs.Ytopmjjnkolfciaa.Pr
end
section
namespace Go.Proofs.Ytopmjjnkolfciaa.Pr
open Go.RowKit Go.Proofs.YtopmjjnkolfciaaW.PrintWords Go.Proofs.YtopmjjnkolfciaaW.PrintMore Go.Proofs.Ytopmjjnkolfciaa.Od Go.Proofs.Ytopmjjnkolfciaa.Cr
set_option linter.unusedVariables false
set_option linter.unusedSimpArgs false
abbrev E24 := S24
theorem byte0 : isByte 0 := by constructor <;> omega
theorem byte1 : isByte 1 := by constructor <;> omega
def flagB (b : Bool) : List Int := if b = true then [1, 0] else [0, 0]
def encE (e : E24) : List Int := bytesN 4 e.f0.toNat ++ bytesN 4 e.f1.toNat ++ bytesN 2 e.f2.toNat ++ flagB e.f3
def encL (l : List E24) : List Int := l.flatMap encE
def hdr (n : Nat) (f : Int) : List Int := [((n % 256 : Nat) : Int), 0, f, 0]
def padN (b : List Int) (n : Nat) : List Int := b ++ List.replicate (n - b.length) 0
def rootL (l : List E24) : List Int := padN (hdr l.length 0 ++ encL l) 60
def nodeC (l : List E24) : List Int := padN (hdr l.length 0 ++ encL l) 252
def nodeL (l : List E24) : List Int := nodeC l ++ bytesN 4 (sumB (nodeC l)).toNat
def idxL (bs : List Int) : List Int := padN (hdr bs.length 1 ++ bs.flatMap (fun b => bytesN 4 b.toNat)) 60
theorem flagB_len (b : Bool) : (flagB b).length = 2 := by unfold flagB; split <;> rfl
theorem encE_len (e : E24) : (encE e).length = 12 := by
  unfold encE
  rw [List.length_append, List.length_append, List.length_append, bytesN_len, bytesN_len, bytesN_len, flagB_len]
theorem encL_cons (e : E24) (l : List E24) : encL (e :: l) = encE e ++ encL l := List.flatMap_cons
theorem encL_len (l : List E24) : (encL l).length = 12 * l.length := by
  induction l with
  | nil => rfl
  | cons e l ih => rw [encL_cons, List.length_append, encE_len, ih, List.length_cons]; omega
theorem encL_append (a b : List E24) : encL (a ++ b) = encL a ++ encL b := List.flatMap_append
theorem padN_len (b : List Int) (n : Nat) (h : b.length ≤ n) : (padN b n).length = n := by
  unfold padN; rw [List.length_append, List.length_replicate]; omega
theorem hdr_len (n : Nat) (f : Int) : (hdr n f).length = 4 := rfl
theorem flagB_byte (b : Bool) : ∀ x ∈ flagB b, isByte x := by
  unfold flagB
  intro x hx
  split at hx <;> (simp only [List.mem_cons, List.not_mem_nil, or_false] at hx; rcases hx with rfl | rfl <;> first | exact byte0 | exact byte1)
theorem encE_byte (e : E24) : ∀ x ∈ encE e, isByte x := by
  unfold encE
  intro x hx
  rcases List.mem_append.1 hx with hx | hx
  · rcases List.mem_append.1 hx with hx | hx
    · rcases List.mem_append.1 hx with hx | hx
      · exact bytesN_byte _ _ _ hx
      · exact bytesN_byte _ _ _ hx
    · exact bytesN_byte _ _ _ hx
  · exact flagB_byte _ _ hx
theorem encL_byte (l : List E24) : ∀ x ∈ encL l, isByte x := by
  intro x hx
  obtain ⟨e, _, h⟩ := List.mem_flatMap.1 hx
  exact encE_byte e x h
theorem hdr_byte (n : Nat) (f : Int) (hf : isByte f) : ∀ x ∈ hdr n f, isByte x := by
  intro x hx
  simp only [hdr, List.mem_cons, List.not_mem_nil, or_false] at hx
  rcases hx with rfl | rfl | rfl | rfl
  · constructor <;> omega
  · exact byte0
  · exact hf
  · exact byte0
theorem padN_byte (b : List Int) (n : Nat) (h : ∀ x ∈ b, isByte x) : ∀ x ∈ padN b n, isByte x := by
  intro x hx
  rcases List.mem_append.1 hx with hx | hx
  · exact h x hx
  · rw [(List.mem_replicate.1 hx).2]; exact byte0
theorem byte_app {a b : List Int} (ha : ∀ x ∈ a, isByte x) (hb : ∀ x ∈ b, isByte x) : ∀ x ∈ a ++ b, isByte x := fun x hx => (List.mem_append.1 hx).elim (ha x) (hb x)
theorem rootL_byte (l : List E24) : ∀ x ∈ rootL l, isByte x := padN_byte _ _ (byte_app (hdr_byte _ _ byte0) (encL_byte l))
theorem nodeC_byte (l : List E24) : ∀ x ∈ nodeC l, isByte x := padN_byte _ _ (byte_app (hdr_byte _ _ byte0) (encL_byte l))
theorem nodeL_byte (l : List E24) : ∀ x ∈ nodeL l, isByte x := byte_app (nodeC_byte l) (bytesN_byte _ _)
theorem idxL_byte (bs : List Int) : ∀ x ∈ idxL bs, isByte x := padN_byte _ _ (byte_app (hdr_byte _ _ byte1) (fun x hx => by
  obtain ⟨e, _, h⟩ := List.mem_flatMap.1 hx
  exact bytesN_byte _ _ _ h))
theorem rootL_len (l : List E24) (h : l.length ≤ 4) : (rootL l).length = 60 := padN_len _ _ (by rw [List.length_append, hdr_len, encL_len]; omega)
theorem nodeC_len (l : List E24) (h : l.length ≤ 20) : (nodeC l).length = 252 := padN_len _ _ (by rw [List.length_append, hdr_len, encL_len]; omega)
theorem nodeL_len (l : List E24) (h : l.length ≤ 20) : (nodeL l).length = 256 := by unfold nodeL; rw [List.length_append, nodeC_len l h, bytesN_len]
theorem flat4_len (bs : List Int) : (bs.flatMap (fun b => bytesN 4 b.toNat)).length = 4 * bs.length := by
  induction bs with
  | nil => rfl
  | cons b bs ih => rw [List.flatMap_cons, List.length_append, bytesN_len, ih, List.length_cons]; omega
theorem idxL_len (bs : List Int) (h : bs.length ≤ 14) : (idxL bs).length = 60 := padN_len _ _ (by rw [List.length_append, hdr_len, flat4_len]; omega)
def decP (c : List Int) : E24 := ⟨(numN (c.take 4) : Int), (numN ((c.drop 4).take 4) : Int), (numN ((c.drop 8).take 2) : Int), ((numN ((c.drop 10).take 2) : Int)) == 1⟩
def decR (c : List Int) : E24 := ⟨(numN (c.take 4) : Int), (numN ((c.drop 4).take 4) : Int), (numN ((c.drop 8).take 2) : Int), c.getD 10 0 == 1⟩
def decF (f : List Int → E24) : List Int → Nat → List E24
  | _, 0 => []
  | c, n + 1 => f c :: decF f (c.drop 12) n
theorem decF_len (f : List Int → E24) : ∀ (n : Nat) (c : List Int), (decF f c n).length = n
  | 0, _ => rfl
  | n + 1, c => by rw [decF, List.length_cons, decF_len f n]
theorem decF_snoc (f : List Int → E24) : ∀ (n : Nat) (c : List Int), decF f c (n + 1) = decF f c n ++ [f (c.drop (12 * n))]
  | 0, c => by simp [decF]
  | n + 1, c => by
    rw [decF, decF_snoc f n (c.drop 12), decF, List.cons_append, List.drop_drop, show 12 + 12 * n = 12 * (n + 1) by omega]
theorem take_exact {a b : List Int} {n : Nat} (h : a.length = n) : (a ++ b).take n = a := by rw [← h, List.take_left]
theorem drop_exact {a b : List Int} {n : Nat} (h : a.length = n) : (a ++ b).drop n = b := by rw [← h, List.drop_left]
theorem flag_num (b : Bool) : (((numN (flagB b) : Nat) : Int) == 1) = b := by cases b <;> decide
theorem parts_take (a b c d r : List Int) (ha : a.length = 4) (hb : b.length = 4) (hc : c.length = 2) (hd : d.length = 2) :
    ((a ++ b ++ c ++ d ++ r).take 4 = a ∧ ((a ++ b ++ c ++ d ++ r).drop 4).take 4 = b ∧ ((a ++ b ++ c ++ d ++ r).drop 8).take 2 = c ∧ ((a ++ b ++ c ++ d ++ r).drop 10).take 2 = d) ∧ (a ++ b ++ c ++ d ++ r).drop 12 = r ∧ (a ++ b ++ c ++ d ++ r).drop 10 = d ++ r := by
  refine ⟨⟨?_, ?_, ?_, ?_⟩, ?_, ?_⟩
  · rw [List.append_assoc, List.append_assoc, List.append_assoc]; exact take_exact ha
  · rw [List.append_assoc, List.append_assoc, List.append_assoc, drop_exact ha]; exact take_exact hb
  · rw [List.append_assoc, List.append_assoc, drop_exact (by rw [List.length_append, ha, hb])]; exact take_exact hc
  · rw [List.append_assoc, drop_exact (by rw [List.length_append, List.length_append, ha, hb, hc])]; exact take_exact hd
  · exact drop_exact (by rw [List.length_append, List.length_append, List.length_append, ha, hb, hc, hd])
  · rw [List.append_assoc]; exact drop_exact (by rw [List.length_append, List.length_append, ha, hb, hc])
theorem decP_enc (e : E24) (h : mayE e = true) (r : List Int) : decP (encE e ++ r) = e := by
  obtain ⟨h0, h1, h2, h3, h4⟩ := mayE_facts h
  obtain ⟨⟨p1, p2, p3, p4⟩, -, -⟩ := parts_take (bytesN 4 e.f0.toNat) (bytesN 4 e.f1.toNat) (bytesN 2 e.f2.toNat) (flagB e.f3) r (bytesN_len _ _) (bytesN_len _ _) (bytesN_len _ _) (flagB_len _)
  unfold decP encE
  rw [p1, p2, p3, p4, flag_num, numN_bytesN 4 _ (by omega), numN_bytesN 4 _ (by omega), numN_bytesN 2 _ (by omega)]
  rw [Int.toNat_of_nonneg h0, Int.toNat_of_nonneg (by omega), Int.toNat_of_nonneg (by omega)]
theorem decR_enc (e : E24) (h : mayE e = true) (r : List Int) : decR (encE e ++ r) = e := by
  obtain ⟨h0, h1, h2, h3, h4⟩ := mayE_facts h
  obtain ⟨⟨p1, p2, p3, p4⟩, -, p5⟩ := parts_take (bytesN 4 e.f0.toNat) (bytesN 4 e.f1.toNat) (bytesN 2 e.f2.toNat) (flagB e.f3) r (bytesN_len _ _) (bytesN_len _ _) (bytesN_len _ _) (flagB_len _)
  unfold decR encE
  have hg : (bytesN 4 e.f0.toNat ++ bytesN 4 e.f1.toNat ++ bytesN 2 e.f2.toNat ++ flagB e.f3 ++ r).getD 10 0 = (flagB e.f3 ++ r).getD 0 0 := by
    rw [← p5, List.getD_eq_getElem?_getD, List.getD_eq_getElem?_getD, List.getElem?_drop]
  have hf : ((flagB e.f3 ++ r).getD 0 0 == 1) = e.f3 := by
    cases e.f3 <;> rfl
  rw [p1, p2, p3, hg, hf, numN_bytesN 4 _ (by omega), numN_bytesN 4 _ (by omega), numN_bytesN 2 _ (by omega)]
  rw [Int.toNat_of_nonneg h0, Int.toNat_of_nonneg (by omega), Int.toNat_of_nonneg (by omega)]
theorem decF_enc (f : List Int → E24) (hf : ∀ e, mayE e = true → ∀ r, f (encE e ++ r) = e) : ∀ (l : List E24) (h : ∀ e ∈ l, mayE e = true) (r : List Int), decF f (encL l ++ r) l.length = l
  | [], _, _ => rfl
  | e :: l, h, r => by
    rw [List.length_cons, decF, encL_cons, List.append_assoc, hf e (h e List.mem_cons_self), drop_exact (encE_len e), decF_enc f hf l (fun x hx => h x (List.mem_cons_of_mem _ hx)) r]
def decN : List Int → Nat → List Int
  | _, 0 => []
  | c, n + 1 => (numN (c.take 4) : Int) :: decN (c.drop 4) n
theorem decN_len : ∀ (n : Nat) (c : List Int), (decN c n).length = n
  | 0, _ => rfl
  | n + 1, c => by rw [decN, List.length_cons, decN_len n]
theorem decN_snoc : ∀ (n : Nat) (c : List Int), decN c (n + 1) = decN c n ++ [(numN ((c.drop (4 * n)).take 4) : Int)]
  | 0, c => by simp [decN]
  | n + 1, c => by
    rw [decN, decN_snoc n (c.drop 4), decN, List.cons_append, List.drop_drop, show 4 + 4 * n = 4 * (n + 1) by omega]
end Go.Proofs.Ytopmjjnkolfciaa.Pr
end
section
namespace Go.Proofs.Ytopmjjnkolfciaa.Pr
open Go.RowKit Go.Proofs.YtopmjjnkolfciaaW.PrintWords Go.Proofs.YtopmjjnkolfciaaW.PrintLast Go.Proofs.YtopmjjnkolfciaaW.PrintMore
attribute [local go_sem] max2_int min2_int max_two min_two max_three min_three max_four min_four
attribute [local go_sem] Go.Proofs.Ytopmjjnkolfciaa.Hl.str_geq Go.Proofs.Ytopmjjnkolfciaa.Hl.str_gtr Go.Proofs.Ytopmjjnkolfciaa.Hl.str_leq
set_option linter.unusedVariables false
set_option linter.unusedSimpArgs false
theorem chunk_made (A0:Option Addr) (n c:Nat) (w:World):Calls Try.prog 50 #[.slice A0 n c,.int .i64 20] w fun e w' =>
  e=.returned (.func (.func 73) #[] #[.pointer (some ⟨w.heap.size,0,none⟩),.pointer (some ⟨w.heap.size+1,0,none⟩)]) ∧
   w'=(w.alloc (.cells #[.slice A0 n c] 22)).alloc (.cells #[.int .i64 20] 3):=by
 go_enter Try.func50,Try.ntmps50
 go_wp2;go_ret
 exact ⟨rfl,rfl⟩
def chunkN (n:Nat):Nat:=(n+19) / 20
def chunkV (ad:Addr) (n x:Nat):Value:=.slice (some (ad.add (x*20*4))) (min 20 (n - x*20)) (min 20 (n - x*20))
theorem chunk_cut (ad:Addr) (n c i e:Nat) (he:0 < e) (hi:i+e≤n) (hc:n≤c) (W:World) :
  (Instr.slice 22 (.slice (some ad) n c) (some (.int .i64 (i:Int))) (some (.int .i64 ((i:Int)+(e:Int)))) (some (.int .i64 ((i:Int)+(e:Int))))).run Try.prog W=.ok (.slice (some (ad.add (i*4))) e e) W:=by
 have hel:Try.prog.elem 22=24:=by simp [Program.elem,Try.underlying22]
 have hu:Try.prog.underlying 22=some (.slice (Try.prog.elem 22)):=by rw [hel];exact Try.underlying22
 obtain ⟨i0,hi0,_,hsz,_⟩:=info_parts info24
 rw [run_slice_lhm W 22 (some ad) n c hu .i64 .i64 .i64 (i:Int) ((i:Int)+(e:Int)) ((i:Int)+(e:Int)) (by omega) (by omega) (Int.le_refl _) (by omega),hel]
 have h1:((i:Int)+(e:Int)).toNat=i+e:=by omega
 have h2:¬ (i+e=i):=by omega
 have h3:i+e - i=e:=by omega
 have h4:¬ (e=0):=by omega
 simp [sizeOf,typeInfo,hi0,hsz,sliced,Result.andThen,h1,h2,h3,h4]
theorem chunk_from (ad:Addr) (n c i:Nat) (hi:i≤n) (hc:n≤c):∃ A',∀ W:World,
  (Instr.slice 22 (.slice (some ad) n c) (some (.int .i64 (i:Int))) none none).run Try.prog W=.ok (.slice A' (n - i) (c - i)) W:=by
 have hel:Try.prog.elem 22=24:=by simp [Program.elem,Try.underlying22]
 have hu:Try.prog.underlying 22=some (.slice (Try.prog.elem 22)):=by rw [hel];exact Try.underlying22
 obtain ⟨i0,hi0,_,hsz,_⟩:=info_parts info24
 refine ⟨if c=i then some ad else (some ad).map (·.add (i*4)),fun W=>?_⟩
 have h1:=run_slice_l W 22 (some ad) n c hu .i64 (i:Int) (by omega) (by omega)
 rw [hel] at h1
 rw [h1]
 simp [sizeOf,typeInfo,hi0,hsz,sliced,Result.andThen]
open Go.Shelf Go.Proofs.Ytopmjjnkolfciaa.Sq in
attribute [local go_sem] max2_int min2_int max_two min_two in
set_option maxHeartbeats 8000000 in
set_option maxRecDepth 100000 in
theorem chunk_in (n:Nat) (hn:1≤n) (l d:Nat) (bs:List Nat) (hbs:∀ b∈bs,b < d) (bl bn:Nat) (ad:Addr) (m c0:Nat) (hc0:m≤c0) (hm:m≤60)
  (I:List (Fin (chunkN m))→World→Prop) (R:World→Prop) (Rx:Code→World→Prop) (N:Nat) (hN:3≤N)
  (hIB:∀ pre W W',I pre W→Below W.heap.size W W'→I pre W') (hRB:∀ W W',R W→Below W.heap.size W W'→R W') (hRd:∀ W,R W→d+1 < W.heap.size)
  (hY:∀ pre x W1,I pre W1→R W1→pre.length < N→YieldAt Fence.wide (n - 1) Try.prog l #[chunkV ad m x.val] W1 fun e W' =>
    (e=.returned (.bool true)∧I (pre++[x]) W'∧R W'∧KpF d bs W1 W')∨(e=.returned (.bool false)∧∃ c:Code,False∧Rx c W'))
  (W:World) (hl:Own1 d bs W bl #[.slice (some ad) m c0] 22) (hf:Own1 d bs W bn #[.int .i64 20] 3) (h0:I [] W) (hr0:R W) :
  CallsIn Fence.wide n Try.prog 73 #[.func (.yield l) #[] #[],.pointer (some ⟨bl,0,none⟩),.pointer (some ⟨bn,0,none⟩)] W fun e W'=>(∃ v,e=.returned v)∧I (List.finRange (chunkN m)) W'∧R W':=by
 refine callsIn_of_wp Try.func73 rfl trivial ?_ rfl
 simp only [Try.ntmps73,List.size_toArray,List.length_cons,List.length_nil,Nat.reduceAdd,Nat.reduceSub,Array.replicate_succ,Array.replicate_zero,List.push_toArray,List.append_toArray,List.nil_append,List.cons_append]
 refine wpIn_wide.2 ?_
 have HL:=am hl
 have HF:=am hf
 have HC0:=am hc0
 have HM:=am hm
 have H0:=am h0
 have HR0:=am hr0
 have HCK:=am (show chunkN m≤3 by unfold chunkN;omega)
 clear hl hf hc0 hm h0 hr0;go_wp2
 go_loopg [4] (chunkN m) (fun kq v4 w'=>∃ (i:Nat),v4=.int .i64 (i:Int)∧Aside0 (∃ j,i=j*20∧j+kq=chunkN m∧I ((List.finRange (chunkN m)).take j) w')∧Aside0 (R w')∧Aside0 (Own1 d bs w' bl #[.slice (some ad) m c0] 22)∧Aside0 (Own1 d bs w' bn #[.int .i64 20] 3))
 case atStart=>exact ⟨0,rfl,⟨0,by omega,by omega,H0.out⟩,HR0,HL,HF⟩
 case round =>
  obtain ⟨i,rfl,HI,HR,HBL,HBN⟩:=hrel
  obtain ⟨j,hij,hjk,hI⟩:=HI.out
  have hcl:=(blk_cell HBL.out.at_ 0).trans rfl
  have hcn:=(blk_cell HBN.out.at_ 0).trans rfl
  cases gk with
  | zero =>
   have hge:¬ (i < m):=by have:=hjk;unfold chunkN at this;omega
   have HI2:=am (show I (List.finRange (chunkN m)) wr by have:=hI;rwa [show j=chunkN m by omega,List.take_of_length_le (by rw [List.length_finRange];exact Nat.le_refl _)] at this)
   clear hij hjk hI;go_wp2
   go_end0
   exact ⟨⟨_,rfl⟩,HI2.out,HR.out⟩
  | succ g =>
   have hlt:i < m:=by have:=hjk;unfold chunkN at this;omega
   obtain ⟨e,he⟩:∃ e,e=min 20 (m - i):=⟨_,rfl⟩
   have he0:0 < e:=by omega
   have hem:i+e≤m:=by omega
   have HV:=am (show chunkV ad m j=.slice (some (ad.add (i*4))) e e by unfold chunkV;rw [← hij,← he])
   obtain ⟨A',hfrom⟩:=chunk_from ad m c0 i (by omega) HC0.out
   have hcut:=chunk_cut ad m c0 i e he0 hem HC0.out
   have HE:=am he
   have HJ:=am (show i=j*20∧j+(g+1)=chunkN m from ⟨hij,hjk⟩)
   have HI2:=am hI
   clear hij hjk hI he HI;go_wp2
   refine start_ (n:=7) (S:=fun w'=>w'.cell? ⟨bl,0,none⟩=some (.slice (some ad) m c0)∧w'.cell? ⟨bn,0,none⟩=some (.int .i64 20)) (ds:=[]) _ (by kernel_rfl) rfl rfl ⟨hcl,hcn⟩ (fun hHeld=>?_)
   refine pK 2 15 ?_;refine tK 0 13 hHeld ?_ (hy:=by rintro w' ⟨s0,s1⟩;go_simp;with_reducible rfl);refine tK 1 14 hHeld ?_ (hy:=by rintro w' ⟨s0,s1⟩;go_simp;with_reducible rfl);refine pK 3 16 ?_;refine pK 4 17 ?_;refine pK 5 18 ?_;refine pK 6 5 ?_
   refine done_ (by kernel_rfl) ?_
   have hmin:(if ((m - i:Nat):Int) < 20 then ((m - i:Nat):Int) else 20)=(e:Int):=by have:=HE.out;split<;>omega
   rw [hmin]
   have hb3:Below wr.heap.size wr wr.drew:=below_drew1 (Below.refl _ wr)
   have hbz:∀ b∈bs,b < wr.heap.size:=fun b hb=>by have:=hbs b hb;have:=hRd _ HR.out;omega
   have HI3:=am (hIB _ _ _ HI2.out hb3)
   have HR3:=am (hRB _ _ HR.out hb3)
   have HBL3:=am (HBL.out.below hbz hb3)
   have HBN3:=am (HBN.out.below hbz hb3)
   have hjl:((List.finRange (chunkN m)).take j).length=j:=by rw [List.length_take,List.length_finRange];have:=HJ.out.2;omega
   have hjc:j < chunkN m:=by have:=HJ.out.2;omega
   have HS:=am (show (List.finRange (chunkN m)).take (j+1)=(List.finRange (chunkN m)).take j++[⟨j,hjc⟩] by rw [List.take_succ_eq_append_getElem (by rw [List.length_finRange];exact hjc),List.getElem_finRange];rfl)
   obtain ⟨fn,tmps,assign,body,hy,hRd4⟩:=hY ((List.finRange (chunkN m)).take j) ⟨j,hjc⟩ wr.drew HI3.out HR3.out (by have:=HJ.out.2;have:=HCK.out;omega)
   rw [HV.out] at hy
   have hw1:wrap64 ((i:Int)+(e:Int))=(i:Int)+(e:Int):=by have:=HM.out;unfold wrap64;omega
   clear hb3 hbz hjl hmin hcl hcn hHeld HI2 HR HBL HBN
   generalize wr.drew=w3 at HI3 HR3 HBL3 HBN3 hy hRd4 ⊢
   have hcl:=(blk_cell HBL3.out.at_ 0).trans rfl
   have hcn:=(blk_cell HBN3.out.at_ 0).trans rfl
   go_step
   go_step
   refine (wpIn_wide (n:=n)).1 ?_
   gi_wp2
   refine hRd4.mono ?_
   clear hcl hcn
   intro r w4 h9
   obtain ⟨rfl,hI4,hR4,hK4⟩:=h9.elim id (fun h=>by obtain ⟨_,c,hF,_⟩:=h;exact hF.elim)
   have HI4:=am hI4
   have HR4:=am hR4
   have HBL4:=am (HBL3.out.kept hK4)
   have HBN4:=am (HBN3.out.kept hK4)
   have HW:=am (show wrap64 ((i:Int)+20)=((i+20:Nat):Int) by have:=HM.out;unfold wrap64;omega)
   clear hI4 hR4 hK4 hy hRd4
   have hcn:=(blk_cell HBN4.out.at_ 0).trans rfl
   gi_wp2
   go_wp2
   go_roundg g
   case measure=>omega
   case rel=>exact ⟨i+20,by rw [HW.out],⟨j+1,by have:=HJ.out.1;omega,by have:=HJ.out.2;omega,by rw [HS.out];exact HI4.out⟩,HR4,HBL4,HBN4⟩
end Go.Proofs.Ytopmjjnkolfciaa.Pr
end
section
namespace Go.Proofs.Ytopmjjnkolfciaa.Pr
open Go Go.RowKit Go.Shelf Go.Proofs.YtopmjjnkolfciaaW.PrintWords Go.Proofs.YtopmjjnkolfciaaW.PrintLast Go.Proofs.YtopmjjnkolfciaaW.PrintMore Go.Proofs.Ytopmjjnkolfciaa.Sq
set_option linter.unusedVariables false
set_option linter.unusedSimpArgs false
theorem made_R (W : World) (n : Nat) (hn : n ≤ 9223372036854775807) : Kd.R (Kd.int .u8) 5 (W.alloc (.cells (madeCells #[.int .u8 0] (n * 1)) 5)) W.heap.size (fun k => W.heap.size ≤ k) (.slice (some ⟨W.heap.size, 0, none⟩) n n) (List.replicate n 0) := by
  have hc : (madeCells #[Value.int .u8 0] (n * 1)).toList = encs (Value.int .u8) (List.replicate n 0) := by
    simp [madeCells, encs]
    rw [List.eq_replicate_iff]
    refine ⟨by simp, fun b hb => ?_⟩
    obtain ⟨x, _, rfl⟩ := List.mem_map.1 hb
    simp [Nat.mod_one]
  have h2 := World.ownsRow_lit (base := W.heap.size) (e := 5) (size := 1) W (madeCells #[Value.int .u8 0] (n * 1)) n (Nat.le_refl _) (by simpa [maxLen] using hn) (by rw [← Array.length_toList, hc, encs_length, List.length_replicate, Nat.mul_one])
  rw [hc] at h2
  refine Kd.R_of_own (by rw [List.length_replicate]; exact h2) (fun k hk => ?_)
  have : W.heap.size = k := by simpa [Value.ownBlock] using hk
  omega
theorem kp_below {d : Nat} {bs : List Nat} {A B : World} (hA : ∀ b ∈ bs, b < A.heap.size) (h : Below A.heap.size A B) : KpF d bs A B :=
  ⟨h.size, fun k cs t hk hf => ⟨blk_below hk h, hf.below hA h⟩⟩
structure NB (bb b : Nat) (xs : List (List Int)) (v : Value) (W : World) : Prop where
  box : W.heap[b]? = some (.cells #[v] 47 (0, 0))
  row : Kd.S (Kd.slice 5 (Kd.int .u8)) 46 W bb (fun _ => True) v xs
section
variable {bb b : Nat} {xs : List (List Int)} {v : Value} {W W' : World}
theorem NB.below (h : NB bb b xs v W) (hb : Below W.heap.size W W') : NB bb b xs v W' := ⟨blk_below h.box hb, Kd.S_below h.row hb⟩
theorem NB.grown (h : NB bb b xs v W) {row : Option Nat} (hg : W.grownBy W' row) (hr : ∀ r, row = some r → ∃ o : Obj, W.heap[r]? = some o ∧ o.isCells = false) : NB bb b xs v W' := by
  have key : ∀ k cs t fr, W.heap[k]? = some (Obj.cells cs t fr) → some k ≠ row := fun k cs t fr hk ee => by
    obtain ⟨o, ho, hc⟩ := hr k ee.symm
    rw [hk] at ho; cases ho; cases hc
  refine ⟨(hg.block b (blk_lt h.box) (key _ _ _ _ h.box)).trans h.box, Kd.S_mono (Kd.S_grown (Kd.S_bound h.row) hg (fun k hk => ?_)) (fun _ _ => trivial)⟩
  obtain ⟨_, _, _, q, _, cs, hc⟩ := hk
  exact key _ _ _ _ hc
theorem NB.cell (h : NB bb b xs v W) : W.cell? ⟨b, 0, none⟩ = some v := blk_cell h.box 0
theorem NB.off (h : NB bb b xs v W) {k : Nat} (hk : W.heap.size ≤ k) : OffRow W b k := fun u hu eo => by
  rw [h.cell] at hu
  injection hu with hu
  subst hu
  have := Kd.S_lt h.row k eo
  omega
theorem flat_one (l : List Value) : l.flatMap (fun v => [v]) = l := by induction l with
  | nil => rfl
  | cons x r ih => rw [List.flatMap_cons, ih]; rfl
theorem NB.ready (h : NB bb b xs v W) (hbb : b < bb) (hbW : bb ≤ W.heap.size) (hb : Below W.heap.size W W') {b0 : Nat} {p : List Int} {u : Value} (hp : Kd.R (Kd.int .u8) 5 W' b0 (fun k => W.heap.size ≤ k) u p) (hb0 : bb ≤ b0) :
    ∃ inner : List Value, inner.length = xs.length ∧ W'.ownsRow bb 46 1 v xs.length inner ∧ LB 46 1 47 (fun v => [v]) bb b inner v W' ∧
      ∀ (w1 : World) (v' : Value), (W'.alloc (.cells #[u] 46)).grownBy w1 v.ownBlock → w1.ownsRow bb 46 1 v' (xs.length + 1) (inner ++ [u]) → (v'.ownBlock = v.ownBlock ∨ v'.ownBlock = some (W'.alloc (.cells #[u] 46)).heap.size) → NB bb b (xs ++ [p]) v' (w1.setCell ⟨b, 0, none⟩ v') := by
  obtain ⟨f, hf, hR⟩ := Kd.S_tag (Kd.S_old h.row hb) xs.length (fun k => W.heap.size ≤ k) (fun k hk h2 => by have := h2.2; omega)
  obtain ⟨h0, inner, hown, hr⟩ := hR
  have hl : inner.length = xs.length := by
    have := hown.1
    rw [List.length_zipIdx] at this
    exact this.trans (Nat.mul_one _)
  rw [List.length_zipIdx] at hown
  have hbox := blk_below h.box hb
  have hown1 : W'.ownsRow bb 46 1 v xs.length inner := hown
  refine ⟨inner, hl, hown1, ⟨hbox, by rw [flat_one, hl]; exact hown1⟩, fun w1 v' hgrow hown' hat => ?_⟩
  have hbox1 : w1.heap[b]? = some (.cells #[v] 47 (0, 0)) := (hgrow.block b (by have := blk_lt hbox; simp; omega) (fun ee => by
    have := (own_ge hown1 ee.symm).1; omega)).trans (blk_alloc hbox _)
  have hvlt := Kd.S_lt h.row
  have hr3 : Reps ((Kd.tag f (Kd.slice 5 (Kd.int .u8))).M (W'.alloc (.cells #[u] 46)) bb (fun k => (True ∧ k < W.heap.size) ∧ some k ≠ v.ownBlock)) 1 xs.zipIdx inner := hr.imp_ (fun _ _ hq => Kd.M_below hq (below_alloc (Below.refl _ _) _))
  have hM : (Kd.slice 5 (Kd.int .u8)).M (W'.alloc (.cells #[u] 46)) bb (fun k => W.heap.size ≤ k) p [u] := ⟨u, rfl, Kd.R_lower (Kd.R_alloc hp _) hb0⟩
  have hR1 := Kd.R_appended (d := Kd.tag f (Kd.slice 5 (Kd.int .u8))) (e := 46) (base := bb) (ok := fun _ => True) (okp := fun k => W.heap.size ≤ k) (p := (p, xs.length)) (cs := [u]) (fun _ _ => trivial) (hr3.imp_ (fun _ _ hq => Kd.M_mono (Kd.tag f (Kd.slice 5 (Kd.int .u8))) (fun k hk => ⟨trivial, hk.2⟩) hq)) ((Kd.slice 5 (Kd.int .u8)).M_mono (fun k hk => ⟨hk, hf k hk⟩) hM) (fun k hk => ⟨trivial, fun ee => by have := hvlt k ee.symm; omega⟩) (fun _ _ => trivial) (by rw [List.length_zipIdx]; exact hown') hgrow (hat.imp id (fun e => ⟨_, e, Nat.le_refl _⟩))
  rw [← Kd.zip_snoc] at hR1
  exact ⟨blk_put hbox1 0 v' rfl, Kd.S_set ⟨f, hR1⟩ hbox1 (by decide) 0 v'⟩
end
end Go.Proofs.Ytopmjjnkolfciaa.Pr
end
section
namespace Go.Proofs.Ytopmjjnkolfciaa.Pr
open Go.RowKit Go.Proofs.YtopmjjnkolfciaaW.PrintWords Go.Proofs.YtopmjjnkolfciaaW.PrintLast Go.Proofs.YtopmjjnkolfciaaW.PrintMore
attribute [local go_sem] max2_int min2_int max_two min_two max_three min_three max_four min_four
attribute [local go_sem] Go.Proofs.Ytopmjjnkolfciaa.Hl.str_geq Go.Proofs.Ytopmjjnkolfciaa.Hl.str_gtr Go.Proofs.Ytopmjjnkolfciaa.Hl.str_leq
set_option linter.unusedVariables false
set_option linter.unusedSimpArgs false
open Go.Shelf Go.Proofs.Ytopmjjnkolfciaa.Sq
attribute [local go_sem] Go.Oper.semAt_some
theorem heap24:Kd.Heap k24:=Kd.heap_iso _ (Kd.heap_pair (Kd.heap_int _) (Kd.heap_pair (Kd.heap_int _) (Kd.heap_pair (Kd.heap_int _) Kd.heap_bool)))
def chunkOf (l:List S24) (x:Nat):List S24:=(l.take (x*20+min 20 (l.length - x*20))).drop (x*20)
theorem chunkOf_len (l:List S24) (x:Nat) (h:x*20≤l.length):(chunkOf l x).length=min 20 (l.length - x*20):=by
 unfold chunkOf
 rw [List.length_drop,List.length_take]
 omega
theorem chunkOf_C {W:World} {ad:Addr} {c:Nat} {l:List S24} (h:Kd.C k24 W (some ad) l.length l) (hc:l.length≤c) (x:Nat) (hx:x*20 < l.length):Kd.C k24 W (some (ad.add (x*20*4))) (chunkOf l x).length (chunkOf l x):=by
 have:=Kd.C_mid (lo:=x*20) (hi:=x*20+min 20 (l.length - x*20)) h (by omega) (by omega) hc
 rw [if_neg (by omega)] at this
 exact this
set_option maxRecDepth 100000 in
def nodeF (k:Nat) (l:List S24):Option (List Int):=(extent_page_list.f k (List.replicate 256 0) l).bind fun p=>(if p.length=256 then ((crc_Sum.f k (p.take 252)).bind fun s=>(extent_page_put.f k p 252 4 (wrap64 s))) else none)
set_option maxRecDepth 100000 in
def nodesF (k:Nat) (l:List S24):List Nat→Option (List (List Int))
 | []=>some []
 | x::xs=>(nodeF k (chunkOf l x)).bind fun p=>(nodesF k l xs).bind fun ps=>some (p::ps)
set_option maxRecDepth 100000 in
theorem nodesF_spec {k:Nat} {l:List S24}:∀ {xs:List Nat} {ns:List (List Int)},nodesF k l xs=some ns→ns.length=xs.length∧∀ (i x:Nat),xs[i]? = some x→nodeF k (chunkOf l x)=some (ns.getD i [])
 | [],ns,h=>by obtain rfl:=Option.some.inj h;exact ⟨rfl,fun i x hx=>by simp at hx⟩
 | y::xs,ns,h=>by
  simp only [nodesF] at h
  obtain ⟨p,hp,h⟩:=Option.bind_eq_some_iff.1 h
  obtain ⟨ps,hps,h⟩:=Option.bind_eq_some_iff.1 h
  obtain rfl:=Option.some.inj h
  obtain ⟨h1,h2⟩:=nodesF_spec hps
  refine ⟨by simp [h1],fun i x hx=>?_⟩
  cases i with
  | zero=>simp only [List.getElem?_cons_zero,Option.some.injEq] at hx;subst hx;exact hp
  | succ i=>simp only [List.getElem?_cons_succ] at hx;exact h2 i x hx
def extent_Store.f (k:Nat) (l0:List S24) (l1:List Int):Option (List Int×List (List Int)×Int):=(extent_Need.f k l0).bind fun n=>(if n < 0 then (some ([],[],1)) else (if n=(l1.length:Int) then ((extent_numbers.f l1).bind fun t=>(if t=true then (if n=0 then ((extent_page_list.f k (List.replicate 60 0) l0).bind fun r=>(some (r,[],0))) else (if 0 < l0.length∧l0.length≤60 then ((nodesF k l0 (List.range (chunkN l0.length))).bind fun ns=>((extent_index.f k l1).bind fun r=>(some (r,ns,0)))) else none)) else (some ([],[],1)))) else (some ([],[],1))))
def StI (n0 w0:Nat) (w:World) {M:Nat} (nd:Fin M→List Int) (pre:List (Fin M)) (W:World):Prop:=(∃ v,NB (n0+3) n0 (pre.map nd) v W)∧Below w0 w W∧n0+3≤W.heap.size
theorem StI.own (n0 w0:Nat) (hw0:w0≤n0) (w:World) {M:Nat} (nd:Fin M→List Int):OwnFrom (n0+3) (StI n0 w0 w nd):=by
 rintro s A B row ⟨⟨v,h⟩,hb,hs⟩ hg hr
 exact ⟨⟨v,h.grown hg (fun r e=>(hr r e).2)⟩,hb.grown hg (by omega) (fun k e=>by have:=(hr k e).1;omega),Nat.le_trans hs hg.size⟩
theorem StI.below {n0 w0:Nat} (hw0:w0≤n0) {w:World} {M:Nat} {nd:Fin M→List Int} {pre:List (Fin M)} {W W':World} (h:StI n0 w0 w nd pre W) (hb:Below W.heap.size W W'):StI n0 w0 w nd pre W':=by
 obtain ⟨⟨v,h1⟩,h2,h3⟩:=h
 exact ⟨⟨v,h1.below hb⟩,h2.trans (hb.mono (by omega)),Nat.le_trans h3 hb.size⟩
def AsS (d:Nat) (bs:List Nat) {M:Nat} (act:Fin M→Act) (I:List (Fin M)→World→Prop) (a':Act) (s:List (Fin M)×Fin M×World) (W:World):Prop:=a'=act s.2.1∧I s.1 W∧KpF d bs s.2.2 W
theorem AsS.own {d B:Nat} {b:Nat} {M:Nat} {act:Fin M→Act} {I:List (Fin M)→World→Prop} (hI:OwnFrom B I) (hbx:∀ pre W,I pre W→∃ (cs:Array Value) (t:TypeId),W.heap[b]? = some (Obj.cells cs t (0,0))) (a':Act):OwnFrom B (AsS d [b] act I a'):=by
 rintro s A A' row ⟨h1,h2,h3⟩ hg hr
 have key:∀ k cs t,A.heap[k]? = some (Obj.cells cs t (0,0))→A'.heap[k]? = some (Obj.cells cs t (0,0)):=fun k cs t hk=>(hg.block k (blk_lt hk) (fun ee=>by
  obtain ⟨_,o,ho,hc⟩:=hr k ee.symm
  rw [hk] at ho;cases ho;cases hc)).trans hk
 obtain ⟨cs,t,hbb⟩:=hbx _ _ h2
 refine ⟨h1,hI _ _ _ _ h2 hg hr,Nat.le_trans h3.1 hg.size,fun k cs' t' hk hf=>?_⟩
 obtain ⟨h4,h5⟩:=h3.2 k cs' t' hk hf
 refine ⟨key _ _ _ h4,h5.1,fun q hq=>⟨(h5.2 q hq).1,fun u hu=>?_⟩⟩
 obtain rfl:q=b:=List.mem_singleton.1 hq
 rw [cell_of_heap ((key _ _ _ hbb).trans hbb.symm)] at hu
 exact (h5.2 q hq).2 u hu
abbrev actS (A0:Option Addr) (n c:Nat) (A1:Option Addr) (m c1:Nat) (nn:Int) (n0:Nat) (V:Value):Act:={ tmps:=#[.slice A0 n c,.slice A1 m c1,undef,undef,.slice none 0 0,.slice none 0 0,.int .i64 0,.int .i64 nn,undef,.pointer (some ⟨n0,0,none⟩),V,undef,.slice A0 n c,.int .i64 nn,.int .i64 nn,.bool false,.bool false,.int .i64 nn,.slice A1 m c1,.int .i64 m,.bool false,.bool false,.bool false,.slice A1 m c1,.bool true,.bool false,.bool false,.int .i64 nn,.bool false,undef,undef,undef,undef,undef,.slice A0 n c,
 .func (.func 73) #[] #[.pointer (some ⟨n0+1,0,none⟩),.pointer (some ⟨n0+1+1,0,none⟩)],V,undef,undef,undef,undef,undef,undef,undef,undef,undef,undef,undef,undef,undef,undef,undef,undef,undef],defers:=[] }
def noPanic (Q:Exit→Act→World→Prop):Exit→Act→World→Prop
 | .panic _,_,_=>False
 | e,a,w=>Q e a w
theorem noPanic_le (Q:Exit→Act→World→Prop):∀ e a w,noPanic Q e a w→Q e a w:=by
 intro e a w h
 cases e<;>first|exact h|exact h.elim
theorem noPanic_normal (Q:Exit→Act→World→Prop) (a:Act) (w:World) (h:Q .normal a w):noPanic Q .normal a w:=h
theorem KpF.refl_ (d:Nat) (bs:List Nat) (W:World):KpF d bs W W:=⟨Nat.le_refl _,fun k cs t hk hf=>⟨hk,hf⟩⟩
set_option maxHeartbeats 8000000 in
set_option maxRecDepth 100000 in
theorem extent_Store.calls (k:Nat) (A0:Option Addr) (c0:Nat) (l0:List (S24)) (A1:Option Addr) (c1:Nat) (l1:List Int) (r1:List Int) (r2:List (List Int)) (r3:Int) (w:World) (hr0:Kd.C k24 w A0 l0.length l0) (hc0:l0.length≤c0) (hr1:Kd.C (Kd.int .i64) w A1 l1.length l1) (hc1:l1.length≤c1) (h:extent_Store.f k l0 l1=some (r1,r2,r3)) :
  Calls Try.prog 27 #[.slice A0 l0.length c0,.slice A1 l1.length c1] w fun e w'=>∃ v0_ v1_:Value,e=.returned (.tuple #[v0_,v1_,.int .i64 r3])∧Kd.R (Kd.int .u8) 5 w' w.heap.size (fun _=>True) v0_ r1∧Kd.S (Kd.slice 5 (Kd.int .u8)) 46 w' w.heap.size (fun k_=>some k_≠(v0_:Value).ownBlock) v1_ r2∧Below w.heap.size w w':=by
 unfold extent_Store.f at h
 obtain ⟨n,hn,h_⟩:=Option.bind_eq_some_iff.1 h
 clear h;have h:=h_;clear h_
 have HR0:=am hr0
 have HC0:=am hc0
 have HR1:=am hr1
 have HC1:=am hc1
 have HN:=am hn
 clear hr0 hc0 hr1 hc1 hn
 have hsz60:(60:Int)≤281474976710656:=by decide
 have hmk60:∀ W:World,(Instr.makeSlice 73 (.int .i64 60) (.int .i64 60)).run Try.prog W=.ok (.slice (some ⟨W.heap.size,0,none⟩) 60 60) (W.alloc (.cells (madeCells #[.int .u8 0] (60*1)) 5)):=by
  intro W
  obtain ⟨i0,hi0,hz,hsz,hby⟩:=info_parts info5
  have:=run_make (P:=Try.prog) W 73 5 i0 (.int .u8 0) Try.underlying73 hi0 hz .i64 .i64 60 60 (by decide) (by decide) (by rw [hby];decide) (by decide)
  rw [hsz] at this
  exact this
 have hmk256:∀ W:World,(Instr.makeSlice 73 (.int .i64 256) (.int .i64 256)).run Try.prog W=.ok (.slice (some ⟨W.heap.size,0,none⟩) 256 256) (W.alloc (.cells (madeCells #[.int .u8 0] (256*1)) 5)):=by
  intro W
  obtain ⟨i0,hi0,hz,hsz,hby⟩:=info_parts info5
  have:=run_make (P:=Try.prog) W 73 5 i0 (.int .u8 0) Try.underlying73 hi0 hz .i64 .i64 256 256 (by decide) (by decide) (by rw [hby];decide) (by decide)
  rw [hsz] at this
  exact this
 by_cases hneg:n < 0
 ·rw [if_pos hneg] at h
  obtain ⟨rfl,h9⟩:=Prod.mk.inj (Option.some.inj h)
  obtain ⟨rfl,rfl⟩:=Prod.mk.inj h9
  clear h h9
  have hnb:decide (n < 0)=true:=decide_eq_true hneg
  clear hneg
  go_enter Try.func27,Try.ntmps27
  go_wp2_with (go_at_call 19;refine (extent_Need.calls k A0 c0 l0 n _ HR0.out HC0.out HN.out).mono ?_;rintro e2 w2 ⟨rfl,hb2⟩;have HB2:=am hb2;clear hb2)
  go_ret3
  exact ⟨_,_,rfl,Kd.R_nil _ _ _ _ _,Kd.S_nil _ _ _ _ _,HB2.out⟩
 ·rw [if_neg hneg] at h
  by_cases hlen:n=(l1.length:Int)
  ·rw [if_pos hlen] at h
   obtain ⟨t,ht,h_⟩:=Option.bind_eq_some_iff.1 h
   clear h;have h:=h_;clear h_
   have HT:=am ht
   clear ht
   have hnb:decide (n < 0)=false:=decide_eq_false hneg
   have hlb:(n != (l1.length:Int))=false:=bne_eq_false_iff_eq.2 hlen
   clear hneg hlen
   cases t with
   | false =>
    obtain ⟨rfl,h9⟩:=Prod.mk.inj (Option.some.inj (by simpa using h:some (([]:List Int),([]:List (List Int)),(1:Int))=some (r1,r2,r3)))
    obtain ⟨rfl,rfl⟩:=Prod.mk.inj h9
    clear h h9
    go_enter Try.func27,Try.ntmps27
    go_wp2_with (first|(go_at_call 48;refine (extent_numbers.calls A1 c1 l1 false _ (Kd.C_below HR1.out HB2.out) HC1.out HT.out).mono ?_;rintro e3 w3 ⟨rfl,hb3⟩;have HB3:=am (HB2.out.trans (hb3.mono HB2.out.size));clear hb3)|(go_at_call 19;refine (extent_Need.calls k A0 c0 l0 n _ HR0.out HC0.out HN.out).mono ?_;rintro e2 w2 ⟨rfl,hb2⟩;have HB2:=am hb2;clear hb2))
    go_ret3
    exact ⟨_,_,rfl,Kd.R_nil _ _ _ _ _,Kd.S_nil _ _ _ _ _,HB3.out⟩
   | true =>
    rw [if_pos rfl] at h
    by_cases hz:n=0
    ·rw [if_pos hz] at h
     obtain ⟨q,hq,h⟩:=Option.bind_eq_some_iff.1 h
     obtain ⟨rfl,h9⟩:=Prod.mk.inj (Option.some.inj h)
     obtain ⟨rfl,rfl⟩:=Prod.mk.inj h9
     have HQ:=am hq
     have hzb:(n==0)=true:=beq_iff_eq.2 hz
     clear h h9 hq hz
     go_enter Try.func27,Try.ntmps27
     go_wp2_with (first|(go_at_call 49;refine (extent_page_list.calls k (fun k_=>w3.heap.size≤k_) (.slice (some ⟨w3.heap.size,0,none⟩) 60 60) (List.replicate 60 0) A0 c0 l0 q w3 _ ((Below.refl _ _).alloc (Nat.le_refl _) _) (made_R w3 60 (by decide)) (Kd.C_kept_came heap24 (Kd.C_below HR0.out HB3.out) ((Below.refl _ _).alloc (Nat.le_refl _) _) (fun _ hk=>hk)) HC0.out HQ.out).mono ?_;rintro e4 w4 ⟨rfl,ho4,hb4,-⟩;have HO4:=am ho4;have HB4:=am hb4;clear ho4 hb4)|(go_at_call 48;refine (extent_numbers.calls A1 c1 l1 true _ (Kd.C_below HR1.out HB2.out) HC1.out HT.out).mono ?_;rintro e3 w3 ⟨rfl,hb3⟩;have HB3:=am (HB2.out.trans (hb3.mono HB2.out.size));clear hb3)|(go_at_call 19;refine (extent_Need.calls k A0 c0 l0 n _ HR0.out HC0.out HN.out).mono ?_;rintro e2 w2 ⟨rfl,hb2⟩;have HB2:=am hb2;clear hb2))
     go_ret3
     exact ⟨_,_,rfl,Kd.R_mono (Kd.R_lower HO4.out HB3.out.size) (fun _ _=>trivial),Kd.S_nil _ _ _ _ _,HB3.out.trans (HB4.out.mono HB3.out.size)⟩
    ·rw [if_neg hz] at h
     by_cases hg:0 < l0.length∧l0.length≤60
     ·rw [if_pos hg] at h
      obtain ⟨ns,hns,h2⟩:=Option.bind_eq_some_iff.1 h
      obtain ⟨q,hq,h3⟩:=Option.bind_eq_some_iff.1 h2
      obtain ⟨rfl,h9⟩:=Prod.mk.inj (Option.some.inj h3)
      obtain ⟨rfl,rfl⟩:=Prod.mk.inj h9
      obtain ⟨hnsl,hnsx⟩:=nodesF_spec hns
      have HQ:=am hq
      have HG:=am hg
      have HNSL:=am hnsl
      have HNSX:=am hnsx
      have hzb:(n==0)=false:=beq_eq_false_iff_ne.2 hz
      obtain ⟨ad,ead,hx0,-⟩:=at_T24 HR0.out 0 (by decide) (by omega)
      cases ead
      clear h h2 h3 h9 hq hz hns hnsl hnsx hg hx0 hsz60 hmk60
      refine (callsIn_wide (n:=6)).1 ?_
      refine callsIn_of_wp_marks Try.func27 rfl trivial ?_ rfl
      simp only [Try.ntmps27,List.size_toArray,List.length_cons,List.length_nil,Nat.reduceAdd,Nat.reduceSub,Array.replicate_succ,Array.replicate_zero,List.push_toArray,List.append_toArray,List.nil_append,List.cons_append]
      gi_wp2_with (first|(refine ⟨trivial,?_⟩;gi_at_call 50;refine (callsIn_wide.2 (chunk_made (some ad) l0.length c0 _)).mono ?_;rintro e5 w5 ⟨rfl,hw5⟩;have HW5:=am hw5;clear hw5)|(refine ⟨trivial,?_⟩;gi_at_call 48;refine (callsIn_wide.2 (extent_numbers.calls A1 c1 l1 true _ (Kd.C_below HR1.out HB2.out) HC1.out HT.out)).mono ?_;rintro e3 w3 ⟨rfl,hb3⟩;have HB3:=am (HB2.out.trans (hb3.mono HB2.out.size));clear hb3)|(refine ⟨trivial,?_⟩;gi_at_call 19;refine (callsIn_wide.2 (extent_Need.calls k _ c0 l0 n _ HR0.out HC0.out HN.out)).mono ?_;rintro e2 w2 ⟨rfl,hb2⟩;have HB2:=am hb2;clear hb2))
      obtain ⟨n0,hn0⟩:∃ n0,w3.heap.size=n0:=⟨_,rfl⟩
      have HW0:=am (show w.heap.size≤n0 by rw [← hn0];exact HB3.out.size)
      have hsz:w5.heap.size=n0+3:=by rw [HW5.out];simp [hn0]
      have hb5:Below w.heap.size w w5:=by
       rw [HW5.out]
       exact ((HB3.out.alloc HB3.out.size _).alloc (by simp;have:=HB3.out.size;omega) _).alloc (by simp;have:=HB3.out.size;omega) _
      have hbx0:w5.heap[n0]? = some (.cells #[.slice none 0 0] 47 (0,0)):=by rw [HW5.out,← hn0];exact blk_alloc (blk_alloc (blk_new w3 _) _) _
      have hbx1:w5.heap[n0+1]? = some (.cells #[.slice (some ad) l0.length c0] 22 (0,0)):=by
       have h1:=blk_new (w3.alloc (.cells #[.slice none 0 0] 47)) (.cells #[.slice (some ad) l0.length c0] 22)
       rw [World.size_alloc,hn0] at h1
       rw [HW5.out];exact blk_alloc h1 _
      have hbx2:w5.heap[n0+1+1]? = some (.cells #[.int .i64 20] 3 (0,0)):=by
       have h1:=blk_new ((w3.alloc (.cells #[.slice none 0 0] 47)).alloc (.cells #[.slice (some ad) l0.length c0] 22)) (.cells #[.int .i64 20] 3)
       rw [World.size_alloc,World.size_alloc,hn0] at h1
       rw [HW5.out];exact h1
      obtain ⟨nd,hnd⟩:∃ nd:Fin (chunkN l0.length)→List Int,nd=fun x=>ns.getD x.val []:=⟨_,rfl⟩
      have HND:=am hnd
      have hI0:StI n0 w.heap.size w nd [] w5:=⟨⟨_,hbx0,Kd.S_nil _ _ _ _ _⟩,hb5,by omega⟩
      have hoff:∀ b∈[n0],∀ k,OffRow w5 b k:=fun b hb k v hv=>by
       rw [List.mem_singleton.1 hb] at hv
       have hv2:some v=some (.slice none 0 0):=hv.symm.trans (blk_cell hbx0 0)
       rw [Option.some.inj hv2];simp [Value.ownBlock]
      rw [hn0]
      clear hn0 HW5 HB3 HB2 hnd
      have HBX0:=am hbx0
      have HBX1:=am hbx1
      have HBX2:=am hbx2
      have HI0:=am hI0
      have HB5:=am hb5
      have HOFF:=am hoff
      clear hbx0 hbx1 hbx2 hI0 hoff hb5
      refine range_state (α:=Fin (chunkN l0.length)) rfl (by decide) (gf:=73) (lb:=#[.pointer (some ⟨n0+1,0,none⟩),.pointer (some ⟨n0+1+1,0,none⟩)]) rfl trivial (enters_of Try.func73 (by kernel_rfl) rfl)
       (fun x=>#[chunkV ad l0.length x.val]) (fun _=>rfl) (KpF (n0+3) [n0]) (fun xs=>xs=List.finRange (chunkN l0.length)) (fun _=>False) 180 KpF.trans (fun W o=>by rw [hsz];exact KpF.put (by intro b hb;simp at hb;omega) W o)
       (StI n0 w.heap.size w nd) (fun _ _ _=>False) (by rw [hsz];exact StI.own n0 w.heap.size HW0.out w nd) (fun c=>by rintro s A B row h _ _;exact h) HI0.out
       (AsS (n0+3) [n0] (fun x=>actS (some ad) l0.length c0 A1 l1.length c1 n n0 (chunkV ad l0.length x.val)) (StI n0 w.heap.size w nd)) (fun a'=>by rw [hsz];exact AsS.own (StI.own n0 w.heap.size HW0.out w nd) (fun pre W h=>by obtain ⟨⟨v,h1⟩,_⟩:=h;exact ⟨_,_,h1.box⟩) a') ?hit ?assign ?body ?done ?stop
      case hit =>
       intro l R Rx W hRk hRxk hRs hBW hY hI0 hR0
       have ow:∀ {k cs t},k≠n0→w5.heap[k]? = some (.cells cs t (0,0))→Own1 (n0+3) [n0] W k cs t:=fun {k cs t} hk hh=>⟨(hBW.block k (blk_lt hh)).trans hh,by have:=blk_lt hh;rw [hsz] at this;omega,fun b hb=>by
        obtain rfl:=List.mem_singleton.1 hb
        refine ⟨hk,fun v hv=>?_⟩
        rw [cell_of_heap (hBW.block b (blk_lt HBX0.out))] at hv
        exact HOFF.out b hb k v hv⟩
       refine (chunk_in 5 (by decide) l (n0+3) [n0] (by intro b hb;simp at hb;omega) (n0+1) (n0+1+1) ad l0.length c0 HC0.out HG.out.2 (StI n0 w.heap.size w nd) R Rx 180 (by decide)
        (fun pre W W' h hb=>h.below HW0.out hb) (fun W W' h hb=>hRk _ _ ⟨hb.size,fun k o _ hk _=>(hb.block k (Array.getElem?_eq_some_iff.1 hk).1).trans hk⟩ h) (fun W h=>by have:=hRs W h;rw [hsz] at this;exact this) hY W (ow (by omega) HBX1.out) (ow (by omega) HBX2.out) hI0 hR0).mono ?_
       rintro e W' ⟨⟨v,rfl⟩,hI9,hR9⟩
       exact ⟨⟨v,rfl⟩,.inl ⟨_,rfl,hI9,hR9⟩⟩
      case assign =>
       intro l pre x W K hIp hlen hszW hK
       gi_wp2
       exact hK _ _ (KeepsFrom.refl _ _) ⟨rfl,hIp,KpF.refl_ _ _ _⟩
      case body =>
       rintro l pre x a' W0 W has hlen
       obtain ⟨rfl,⟨⟨v,hNB⟩,hBel,hszW⟩,hKp⟩:=has
       dsimp only at hNB hBel hszW hKp ⊢
       have hx:x.val*20 < l0.length:=by have:=x.isLt;unfold chunkN at this;omega
       have hnode:=HNSX.out x.val x.val (by rw [List.getElem?_range x.isLt])
       rw [show ns.getD x.val []=nd x by rw [HND.out]] at hnode
       unfold nodeF at hnode
       obtain ⟨p,hp,hnode2⟩:=Option.bind_eq_some_iff.1 hnode
       clear hnode
       by_cases hpl:p.length=256
       ·rw [if_pos hpl] at hnode2
        obtain ⟨s,hs,hput⟩:=Option.bind_eq_some_iff.1 hnode2
        clear hnode2
        have hV:chunkV ad l0.length x.val=.slice (some (ad.add (x.val*20*4))) (chunkOf l0 x.val).length (chunkOf l0 x.val).length:=by
         unfold chunkV;rw [chunkOf_len l0 x.val (by omega)]
        rw [hV]
        have HCP:=am (chunkOf_C (Kd.C_below HR0.out hBel) HC0.out x.val hx)
        obtain ⟨C,hC⟩:∃ C,chunkOf l0 x.val=C:=⟨_,rfl⟩
        rw [hC] at HCP hp ⊢
        have HLEN:=am (show (pre.map nd).length < 180 by rw [List.length_map];exact hlen)
        obtain ⟨Mx,hMx⟩:∃ Mx,pre.map nd=Mx:=⟨_,rfl⟩
        have HMX:=am hMx
        rw [hMx] at hNB HLEN
        obtain ⟨A2,c2,rfl⟩:=Kd.S_slice hNB.row
        have hv:=hNB.cell
        have HNB:=am hNB
        have HBEL:=am hBel
        have HSZ:=am hszW
        have HKP:=am hKp
        have HP:=am hp
        have HS:=am hs
        have HPUT:=am hput
        have HPL:=am hpl
        have HP2:=am (show (p.take 252).length=252 by rw [List.length_take,hpl];decide)
        obtain ⟨i0,hi0,_,hsz8,_⟩:=info_parts info5
        have hcut:∀ W':World,(Instr.slice 73 (.slice (some ⟨W.heap.size,0,none⟩) 256 256) none (some (.int .i64 252)) none).run Try.prog W'=.ok (.slice (some ⟨W.heap.size,0,none⟩) 252 256) W' :=
         cut_to (P:=Try.prog) 73 5 .i64 Try.underlying73 hi0 (some ⟨W.heap.size,0,none⟩) 256 256 252 (by decide) (by decide) (by decide)
        obtain ⟨i1,hi1,hz4⟩:=Option.map_eq_some_iff.1 info46
        simp only [Prod.mk.injEq] at hz4
        have HZ:=am hz4
        have HI:=am hi1
        clear hNB hBel hszW hKp hp hs hput hpl hx hV hC hi0 hsz8 hz4 hi1 hlen hsz hv hMx
        gi_wp2_with (first|(gi_at_builtin;refine wpListIn_append_own_at _ rfl _ _ 47 rfl (n0+3) 46 i1 (.slice none 0 0) 1 24 Try.underlying47 HI.out HZ.out.1 HZ.out.2.1 HZ.out.2.2 rfl (by decide) _ _ _ rfl (HOWN8.out.alloc _) ⟨w8.heap.size,0,none⟩ 1 1 [.slice (some ⟨W.heap.size,0,none⟩) 256 256] rfl rfl (by intro j u hj;rw [add_plain,blk_cell (blk_new w8 _) j,← hj];simp) (by intro u hu;rw [List.mem_singleton.1 hu];rfl) (by have:=HLEN.out;unfold maxLen;omega) (by have:=HLEN.out;omega) (by have:=HB8.out.size;have:=HSZ.out;simp;omega) ?_;intro v' w9 hown' hgrow _ hat;obtain ⟨g',cap',rfl⟩:=ownsRow_succ hown';have hq9:w9.heap[n0]? = some (.cells #[.slice A2 Mx.length c2] 47 (0,0)):=(hgrow.block n0 (by have:=blk_lt HLB8.out.box;simp;omega) (fun ee=>by have:=(own_ge HOWN8.out ee.symm).1;omega)).trans (blk_alloc HLB8.out.box _);have hc9:=blk_cell hq9 0;have hf9:=blk_frozen hq9 0;have HQ9:=am hq9;have HOWN9:=am hown';have HGROW:=am hgrow;have HAT:=am hat;clear hq9 hown' hgrow hat)|(refine ⟨trivial,?_⟩;gi_at_call 51;refine (CallsIn.inRound l (callsIn_wide.2 (extent_page_put.calls k (fun k_=>W.heap.size≤k_) (.slice (some ⟨W.heap.size,0,none⟩) 256 256) p 252 4 (wrap64 s) (nd x) W w7 HB7.out HO7.out HPUT.out))).mono ?_;rintro e8 w8 ⟨rfl,ho8,hb8,-⟩;have HO8:=am (Kd.R_mono (ok':=fun k_=>W.heap.size≤k_) ho8 (fun k_ hk=>hk.elim id (fun h=>Nat.le_trans HB7.out.size h)));have HB8:=am hb8;clear ho8 hb8;obtain ⟨inner,hil,hown8,hLB8,hfin⟩:=HNB.out.ready (by omega) HSZ.out HB8.out HO8.out HSZ.out;have HOWN8:=am hown8;have HLB8:=am hLB8;have HFIN:=am hfin;have hv8:=hLB8.cell;have hf8:=blk_frozen hLB8.box 0;clear hown8 hLB8 hfin)|(refine ⟨trivial,?_⟩;gi_at_call 52;have hcs:=crc_Sum.calls k (some ⟨W.heap.size,0,none⟩) 256 (p.take 252) s w6 (Kd.C_take (Kd.R_reads' HO6.out).2.2 (by rw [HPL.out];decide)) (by rw [HP2.out];decide) HS.out;rw [HP2.out] at hcs;refine (CallsIn.inRound l (callsIn_wide.2 hcs)).mono ?_;rintro e7 w7 ⟨rfl,hb7⟩;have HO7:=am (Kd.R_below HO6.out hb7);have HB7:=am (HB6.out.trans (hb7.mono HB6.out.size));clear hb7 hcs)|(refine ⟨trivial,?_⟩;gi_at_call 49;refine (CallsIn.inRound l (callsIn_wide.2 (extent_page_list.calls k (fun k_=>W.heap.size≤k_) (.slice (some ⟨W.heap.size,0,none⟩) 256 256) (List.replicate 256 0) (some (ad.add (x.val*20*4))) C.length C p W _ ((Below.refl _ _).alloc (Nat.le_refl _) _) (made_R W 256 (by decide)) (Kd.C_kept_came heap24 HCP.out ((Below.refl _ _).alloc (Nat.le_refl _) _) (fun _ hk=>hk)) (Nat.le_refl _) HP.out))).mono ?_;rintro e6 w6 ⟨rfl,ho6,hb6,-⟩;have HO6:=am (Kd.R_mono (ok':=fun k_=>W.heap.size≤k_) ho6 (fun k_ hk=>hk.elim id (fun h=>by simp at h;omega)));have HB6:=am hb6;clear ho6 hb6))
        have hgr:(w8.alloc (.cells #[.slice (some ⟨W.heap.size,0,none⟩) 256 256] 46)).grownBy w9 (Value.slice A2 Mx.length c2).ownBlock:=HGROW.out
        have hbz:∀ b∈[n0],b < W.heap.size:=fun b hb=>by rw [List.mem_singleton.1 hb];have:=HSZ.out;omega
        have hb8s:=HB8.out.size
        obtain ⟨hbel9,hsz9⟩:=HLB8.out.bel (by omega) HW0.out (HBEL.out.trans (HB8.out.mono HBEL.out.size)) (.slice (some ⟨g',0,none⟩) (Mx.length+1) cap') hgr
        refine ⟨KeepsFrom.trans ⟨HB8.out.size,fun k o _ hk _=>(HB8.out.block k (Array.getElem?_eq_some_iff.1 hk).1).trans hk⟩ ((HLB8.out.keeps (.slice (some ⟨g',0,none⟩) (Mx.length+1) cap') hgr).from _),
         HKP.out.trans ((kp_below hbz HB8.out).trans (KpF.app HLB8.out (by simp) (by intro q hq;rw [List.mem_singleton.1 hq];have:=HSZ.out;exact ⟨by omega,by omega⟩) hgr HAT.out HQ9.out)),
         ⟨_,by rw [List.map_append,HMX.out];exact HFIN.out w9 _ hgr HOWN9.out HAT.out⟩,hbel9,Nat.le_trans (Nat.le_trans HSZ.out hb8s) hsz9⟩
       ·rw [if_neg hpl] at hnode2
        cases hnode2
      case done =>
       rintro D xs W hD rfl ⟨⟨v,hNB⟩,hBel,hszW⟩ hK
       have hmap:(List.finRange (chunkN l0.length)).map nd=ns:=by
        have hl:=HNSL.out
        rw [List.length_range] at hl
        refine List.ext_getElem (by rw [List.length_map,List.length_finRange,hl]) (fun i h1 h2=>?_)
        rw [List.getElem_map,List.getElem_finRange]
        exact (congrFun HND.out _).trans (by simp [List.getD_eq_getElem?_getD,h2])
       rw [hmap] at hNB
       obtain ⟨A2,c2,rfl⟩:=Kd.S_slice hNB.row
       have hv:=hNB.cell
       have HNB:=am hNB
       have HBEL:=am hBel
       have HSZ:=am hszW
       have HKD:=am hK
       have HDW:=am (show w.heap.size≤D by have:=HW0.out;rw [hsz] at hD;omega)
       clear hNB hBel hszW hK hmap hsz hD
       gi_wp2
       refine wpIn_wide.2 (Code.wp_mono (noPanic_le _) ?_)
       refine start_ (n:=6) (S:=fun w'=>w'.cell? ⟨n0,0,none⟩=some (.slice A2 ns.length c2)) (ds:=[]) _ (by kernel_rfl) rfl rfl (hv) (fun hHeld=>?_)
       refine pK 0 51 ?_;refine tK 2 53 hHeld ?_ (hy:=by intro w' s0;go_simp;with_reducible rfl)
       refine oK 1 (some 52) (fun K hK=>?_)
       refine gS Try.func53 #[.slice A1 l1.length c1] ?_
       with_reducible refine (extent_index.calls k A1 c1 l1 q _ (Kd.C_drew (Kd.C_below HR1.out HBEL.out)) HC1.out HQ.out).mono ?_
       rintro e9 w9 ⟨v9,rfl,ho9,hb9⟩
       refine ⟨_,rfl,?_⟩
       have HO9:=am ho9
       have HB9:=am hb9
       clear ho9
       refine hK.out _ _ ((HB9.out.cell (World.block_lt_of_cell? _ _ hHeld)).trans hHeld) (fun hHeld=>?_)
       clear hK K;refine norm_ (a':=?_) ?_ ?_;rotate_left
       ·show Act.put _ (some 52) _=_
        simp only [Act.put,sIb,sC0,sCs,i64_w,i32_w];rfl
       refine pK 3 4 ?_;refine pK 4 5 ?_;refine pK 5 6 ?_
       refine done_ (by kernel_rfl) ?_
       refine noPanic_normal _ _ _ ?_
       gi_wp2
       have hWd:W.drew.heap.size=W.heap.size:=rfl
       have hK9:w9.heap[D]? = some (.deferred (some [])):=(HB9.out.block D (Array.getElem?_eq_some_iff.1 HKD.out).1).trans HKD.out
       have hb9':Below W.heap.size W w9:=(below_drew1 (Below.refl _ W)).trans HB9.out
       have hne:(some D)≠v9.ownBlock:=fun ee=>by
        obtain ⟨cs,hh⟩:=Kd.R_typed HO9.out D ee.symm
        rw [hK9] at hh;cases hh
       have hS:=Kd.S_elder' (v:=v9) (Kd.S_drew HNB.out.row) (fun k hk=>by have:=Kd.R_base HO9.out k hk;omega) HB9.out
       have hS2:=Kd.S_grown (Kd.S_bound hS) (grownBy_putObj' w9 D (.deferred none)) (fun k hk ee=>by
        obtain ⟨_,_,_,q',_,cs,hc⟩:=hk
        rw [Option.some.inj ee,hK9] at hc;cases hc)
       refine ⟨by simp,.inl ⟨_,_,rfl,run_takeDeferred hK9,?_⟩⟩
       exact ⟨_,by simp [results,Try.results27,go_sem],_,_,rfl,Kd.R_grown1 (Kd.R_lower HO9.out (by have:=HBEL.out.size;omega)) rfl (grownBy_putObj' w9 D _) hne,Kd.S_mono (Kd.S_lower hS2 (by have:=HW0.out;omega)) (fun k hk=>hk.1.2),(HBEL.out.trans (hb9'.mono HBEL.out.size)).grown (grownBy_putObj' w9 D _) (by have:=HBEL.out.size;have:=hb9'.size;omega) (fun k ek=>by have:=Option.some.inj ek;have:=HDW.out;omega)⟩
      case stop =>
       intro D c pre W _ _ h _
       exact h.elim
     ·rw [if_neg hg] at h
      cases h
  ·rw [if_neg hlen] at h
   obtain ⟨rfl,h9⟩:=Prod.mk.inj (Option.some.inj h)
   obtain ⟨rfl,rfl⟩:=Prod.mk.inj h9
   clear h h9
   have hnb:decide (n < 0)=false:=decide_eq_false hneg
   have hlb:(n != (l1.length:Int))=true:=bne_iff_ne.2 hlen
   clear hneg hlen
   go_enter Try.func27,Try.ntmps27
   go_wp2_with (go_at_call 19;refine (extent_Need.calls k _ c0 l0 n _ HR0.out HC0.out HN.out).mono ?_;rintro e2 w2 ⟨rfl,hb2⟩;have HB2:=am hb2;clear hb2)
   go_ret3
   exact ⟨_,_,rfl,Kd.R_nil _ _ _ _ _,Kd.S_nil _ _ _ _ _,HB2.out⟩
end Go.Proofs.Ytopmjjnkolfciaa.Pr
end
section
namespace Go.Proofs.Ytopmjjnkolfciaa.Pr
open Go.RowKit Go.Proofs.YtopmjjnkolfciaaW.PrintWords Go.Proofs.YtopmjjnkolfciaaW.PrintLast Go.Proofs.YtopmjjnkolfciaaW.PrintMore
attribute [local go_sem] max2_int min2_int max_two min_two max_three min_three max_four min_four
attribute [local go_sem] Go.Proofs.Ytopmjjnkolfciaa.Hl.str_geq Go.Proofs.Ytopmjjnkolfciaa.Hl.str_gtr Go.Proofs.Ytopmjjnkolfciaa.Hl.str_leq
set_option linter.unusedVariables false
set_option linter.unusedSimpArgs false
mutual
def extent_Root.j0:Nat→List Int→List Int→Int→Int→Bool→Option ((List (S24))×List Int×Int)
 | 0,_,_,_,_,_=>none
 | k+1,x0,x5,x6,x7,x22=>if x22=true then ((extent_page_extents.f k x5 x6).bind fun t471=>((extent_Store.f k t471 ([]:List Int)).bind fun bt474=>(if bt474.2.2=0 then ((bytes_Equal.f bt474.1 x0).bind fun t481=>(if t481=true then (some (t471,([]:List Int),0)) else (some (([]:List (S24)),([]:List Int),13)))) else (some (([]:List (S24)),([]:List Int),13))))) else (if x7=1 then (if x6≥1 then (extent_Root.j1 k x0 x5 x6 (decide (x6≤3))) else (extent_Root.j1 k x0 x5 x6 false)) else (extent_Root.j1 k x0 x5 x6 false))
def extent_Root.j1:Nat→List Int→List Int→Int→Bool→Option ((List (S24))×List Int×Int)
 | 0,_,_,_,_=>none
 | k+1,x0,x5,x6,x46=>if x46=true then (extent_Root.l0 k x0 x5 ([]:List Int) x6 0) else (some (([]:List (S24)),([]:List Int),13))
def extent_Root.l0:Nat→List Int→List Int→List Int→Int→Int→Option ((List (S24))×List Int×Int)
 | 0,_,_,_,_,_=>none
 | k+1,x0,x5,x12,x57,x58=>if x58 < x57 then ((extent_page_get.f k x5 (wrap64 (4+(wrap64 (4*x58)))) 4).bind fun t482=>(if x12.length < 17592186044416 then (extent_Root.l0 k x0 x5 (x12++[t482]) x57 (wrap64 (x58+1))) else (none))) else ((extent_numbers.f x12).bind fun t486=>(if t486=true then ((extent_index.f k x12).bind fun t487=>((bytes_Equal.f t487 x0).bind fun t490=>(if t490=true then (some (([]:List (S24)),x12,0)) else (some (([]:List (S24)),([]:List Int),13))))) else (some (([]:List (S24)),([]:List Int),13))))
end
def extent_Root.f (k:Nat) (l0:List Int):Option ((List (S24))×List Int×Int):=if (l0.length:Int)=60 then ((extent_page_get.f k l0 0 2).bind fun t469=>((extent_page_get.f k l0 2 2).bind fun t470=>(if t470=0 then (extent_Root.j0 k l0 l0 t469 t470 (decide (t469≤4))) else (extent_Root.j0 k l0 l0 t469 t470 false)))) else (some (([]:List (S24)),([]:List Int),13))
set_option maxHeartbeats 8000000 in
set_option maxRecDepth 100000 in
theorem extent_Root.calls (k:Nat) (A0:Option Addr) (c0:Nat) (l0:List Int) (r1:List (S24)) (r2:List Int) (r3:Int) (w:World) (hr0:Kd.C (Kd.int .u8) w A0 l0.length l0) (hc0:l0.length≤c0) (h:extent_Root.f k l0=some (r1,r2,r3)) :
  Calls Try.prog 30 #[.slice A0 l0.length c0] w fun e w'=>∃ v0_ v1_:Value,e=.returned (.tuple #[v0_,v1_,.int .i64 r3])∧Kd.R k24 24 w' w.heap.size (fun _=>True) v0_ r1∧Kd.R (Kd.int .i64) 3 w' w.heap.size (fun _=>True) v1_ r2∧Below w.heap.size w w':=by
 have HR0:=am hr0
 have HC0:=am hc0
 clear hr0 hc0
 have HB:=am (Below.refl w.heap.size w)
 have H:(if (l0.length:Int)=60 then ((extent_page_get.f k l0 0 2).bind fun t469=>((extent_page_get.f k l0 2 2).bind fun t470=>(if t470=0 then (extent_Root.j0 k l0 l0 t469 t470 (decide (t469≤4))) else (extent_Root.j0 k l0 l0 t469 t470 false)))) else (some (([]:List (S24)),([]:List Int),13)))=some (r1,r2,r3):=h
 clear h
 by_cases c2:(l0.length:Int)=60
 ·rw [if_pos c2] at H
  have c2b0:((l0.length:Int)==60)=true:=beq_iff_eq.mpr c2
  have c2b1:((l0.length:Int) != 60)=false:=bne_eq_false_iff_eq.mpr c2
  clear c2
  replace H:=Option.bind_eq_some_iff.mp H
  obtain ⟨t469,A30,H⟩:=H
  replace H:((extent_page_get.f k l0 2 2).bind fun t470=>(if t470=0 then (extent_Root.j0 k l0 l0 t469 t470 (decide (t469≤4))) else (extent_Root.j0 k l0 l0 t469 t470 false)))=some (r1,r2,r3):=H
  have A3:=am A30
  clear A30
  replace H:=Option.bind_eq_some_iff.mp H
  obtain ⟨t470,A40,H⟩:=H
  replace H:(if t470=0 then (extent_Root.j0 k l0 l0 t469 t470 (decide (t469≤4))) else (extent_Root.j0 k l0 l0 t469 t470 false))=some (r1,r2,r3):=H
  have A4:=am A40
  clear A40
  have HC5:=am H
  clear H
  go_enter Try.func30,Try.ntmps30
  go_upto_region 6 with (first|((with_reducible refine gate_callee (f:=59) rfl ?_);refine goesL_ (some 19) rfl rfl Try.func59 (by kernel_rfl) rfl #[.slice A0 l0.length c0,.int .i64 0,.int .i64 2] rfl (by (try simp only [List.map_toArray,List.map_cons,List.map_nil]);first|done|rfl|(simp only [List.length_drop,List.length_take];rfl)) ?_;(with_reducible refine (extent_page_get.calls k _ _ l0 0 2 t469 _ ?side1 ?side2 A3.out).mono ?_);(case side1=>exact cc HR0.out);(case side2=>exact HC0.out);rintro e w' ⟨rfl,⟨nd,rfl⟩⟩;refine ⟨_,rfl,?_⟩)|((with_reducible refine gate_callee (f:=59) rfl ?_);refine goesL_ (some 21) rfl rfl Try.func59 (by kernel_rfl) rfl #[.slice A0 l0.length c0,.int .i64 2,.int .i64 2] rfl (by (try simp only [List.map_toArray,List.map_cons,List.map_nil]);first|done|rfl|(simp only [List.length_drop,List.length_take];rfl)) ?_;(with_reducible refine (extent_page_get.calls k _ _ l0 2 2 t470 _ ?side1 ?side2 A4.out).mono ?_);(case side1=>exact cc HR0.out);(case side2=>exact HC0.out);rintro e w' ⟨rfl,⟨nd,rfl⟩⟩;refine ⟨_,rfl,?_⟩))
  (try simp only [Act.put,List.setIfInBounds_toArray,List.set_cons_zero,List.set_cons_succ])
  go_cut [22] (fun v22 wc=>∃ (kq:Nat) (x22_4:Bool),v22=.bool x22_4∧Aside0 (extent_Root.j0 kq l0 l0 t469 t470 x22_4=some (r1,r2,r3))∧Aside0 (kq≤k)∧Aside0 (Below w.heap.size w wc))
  case first =>
   have H:=HC5.out
   clear HC5
   by_cases c6:t470=0
   ·rw [if_pos c6] at H
    have c6b0:(t470==0)=true:=beq_iff_eq.mpr c6
    have c6b1:(t470 != 0)=false:=bne_eq_false_iff_eq.mpr c6
    clear c6
    (first|rw [c6b0]|(simp only [i64_w,i32_w];rw [c6b0])|skip)
    have H':=am H
    clear H;go_wp2
    go_meet
    case rel=>exact ⟨_,(decide (t469≤4)),(by first|rfl|(simp;done)|(simp [*];done)),H',⟨by first|omega|exact Nat.le_refl _⟩,⟨bb HB⟩⟩
   ·rw [if_neg c6] at H
    have c6b0:(t470==0)=false:=beq_eq_false_iff_ne.mpr c6
    have c6b1:(t470 != 0)=true:=bne_iff_ne.mpr c6
    (first|rw [c6b0]|(simp only [i64_w,i32_w];rw [c6b0])|skip)
    have H':=am H
    clear H;go_wp2
    go_meet
    case rel=>exact ⟨_,(false),(by first|rfl|(simp;done)|(simp [*];done)),H',⟨by first|omega|exact Nat.le_refl _⟩,⟨bb HB⟩⟩
  case rest =>
   clear HC5
   try clear c2
   try clear c2b0
   try clear c2b1
   try clear p2
   try clear c3
   try clear c5
   try clear c6
   try clear c6b0
   try clear c6b1
   obtain ⟨kq,x22_4,rfl,HA,HJ4,HB⟩:=hcut
   cases kq with
   | zero=>exact absurd HA.out (by intro h_;cases h_)
   | succ kj4 =>
    have H:=HA.out
    clear HA
    simp only [extent_Root.j0] at H
    by_cases c7:x22_4=true
    ·subst c7
     have H1:((extent_page_extents.f kj4 l0 t469).bind fun t471=>((extent_Store.f kj4 t471 ([]:List Int)).bind fun bt474=>(if bt474.2.2=0 then ((bytes_Equal.f bt474.1 l0).bind fun t481=>(if t481=true then (some (t471,([]:List Int),0)) else (some (([]:List (S24)),([]:List Int),13)))) else (some (([]:List (S24)),([]:List Int),13)))))=some (r1,r2,r3):=by rw [if_pos rfl] at H;exact H
     clear H;have H:=H1;clear H1
     replace H:=Option.bind_eq_some_iff.mp H
     obtain ⟨t471,A80,H⟩:=H
     replace H:((extent_Store.f kj4 t471 ([]:List Int)).bind fun bt474=>(if bt474.2.2=0 then ((bytes_Equal.f bt474.1 l0).bind fun t481=>(if t481=true then (some (t471,([]:List Int),0)) else (some (([]:List (S24)),([]:List Int),13)))) else (some (([]:List (S24)),([]:List Int),13))))=some (r1,r2,r3):=H
     have A8:=am A80
     clear A80
     replace H:=Option.bind_eq_some_iff.mp H
     obtain ⟨⟨t474,t475,t476⟩,A90,H⟩:=H
     replace H:(if t476=0 then ((bytes_Equal.f t474 l0).bind fun t481=>(if t481=true then (some (t471,([]:List Int),0)) else (some (([]:List (S24)),([]:List Int),13)))) else (some (([]:List (S24)),([]:List Int),13)))=some (r1,r2,r3):=H
     have A9:=am A90
     clear A90
     by_cases c10:t476=0
     ·rw [if_pos c10] at H
      have c10b0:(t476==0)=true:=beq_iff_eq.mpr c10
      have c10b1:(t476 != 0)=false:=bne_eq_false_iff_eq.mpr c10
      clear c10
      replace H:=Option.bind_eq_some_iff.mp H
      obtain ⟨t481,A110,H⟩:=H
      replace H:(if t481=true then (some (t471,([]:List Int),0)) else (some (([]:List (S24)),([]:List Int),13)))=some (r1,r2,r3):=H
      have A11:=am A110
      clear A110
      by_cases c12:t481=true
      ·subst c12
       have H1:(some (t471,([]:List Int),0))=some (r1,r2,r3):=by rw [if_pos rfl] at H;exact H
       clear H;have H:=H1;clear H1
       simp only [Option.some.injEq,Prod.mk.injEq] at H
       obtain ⟨rfl,rfl,rfl⟩:=H
       go_wp2_with (first|((with_reducible refine gate_callee (f:=60) rfl ?_);refine goesL_ (some 31) rfl rfl Try.func60 (by kernel_rfl) rfl #[.slice A0 l0.length c0,.int .i64 t469] rfl (by (try simp only [List.map_toArray,List.map_cons,List.map_nil]);first|done|rfl|(simp only [List.length_drop,List.length_take];rfl)) ?_;(with_reducible refine (extent_page_extents.calls kj4 _ _ l0 t469 t471 _ ?side1 ?side2 A8.out).mono ?_);(case side1=>exact cc (Kd.C_below HR0.out HB.out));(case side2=>exact HC0.out);rintro e w13 ⟨v472,rfl,ho0,hb⟩;refine ⟨_,rfl,?_⟩;have n0_:=am (Kd.R_lower ho0 (bz HB));have n1_:=bst HB hb;clear HB;have HO473:=n0_;have HB:=n1_;clear n0_ n1_;(try clear hb);(try clear hb2);(try clear hk);(try clear hi);(try clear ho0);obtain ⟨Ao14,co14,eo14⟩:=Kd.R_slice HO473.out;subst eo14)|((with_reducible refine gate_callee (f:=27) rfl ?_);refine goesL_ (some 34) rfl rfl Try.func27 (by kernel_rfl) rfl #[.slice Ao14 t471.length co14,.slice none 0 0] rfl (by (try simp only [List.map_toArray,List.map_cons,List.map_nil]);first|done|rfl|(simp only [List.length_drop,List.length_take];rfl)) ?_;(refine (extent_Store.calls kj4 _ _ t471 _ _ ([]:List Int) t474 t475 t476 _ ?side1 ?side2 ?side3 ?side4 A9.out).mono ?_);(case side1=>exact cc (Kd.R_reads' HO473.out).2.2);(case side2=>exact (Kd.R_reads' HO473.out).2.1);(case side3=>exact Kd.C_nil _ _);(case side4=>exact Nat.le_refl _);rintro e w15 ⟨v477,v479,rfl,ho0,ho1,hb⟩;refine ⟨_,rfl,?_⟩;have n0_:=am (Kd.R_below (rR HO473) hb);have n1_:=am (Kd.R_lower ho0 (bz HB));have n2_:=am (Kd.S_lower ho1 (bz HB));have n3_:=bst HB hb;clear HO473;clear HB;have HO473:=n0_;have HO478:=n1_;have HO480:=n2_;have HB:=n3_;clear n0_ n1_ n2_ n3_;(try clear hb);(try clear hb2);(try clear hk);(try clear hi);(try clear ho0);(try clear ho1);obtain ⟨Ao16,co16,eo16⟩:=Kd.R_slice HO478.out;subst eo16)|(go_at_call 61;(with_reducible refine (bytes_Equal.calls _ _ t474 _ _ l0 true _ ?side1 ?side2 ?side3 ?side4 A11.out).mono ?_);(case side1=>exact cc (Kd.R_reads' HO478.out).2.2);(case side2=>exact (Kd.R_reads' HO478.out).2.1);(case side3=>exact cc (Kd.C_below HR0.out HB.out));(case side4=>exact HC0.out);rintro e w' ⟨rfl,⟨nd,rfl⟩⟩))
       go_ret3
       exact ⟨_,_,by first|rfl|(simp [errW_none,errW_some]<;>rfl)|(simp [*,errW_none,errW_some]<;>rfl),by (with_reducible repeat (first|apply Kd.R_alloc|apply Kd.R_drewN|apply Kd.R_drew));exact HO473.out,by first|exact Kd.R_nil _ _ _ _ _|exact Kd.N_nil _ _ _ _ _|exact Kd.V_nil _ _ _ _ _|exact Kd.Q_nil _ _ _ _ _|exact Kd.S_nil _ _ _ _ _,bb HB⟩
      ·replace c12:=Bool.eq_false_iff.mpr c12
       subst c12
       have H1:(some (([]:List (S24)),([]:List Int),13))=some (r1,r2,r3):=by rw [if_neg (show ¬ (false=true) by decide)] at H;exact H
       clear H;have H:=H1;clear H1
       simp only [Option.some.injEq,Prod.mk.injEq] at H
       obtain ⟨rfl,rfl,rfl⟩:=H
       go_wp2_with (first|((with_reducible refine gate_callee (f:=60) rfl ?_);refine goesL_ (some 31) rfl rfl Try.func60 (by kernel_rfl) rfl #[.slice A0 l0.length c0,.int .i64 t469] rfl (by (try simp only [List.map_toArray,List.map_cons,List.map_nil]);first|done|rfl|(simp only [List.length_drop,List.length_take];rfl)) ?_;(with_reducible refine (extent_page_extents.calls kj4 _ _ l0 t469 t471 _ ?side1 ?side2 A8.out).mono ?_);(case side1=>exact cc (Kd.C_below HR0.out HB.out));(case side2=>exact HC0.out);rintro e w17 ⟨v472,rfl,ho0,hb⟩;refine ⟨_,rfl,?_⟩;have n0_:=am (Kd.R_lower ho0 (bz HB));have n1_:=bst HB hb;clear HB;have HO473:=n0_;have HB:=n1_;clear n0_ n1_;(try clear hb);(try clear hb2);(try clear hk);(try clear hi);(try clear ho0);obtain ⟨Ao18,co18,eo18⟩:=Kd.R_slice HO473.out;subst eo18)|((with_reducible refine gate_callee (f:=27) rfl ?_);refine goesL_ (some 34) rfl rfl Try.func27 (by kernel_rfl) rfl #[.slice Ao18 t471.length co18,.slice none 0 0] rfl (by (try simp only [List.map_toArray,List.map_cons,List.map_nil]);first|done|rfl|(simp only [List.length_drop,List.length_take];rfl)) ?_;(refine (extent_Store.calls kj4 _ _ t471 _ _ ([]:List Int) t474 t475 t476 _ ?side1 ?side2 ?side3 ?side4 A9.out).mono ?_);(case side1=>exact cc (Kd.R_reads' HO473.out).2.2);(case side2=>exact (Kd.R_reads' HO473.out).2.1);(case side3=>exact Kd.C_nil _ _);(case side4=>exact Nat.le_refl _);rintro e w19 ⟨v477,v479,rfl,ho0,ho1,hb⟩;refine ⟨_,rfl,?_⟩;have n0_:=am (Kd.R_below (rR HO473) hb);have n1_:=am (Kd.R_lower ho0 (bz HB));have n2_:=am (Kd.S_lower ho1 (bz HB));have n3_:=bst HB hb;clear HO473;clear HB;have HO473:=n0_;have HO478:=n1_;have HO480:=n2_;have HB:=n3_;clear n0_ n1_ n2_ n3_;(try clear hb);(try clear hb2);(try clear hk);(try clear hi);(try clear ho0);(try clear ho1);obtain ⟨Ao20,co20,eo20⟩:=Kd.R_slice HO478.out;subst eo20)|(go_at_call 61;(with_reducible refine (bytes_Equal.calls _ _ t474 _ _ l0 false _ ?side1 ?side2 ?side3 ?side4 A11.out).mono ?_);(case side1=>exact cc (Kd.R_reads' HO478.out).2.2);(case side2=>exact (Kd.R_reads' HO478.out).2.1);(case side3=>exact cc (Kd.C_below HR0.out HB.out));(case side4=>exact HC0.out);rintro e w' ⟨rfl,⟨nd,rfl⟩⟩))
       go_ret3
       exact ⟨_,_,by first|rfl|(simp [errW_none,errW_some]<;>rfl)|(simp [*,errW_none,errW_some]<;>rfl),by first|exact Kd.R_nil _ _ _ _ _|exact Kd.N_nil _ _ _ _ _|exact Kd.V_nil _ _ _ _ _|exact Kd.Q_nil _ _ _ _ _|exact Kd.S_nil _ _ _ _ _,by first|exact Kd.R_nil _ _ _ _ _|exact Kd.N_nil _ _ _ _ _|exact Kd.V_nil _ _ _ _ _|exact Kd.Q_nil _ _ _ _ _|exact Kd.S_nil _ _ _ _ _,bb HB⟩
     ·rw [if_neg c10] at H
      have c10b0:(t476==0)=false:=beq_eq_false_iff_ne.mpr c10
      have c10b1:(t476 != 0)=true:=bne_iff_ne.mpr c10
      simp only [Option.some.injEq,Prod.mk.injEq] at H
      obtain ⟨rfl,rfl,rfl⟩:=H
      go_wp2_with (first|((with_reducible refine gate_callee (f:=60) rfl ?_);refine goesL_ (some 31) rfl rfl Try.func60 (by kernel_rfl) rfl #[.slice A0 l0.length c0,.int .i64 t469] rfl (by (try simp only [List.map_toArray,List.map_cons,List.map_nil]);first|done|rfl|(simp only [List.length_drop,List.length_take];rfl)) ?_;(with_reducible refine (extent_page_extents.calls kj4 _ _ l0 t469 t471 _ ?side1 ?side2 A8.out).mono ?_);(case side1=>exact cc (Kd.C_below HR0.out HB.out));(case side2=>exact HC0.out);rintro e w21 ⟨v472,rfl,ho0,hb⟩;refine ⟨_,rfl,?_⟩;have n0_:=am (Kd.R_lower ho0 (bz HB));have n1_:=bst HB hb;clear HB;have HO473:=n0_;have HB:=n1_;clear n0_ n1_;(try clear hb);(try clear hb2);(try clear hk);(try clear hi);(try clear ho0);obtain ⟨Ao22,co22,eo22⟩:=Kd.R_slice HO473.out;subst eo22)|((with_reducible refine gate_callee (f:=27) rfl ?_);refine goesL_ (some 34) rfl rfl Try.func27 (by kernel_rfl) rfl #[.slice Ao22 t471.length co22,.slice none 0 0] rfl (by (try simp only [List.map_toArray,List.map_cons,List.map_nil]);first|done|rfl|(simp only [List.length_drop,List.length_take];rfl)) ?_;(refine (extent_Store.calls kj4 _ _ t471 _ _ ([]:List Int) t474 t475 t476 _ ?side1 ?side2 ?side3 ?side4 A9.out).mono ?_);(case side1=>exact cc (Kd.R_reads' HO473.out).2.2);(case side2=>exact (Kd.R_reads' HO473.out).2.1);(case side3=>exact Kd.C_nil _ _);(case side4=>exact Nat.le_refl _);rintro e w23 ⟨v477,v479,rfl,ho0,ho1,hb⟩;refine ⟨_,rfl,?_⟩;have n0_:=am (Kd.R_below (rR HO473) hb);have n1_:=am (Kd.R_lower ho0 (bz HB));have n2_:=am (Kd.S_lower ho1 (bz HB));have n3_:=bst HB hb;clear HO473;clear HB;have HO473:=n0_;have HO478:=n1_;have HO480:=n2_;have HB:=n3_;clear n0_ n1_ n2_ n3_;(try clear hb);(try clear hb2);(try clear hk);(try clear hi);(try clear ho0);(try clear ho1)))
      go_ret3
      exact ⟨_,_,by first|rfl|(simp [errW_none,errW_some]<;>rfl)|(simp [*,errW_none,errW_some]<;>rfl),by first|exact Kd.R_nil _ _ _ _ _|exact Kd.N_nil _ _ _ _ _|exact Kd.V_nil _ _ _ _ _|exact Kd.Q_nil _ _ _ _ _|exact Kd.S_nil _ _ _ _ _,by first|exact Kd.R_nil _ _ _ _ _|exact Kd.N_nil _ _ _ _ _|exact Kd.V_nil _ _ _ _ _|exact Kd.Q_nil _ _ _ _ _|exact Kd.S_nil _ _ _ _ _,bb HB⟩
    ·replace c7:=Bool.eq_false_iff.mpr c7
     subst c7
     have H1:(if t470=1 then (if t469≥1 then (extent_Root.j1 kj4 l0 l0 t469 (decide (t469≤3))) else (extent_Root.j1 kj4 l0 l0 t469 false)) else (extent_Root.j1 kj4 l0 l0 t469 false))=some (r1,r2,r3):=by rw [if_neg (show ¬ (false=true) by decide)] at H;exact H
     clear H;have H:=H1;clear H1
     have HC24:=am H
     clear H
     go_upto_region 11 with (fail)
     go_cut [46] (fun v46 wc=>∃ (kq:Nat) (x46_23:Bool),v46=.bool x46_23∧Aside0 (extent_Root.j1 kq l0 l0 t469 x46_23=some (r1,r2,r3))∧Aside0 (kq≤kj4)∧Aside0 (Below w.heap.size w wc))
     case first =>
      have H:=HC24.out
      clear HC24
      by_cases c25:t470=1
      ·rw [if_pos c25] at H
       have c25b0:(t470==1)=true:=beq_iff_eq.mpr c25
       have c25b1:(t470 != 1)=false:=bne_eq_false_iff_eq.mpr c25
       clear c25
       (first|rw [c25b0]|(simp only [i64_w,i32_w];rw [c25b0])|skip)
       by_cases c26:t469≥1
       ·rw [if_pos c26] at H
        have c26b0:decide (1≤t469)=true:=decide_eq_true c26
        clear c26
        have H':=am H
        clear H;go_wp2
        go_meet
        case rel=>exact ⟨_,(decide (t469≤3)),(by first|rfl|(simp;done)|(simp [*];done)),H',⟨by have:=HJ4.out;first|omega|exact Nat.le_refl _⟩,⟨bb HB⟩⟩
       ·rw [if_neg c26] at H
        have c26b0:decide (1≤t469)=false:=decide_eq_false c26
        clear c26
        have H':=am H
        clear H;go_wp2
        go_meet
        case rel=>exact ⟨_,(false),(by first|rfl|(simp;done)|(simp [*];done)),H',⟨by have:=HJ4.out;first|omega|exact Nat.le_refl _⟩,⟨bb HB⟩⟩
      ·rw [if_neg c25] at H
       have c25b0:(t470==1)=false:=beq_eq_false_iff_ne.mpr c25
       have c25b1:(t470 != 1)=true:=bne_iff_ne.mpr c25
       (first|rw [c25b0]|(simp only [i64_w,i32_w];rw [c25b0])|skip)
       have H':=am H
       clear H;go_wp2
       go_meet
       case rel=>exact ⟨_,(false),(by first|rfl|(simp;done)|(simp [*];done)),H',⟨by have:=HJ4.out;first|omega|exact Nat.le_refl _⟩,⟨bb HB⟩⟩
     case rest =>
      clear HC24
      try clear c1
      try clear c2
      try clear c2b0
      try clear c2b1
      try clear p2
      try clear c3
      try clear c5
      try clear c6
      try clear c6b0
      try clear c6b1
      try clear c7
      try clear c10
      try clear c10b0
      try clear c10b1
      try clear c12
      try clear c25
      try clear c25b0
      try clear c25b1
      try clear c26
      try clear c26b0
      try clear p2
      obtain ⟨kq,x46_23,rfl,HA,HJ23,HB⟩:=hcut
      cases kq with
      | zero=>exact absurd HA.out (by intro h_;cases h_)
      | succ kj23 =>
       have H:=HA.out
       clear HA
       simp only [extent_Root.j1] at H
       by_cases c27:x46_23=true
       ·subst c27
        have H1:(extent_Root.l0 kj23 l0 l0 ([]:List Int) t469 0)=some (r1,r2,r3):=by rw [if_pos rfl] at H;exact H
        clear H;have H:=H1;clear H1
        have H':=am H
        clear H;go_wp2
        go_loopg [12,58] kj23 (fun kq v12 v58 w'=>∃ (x12_3:List Int) (x58_3:Int),v58=.int .i64 x58_3∧Aside0 (extent_Root.l0 kq l0 l0 x12_3 t469 x58_3=some (r1,r2,r3))∧Aside0 (kq≤kj23)∧Aside0 (Kd.R (Kd.int .i64) 3 w' w.heap.size (fun _=>True) v12 x12_3)∧Aside0 (Below w.heap.size w w'))
        case atStart=>exact ⟨(([]:List Int)),(0),(by first|rfl|(simp;done)|(simp [*];done)),H',⟨Nat.le_refl _⟩,⟨by first|exact Kd.R_nil _ _ _ _ _|exact Kd.N_nil _ _ _ _ _|exact Kd.V_nil _ _ _ _ _|exact Kd.Q_nil _ _ _ _ _|exact Kd.S_nil _ _ _ _ _⟩,⟨bb HB⟩⟩
        case round =>
         clear H'
         try clear c1
         try clear c2
         try clear c2b0
         try clear c2b1
         try clear p2
         try clear c3
         try clear c5
         try clear c6
         try clear c6b0
         try clear c6b1
         try clear c7
         try clear c10
         try clear c10b0
         try clear c10b1
         try clear c12
         try clear c25
         try clear c25b0
         try clear c25b1
         try clear c26
         try clear c26b0
         try clear c27
         try clear p2
         obtain ⟨x12_3,x58_3,rfl,HA,HK3,HO_12,HB⟩:=hrel
         cases gk with
         | zero=>exact absurd HA.out (by intro h_;cases h_)
         | succ k3 =>
          have H:=HA.out
          clear HA
          simp only [extent_Root.l0] at H
          by_cases c28:x58_3 < t469
          ·rw [if_pos c28] at H
           have c28b0:decide (x58_3 < t469)=true:=decide_eq_true c28
           clear c28
           replace H:=Option.bind_eq_some_iff.mp H
           obtain ⟨t482,A290,H⟩:=H
           replace H:(if x12_3.length < 17592186044416 then (extent_Root.l0 k3 l0 l0 (x12_3++[t482]) t469 (wrap64 (x58_3+1))) else (none))=some (r1,r2,r3):=H
           have A29:=am A290
           clear A290
           by_cases c30:x12_3.length < 17592186044416
           ·rw [if_pos c30] at H
            have LMc30:=am c30
            clear c30
            obtain ⟨y483,hy483⟩:∃ y_:List Int,y_=(x12_3++[t482]):=⟨_,rfl⟩
            replace H:(extent_Root.l0 k3 l0 l0 y483 t469 (wrap64 (x58_3+1)))=some (r1,r2,r3):=by first|(rw [hy483];with_reducible exact H)|(have H2_:=(Option.bind_some _ _).symm.trans H;rw [hy483];with_reducible exact H2_)|(have H2_:=(Option.bind_some _ _).symm.trans H;with_reducible exact H2_)|with_reducible exact H|(rw [hy483];exact H)|exact H
            have Ny483:=am hy483
            clear hy483
            have H':=am H
            clear H
            go_wp2_with (first|((with_reducible refine gate_callee (f:=59) rfl ?_);refine goesL_ (some 66) rfl rfl Try.func59 (by kernel_rfl) rfl #[.slice A0 l0.length c0,.int .i64 (wrap64 (4+(wrap64 (4*x58_3)))),.int .i64 4] rfl (by (try simp only [List.map_toArray,List.map_cons,List.map_nil]);first|done|rfl|(simp only [List.length_drop,List.length_take];rfl)) ?_;(with_reducible refine (extent_page_get.calls k3 _ _ l0 (wrap64 (4+(wrap64 (4*x58_3)))) 4 t482 _ ?side1 ?side2 A29.out).mono ?_);(case side1=>exact cc (Kd.C_below HR0.out HB.out));(case side2=>exact HC0.out);rintro e w' ⟨rfl,⟨nd,rfl⟩⟩;refine ⟨_,rfl,?_⟩)|((with_reducible refine gate_builtin (b:=.append) (xs:=#[.tmp 61,.tmp 67]) rfl ?_);at_builtin;refine Kd.R_append (Kd.int .i64) (w0:=w) w.heap.size rfl (.tmp 61) (.tmp 67) 45 3 (.int .i64 0) 8 rfl Try.underlying45 info3 rfl (by decide) (by omega) u12 x12_3 t482 [.int .i64 t482] (fun _=>True) (fun _=>False) rfl rfl ?aP (fun _ hk=>hk.elim) ?aF ?aO ?aB ?aS ?aL ?_;(case aP=>exact rfl);(case aB=>exact (bb HB));(case aF=>exact (fun _ _=>trivial));(case aO=>exact (rR HO_12));(case aS=>exact (bz HB));(case aL=>have:=LMc30.out;omega);intro v484 w31 ho hb hg hat;rw [← Ny483.out] at ho;have n0_:=am (hb);have n1_:=am (ho);clear HB;clear HO_12;have HB:=n0_;have HO485:=n1_;clear n0_ n1_;clear ho hb hg hat))
            go_roundg k3
            case measure=>have:=HJ4.out;have:=HJ23.out;have:=HK3.out;omega
            case rel=>exact ⟨(y483),(wrap64 (x58_3+1)),(by first|rfl|(simp;done)|(simp [*];done)),H',⟨by have:=HJ4.out;have:=HJ23.out;have:=HK3.out;omega⟩,⟨by (with_reducible repeat (first|apply Kd.R_alloc|apply Kd.R_drewN|apply Kd.R_drew));exact HO485.out⟩,⟨bb HB⟩⟩
           ·rw [if_neg c30] at H
            exact absurd H (by simp)
          ·rw [if_neg c28] at H
           have c28b0:decide (x58_3 < t469)=false:=decide_eq_false c28
           clear c28
           replace H:=Option.bind_eq_some_iff.mp H
           obtain ⟨t486,A320,H⟩:=H
           replace H:(if t486=true then ((extent_index.f k3 x12_3).bind fun t487=>((bytes_Equal.f t487 l0).bind fun t490=>(if t490=true then (some (([]:List (S24)),x12_3,0)) else (some (([]:List (S24)),([]:List Int),13))))) else (some (([]:List (S24)),([]:List Int),13)))=some (r1,r2,r3):=H
           have A32:=am A320
           clear A320
           by_cases c33:t486=true
           ·subst c33
            have H1:((extent_index.f k3 x12_3).bind fun t487=>((bytes_Equal.f t487 l0).bind fun t490=>(if t490=true then (some (([]:List (S24)),x12_3,0)) else (some (([]:List (S24)),([]:List Int),13)))))=some (r1,r2,r3):=by rw [if_pos rfl] at H;exact H
            clear H;have H:=H1;clear H1
            replace H:=Option.bind_eq_some_iff.mp H
            obtain ⟨t487,A340,H⟩:=H
            replace H:((bytes_Equal.f t487 l0).bind fun t490=>(if t490=true then (some (([]:List (S24)),x12_3,0)) else (some (([]:List (S24)),([]:List Int),13))))=some (r1,r2,r3):=H
            have A34:=am A340
            clear A340
            replace H:=Option.bind_eq_some_iff.mp H
            obtain ⟨t490,A350,H⟩:=H
            replace H:(if t490=true then (some (([]:List (S24)),x12_3,0)) else (some (([]:List (S24)),([]:List Int),13)))=some (r1,r2,r3):=H
            have A35:=am A350
            clear A350
            by_cases c36:t490=true
            ·subst c36
             have H1:(some (([]:List (S24)),x12_3,0))=some (r1,r2,r3):=by rw [if_pos rfl] at H;exact H
             clear H;have H:=H1;clear H1
             simp only [Option.some.injEq,Prod.mk.injEq] at H
             obtain ⟨rfl,rfl,rfl⟩:=H
             obtain ⟨Ao37,co37,eo37⟩:=Kd.R_slice HO_12.out
             subst eo37
             go_wp2_with (first|((with_reducible refine gate_callee (f:=48) rfl ?_);refine goesL_ (some 71) rfl rfl Try.func48 (by kernel_rfl) rfl #[.slice Ao37 x12_3.length co37] rfl (by (try simp only [List.map_toArray,List.map_cons,List.map_nil]);first|done|rfl|(simp only [List.length_drop,List.length_take];rfl)) ?_;(with_reducible refine (extent_numbers.calls _ _ x12_3 true _ ?side1 ?side2 A32.out).mono ?_);(case side1=>exact cc (Kd.R_reads' HO_12.out).2.2);(case side2=>exact (Kd.R_reads' HO_12.out).2.1);rintro e w38 ⟨rfl,hb⟩;refine ⟨_,rfl,?_⟩;have n0_:=am (Kd.R_below (rR HO_12) hb);have n1_:=bst HB hb;clear HO_12;clear HB;have HO_12:=n0_;have HB:=n1_;clear n0_ n1_;(try clear hb);(try clear hb2);(try clear hk);(try clear hi))|(go_at_call 53;(with_reducible refine (extent_index.calls k3 _ _ x12_3 t487 _ ?side1 ?side2 A34.out).mono ?_);(case side1=>exact cc (Kd.R_reads' HO_12.out).2.2);(case side2=>exact (Kd.R_reads' HO_12.out).2.1);rintro e w39 ⟨v488,rfl,ho0,hb⟩;have n0_:=am (Kd.R_below (rR HO_12) hb);have n1_:=am (Kd.R_lower ho0 (bz HB));have n2_:=bst HB hb;clear HO_12;clear HB;have HO_12:=n0_;have HO489:=n1_;have HB:=n2_;clear n0_ n1_ n2_;(try clear hb);(try clear hb2);(try clear hk);(try clear hi);(try clear ho0);obtain ⟨Ao40,co40,eo40⟩:=Kd.R_slice HO489.out;subst eo40)|(go_at_call 61;(with_reducible refine (bytes_Equal.calls _ _ t487 _ _ l0 true _ ?side1 ?side2 ?side3 ?side4 A35.out).mono ?_);(case side1=>exact cc (Kd.R_reads' HO489.out).2.2);(case side2=>exact (Kd.R_reads' HO489.out).2.1);(case side3=>exact cc (Kd.C_below HR0.out HB.out));(case side4=>exact HC0.out);rintro e w' ⟨rfl,⟨nd,rfl⟩⟩))
             go_ret3
             exact ⟨_,_,by first|rfl|(simp [errW_none,errW_some]<;>rfl)|(simp [*,errW_none,errW_some]<;>rfl),by first|exact Kd.R_nil _ _ _ _ _|exact Kd.N_nil _ _ _ _ _|exact Kd.V_nil _ _ _ _ _|exact Kd.Q_nil _ _ _ _ _|exact Kd.S_nil _ _ _ _ _,by (with_reducible repeat (first|apply Kd.R_alloc|apply Kd.R_drewN|apply Kd.R_drew));exact HO_12.out,bb HB⟩
            ·replace c36:=Bool.eq_false_iff.mpr c36
             subst c36
             have H1:(some (([]:List (S24)),([]:List Int),13))=some (r1,r2,r3):=by rw [if_neg (show ¬ (false=true) by decide)] at H;exact H
             clear H;have H:=H1;clear H1
             simp only [Option.some.injEq,Prod.mk.injEq] at H
             obtain ⟨rfl,rfl,rfl⟩:=H
             obtain ⟨Ao41,co41,eo41⟩:=Kd.R_slice HO_12.out
             subst eo41
             go_wp2_with (first|((with_reducible refine gate_callee (f:=48) rfl ?_);refine goesL_ (some 71) rfl rfl Try.func48 (by kernel_rfl) rfl #[.slice Ao41 x12_3.length co41] rfl (by (try simp only [List.map_toArray,List.map_cons,List.map_nil]);first|done|rfl|(simp only [List.length_drop,List.length_take];rfl)) ?_;(with_reducible refine (extent_numbers.calls _ _ x12_3 true _ ?side1 ?side2 A32.out).mono ?_);(case side1=>exact cc (Kd.R_reads' HO_12.out).2.2);(case side2=>exact (Kd.R_reads' HO_12.out).2.1);rintro e w42 ⟨rfl,hb⟩;refine ⟨_,rfl,?_⟩;have n0_:=am (Kd.R_below (rR HO_12) hb);have n1_:=bst HB hb;clear HO_12;clear HB;have HO_12:=n0_;have HB:=n1_;clear n0_ n1_;(try clear hb);(try clear hb2);(try clear hk);(try clear hi))|(go_at_call 53;(with_reducible refine (extent_index.calls k3 _ _ x12_3 t487 _ ?side1 ?side2 A34.out).mono ?_);(case side1=>exact cc (Kd.R_reads' HO_12.out).2.2);(case side2=>exact (Kd.R_reads' HO_12.out).2.1);rintro e w43 ⟨v488,rfl,ho0,hb⟩;have n0_:=am (Kd.R_below (rR HO_12) hb);have n1_:=am (Kd.R_lower ho0 (bz HB));have n2_:=bst HB hb;clear HO_12;clear HB;have HO_12:=n0_;have HO489:=n1_;have HB:=n2_;clear n0_ n1_ n2_;(try clear hb);(try clear hb2);(try clear hk);(try clear hi);(try clear ho0);obtain ⟨Ao44,co44,eo44⟩:=Kd.R_slice HO489.out;subst eo44)|(go_at_call 61;(with_reducible refine (bytes_Equal.calls _ _ t487 _ _ l0 false _ ?side1 ?side2 ?side3 ?side4 A35.out).mono ?_);(case side1=>exact cc (Kd.R_reads' HO489.out).2.2);(case side2=>exact (Kd.R_reads' HO489.out).2.1);(case side3=>exact cc (Kd.C_below HR0.out HB.out));(case side4=>exact HC0.out);rintro e w' ⟨rfl,⟨nd,rfl⟩⟩))
             go_ret3
             exact ⟨_,_,by first|rfl|(simp [errW_none,errW_some]<;>rfl)|(simp [*,errW_none,errW_some]<;>rfl),by first|exact Kd.R_nil _ _ _ _ _|exact Kd.N_nil _ _ _ _ _|exact Kd.V_nil _ _ _ _ _|exact Kd.Q_nil _ _ _ _ _|exact Kd.S_nil _ _ _ _ _,by first|exact Kd.R_nil _ _ _ _ _|exact Kd.N_nil _ _ _ _ _|exact Kd.V_nil _ _ _ _ _|exact Kd.Q_nil _ _ _ _ _|exact Kd.S_nil _ _ _ _ _,bb HB⟩
           ·replace c33:=Bool.eq_false_iff.mpr c33
            subst c33
            have H1:(some (([]:List (S24)),([]:List Int),13))=some (r1,r2,r3):=by rw [if_neg (show ¬ (false=true) by decide)] at H;exact H
            clear H;have H:=H1;clear H1
            simp only [Option.some.injEq,Prod.mk.injEq] at H
            obtain ⟨rfl,rfl,rfl⟩:=H
            obtain ⟨Ao45,co45,eo45⟩:=Kd.R_slice HO_12.out
            subst eo45
            go_wp2_with (first|((with_reducible refine gate_callee (f:=48) rfl ?_);refine goesL_ (some 71) rfl rfl Try.func48 (by kernel_rfl) rfl #[.slice Ao45 x12_3.length co45] rfl (by (try simp only [List.map_toArray,List.map_cons,List.map_nil]);first|done|rfl|(simp only [List.length_drop,List.length_take];rfl)) ?_;(with_reducible refine (extent_numbers.calls _ _ x12_3 false _ ?side1 ?side2 A32.out).mono ?_);(case side1=>exact cc (Kd.R_reads' HO_12.out).2.2);(case side2=>exact (Kd.R_reads' HO_12.out).2.1);rintro e w46 ⟨rfl,hb⟩;refine ⟨_,rfl,?_⟩;have n0_:=am (Kd.R_below (rR HO_12) hb);have n1_:=bst HB hb;clear HO_12;clear HB;have HO_12:=n0_;have HB:=n1_;clear n0_ n1_;(try clear hb);(try clear hb2);(try clear hk);(try clear hi)))
            go_ret3
            exact ⟨_,_,by first|rfl|(simp [errW_none,errW_some]<;>rfl)|(simp [*,errW_none,errW_some]<;>rfl),by first|exact Kd.R_nil _ _ _ _ _|exact Kd.N_nil _ _ _ _ _|exact Kd.V_nil _ _ _ _ _|exact Kd.Q_nil _ _ _ _ _|exact Kd.S_nil _ _ _ _ _,by first|exact Kd.R_nil _ _ _ _ _|exact Kd.N_nil _ _ _ _ _|exact Kd.V_nil _ _ _ _ _|exact Kd.Q_nil _ _ _ _ _|exact Kd.S_nil _ _ _ _ _,bb HB⟩
       ·replace c27:=Bool.eq_false_iff.mpr c27
        subst c27
        have H1:(some (([]:List (S24)),([]:List Int),13))=some (r1,r2,r3):=by rw [if_neg (show ¬ (false=true) by decide)] at H;exact H
        clear H;have H:=H1;clear H1
        simp only [Option.some.injEq,Prod.mk.injEq] at H
        obtain ⟨rfl,rfl,rfl⟩:=H
        go_wp2
        go_ret3
        exact ⟨_,_,by first|rfl|(simp [errW_none,errW_some]<;>rfl)|(simp [*,errW_none,errW_some]<;>rfl),by first|exact Kd.R_nil _ _ _ _ _|exact Kd.N_nil _ _ _ _ _|exact Kd.V_nil _ _ _ _ _|exact Kd.Q_nil _ _ _ _ _|exact Kd.S_nil _ _ _ _ _,by first|exact Kd.R_nil _ _ _ _ _|exact Kd.N_nil _ _ _ _ _|exact Kd.V_nil _ _ _ _ _|exact Kd.Q_nil _ _ _ _ _|exact Kd.S_nil _ _ _ _ _,bb HB⟩
 ·rw [if_neg c2] at H
  have c2b0:((l0.length:Int)==60)=false:=beq_eq_false_iff_ne.mpr c2
  have c2b1:((l0.length:Int) != 60)=true:=bne_iff_ne.mpr c2
  simp only [Option.some.injEq,Prod.mk.injEq] at H
  obtain ⟨rfl,rfl,rfl⟩:=H
  go_enter Try.func30,Try.ntmps30
  go_wp2
  go_ret3
  exact ⟨_,_,by first|rfl|(simp [errW_none,errW_some]<;>rfl)|(simp [*,errW_none,errW_some]<;>rfl),by first|exact Kd.R_nil _ _ _ _ _|exact Kd.N_nil _ _ _ _ _|exact Kd.V_nil _ _ _ _ _|exact Kd.Q_nil _ _ _ _ _|exact Kd.S_nil _ _ _ _ _,by first|exact Kd.R_nil _ _ _ _ _|exact Kd.N_nil _ _ _ _ _|exact Kd.V_nil _ _ _ _ _|exact Kd.Q_nil _ _ _ _ _|exact Kd.S_nil _ _ _ _ _,bb HB⟩
mutual
def extent_Join.j0:Nat→List (List Int)→Bool→Option ((List (S24))×Int)
 | 0,_,_=>none
 | k+1,x0,x18=>if x18=true then (some (([]:List (S24)),13)) else (extent_Join.l0 k x0 ([]:List (S24)) ([]:List Int) x0 (x0.length:Int) 0)
def extent_Join.l0:Nat→List (List Int)→List (S24)→List Int→List (List Int)→Int→Int→Option ((List (S24))×Int)
 | 0,_,_,_,_,_,_=>none
 | k+1,x0,x4,x5,x19,x20,x21=>if x21 < x20 then (if 0≤x21 then (if x21 < (x19.length:Int) then (if ((rd_L5 x19 x21).length:Int)=256 then ((extent_page_get.f k (rd_L5 x19 x21) 0 2).bind fun t492=>(extent_Join.j2 k x0 x4 x5 x21 (rd_L5 x19 x21) x19 x20 x21 (decide (t492 > 20)))) else (extent_Join.j2 k x0 x4 x5 x21 (rd_L5 x19 x21) x19 x20 x21 true)) else (none)) else (none)) else ((extent_Store.f k x4 x5).bind fun bt503=>(if bt503.2.2=0 then ((slices_EqualFunc_byte_byte_byte_byte.f k bt503.2.1 x0).bind fun t510=>(if t510=true then (some (x4,0)) else (some (([]:List (S24)),13)))) else (some (([]:List (S24)),13))))
def extent_Join.j2:Nat→List (List Int)→List (S24)→List Int→Int→List Int→List (List Int)→Int→Int→Bool→Option ((List (S24))×Int)
 | 0,_,_,_,_,_,_,_,_,_=>none
 | k+1,x0,x4,x5,x6,x7,x19,x20,x21,x33=>if x33=true then (some (([]:List (S24)),13)) else ((extent_page_get.f k x7 0 2).bind fun t493=>((extent_page_extents.f k x7 t493).bind fun t494=>(if x4.length+t494.length < 4398046511104 then (if x5.length < 17592186044416 then (extent_Join.l0 k x0 (x4++t494) (x5++[wrap64 (x6+1)]) x19 x20 (wrap64 (x21+1))) else (none)) else (none))))
end
def extent_Join.f (k:Nat) (l0:List (List Int)):Option ((List (S24))×Int):=if (l0.length:Int)=0 then (extent_Join.j0 k l0 true) else (extent_Join.j0 k l0 (decide ((l0.length:Int) > 3)))
set_option maxHeartbeats 8000000 in
set_option maxRecDepth 100000 in
theorem extent_Join.calls (k:Nat) (A0:Option Addr) (c0:Nat) (l0:List (List Int)) (r1:List (S24)) (r2:Int) (w:World) (hr0:Kd.C (Kd.slice 5 (Kd.int .u8)) w A0 l0.length l0) (hc0:l0.length≤c0) (h:extent_Join.f k l0=some (r1,r2)) :
  Calls Try.prog 31 #[.slice A0 l0.length c0] w fun e w'=>∃ v0_:Value,e=.returned (.tuple #[v0_,.int .i64 r2])∧Kd.R k24 24 w' w.heap.size (fun _=>True) v0_ r1∧Below w.heap.size w w':=by
 have HR0:=am hr0
 have HC0:=am hc0
 clear hr0 hc0
 have HB:=am (Below.refl w.heap.size w)
 have H:(if (l0.length:Int)=0 then (extent_Join.j0 k l0 true) else (extent_Join.j0 k l0 (decide ((l0.length:Int) > 3))))=some (r1,r2):=h
 clear h
 have HC2:=am H
 clear H
 go_enter Try.func31,Try.ntmps31
 go_upto_region 1 with (fail)
 go_cut [18] (fun v18 wc=>∃ (kq:Nat) (x18_1:Bool),v18=.bool x18_1∧Aside0 (extent_Join.j0 kq l0 x18_1=some (r1,r2))∧Aside0 (kq≤k)∧Aside0 (Below w.heap.size w wc))
 case first =>
  have H:=HC2.out
  clear HC2
  by_cases c3:(l0.length:Int)=0
  ·rw [if_pos c3] at H
   have c3b0:((l0.length:Int)==0)=true:=beq_iff_eq.mpr c3
   have c3b1:((l0.length:Int) != 0)=false:=bne_eq_false_iff_eq.mpr c3
   clear c3
   (first|rw [c3b0]|(simp only [i64_w,i32_w];rw [c3b0])|skip)
   have H':=am H
   clear H;go_wp2
   go_meet
   case rel=>exact ⟨_,(true),(by first|rfl|(simp;done)|(simp [*];done)),H',⟨by first|omega|exact Nat.le_refl _⟩,⟨bb HB⟩⟩
  ·rw [if_neg c3] at H
   have c3b0:((l0.length:Int)==0)=false:=beq_eq_false_iff_ne.mpr c3
   have c3b1:((l0.length:Int) != 0)=true:=bne_iff_ne.mpr c3
   have c3b2:¬ (l0=[]):=fun h_=>c3 (by rw [h_];rfl)
   (first|rw [c3b0]|(simp only [i64_w,i32_w];rw [c3b0])|skip)
   have H':=am H
   clear H;go_wp2
   go_meet
   case rel=>exact ⟨_,(decide ((l0.length:Int) > 3)),(by first|rfl|(simp;done)|(simp [*];done)),H',⟨by first|omega|exact Nat.le_refl _⟩,⟨bb HB⟩⟩
 case rest =>
  clear HC2
  try clear p2
  try clear c3
  try clear c3b0
  try clear c3b1
  try clear c3b2
  obtain ⟨kq,x18_1,rfl,HA,HJ1,HB⟩:=hcut
  cases kq with
  | zero=>exact absurd HA.out (by intro h_;cases h_)
  | succ kj1 =>
   have H:=HA.out
   clear HA
   simp only [extent_Join.j0] at H
   by_cases c4:x18_1=true
   ·subst c4
    have H1:(some (([]:List (S24)),13))=some (r1,r2):=by rw [if_pos rfl] at H;exact H
    clear H;have H:=H1;clear H1
    simp only [Option.some.injEq,Prod.mk.injEq] at H
    obtain ⟨rfl,rfl⟩:=H
    go_wp2
    go_ret2
    exact ⟨_,by first|rfl|(simp [errW_none,errW_some]<;>rfl)|(simp [*,errW_none,errW_some]<;>rfl),by first|exact Kd.R_nil _ _ _ _ _|exact Kd.N_nil _ _ _ _ _|exact Kd.V_nil _ _ _ _ _|exact Kd.Q_nil _ _ _ _ _|exact Kd.S_nil _ _ _ _ _,bb HB⟩
   ·replace c4:=Bool.eq_false_iff.mpr c4
    subst c4
    have H1:(extent_Join.l0 kj1 l0 ([]:List (S24)) ([]:List Int) l0 (l0.length:Int) 0)=some (r1,r2):=by rw [if_neg (show ¬ (false=true) by decide)] at H;exact H
    clear H;have H:=H1;clear H1
    have H':=am H
    clear H;go_wp2
    go_loopg [4,5,21] kj1 (fun kq v4 v5 v21 w'=>∃ (x4_2:List (S24)) (x5_2:List Int) (x21_2:Int),v21=.int .i64 x21_2∧Aside0 (extent_Join.l0 kq l0 x4_2 x5_2 l0 (l0.length:Int) x21_2=some (r1,r2))∧Aside0 (kq≤kj1)∧Aside0 (Kd.R k24 24 w' w.heap.size (fun _=>True) v4 x4_2)∧Aside0 (Kd.R (Kd.int .i64) 3 w' w.heap.size (fun _=>True) v5 x5_2)∧Aside0 (Below w.heap.size w w'))
    case atStart=>exact ⟨(([]:List (S24))),(([]:List Int)),(0),(by first|rfl|(simp;done)|(simp [*];done)),H',⟨Nat.le_refl _⟩,⟨by first|exact Kd.R_nil _ _ _ _ _|exact Kd.N_nil _ _ _ _ _|exact Kd.V_nil _ _ _ _ _|exact Kd.Q_nil _ _ _ _ _|exact Kd.S_nil _ _ _ _ _⟩,⟨by first|exact Kd.R_nil _ _ _ _ _|exact Kd.N_nil _ _ _ _ _|exact Kd.V_nil _ _ _ _ _|exact Kd.Q_nil _ _ _ _ _|exact Kd.S_nil _ _ _ _ _⟩,⟨bb HB⟩⟩
    case round =>
     clear H'
     try clear p2
     try clear c3
     try clear c3b0
     try clear c3b1
     try clear c3b2
     try clear c4
     try clear p2
     obtain ⟨x4_2,x5_2,x21_2,rfl,HA,HK2,HO_4,HO_5,HB⟩:=hrel
     cases gk with
     | zero=>exact absurd HA.out (by intro h_;cases h_)
     | succ k2 =>
      have H:=HA.out
      clear HA
      simp only [extent_Join.l0] at H
      by_cases c5:x21_2 < (l0.length:Int)
      ·rw [if_pos c5] at H
       have c5b0:decide (x21_2 < (l0.length:Int))=true:=decide_eq_true c5
       clear c5
       by_cases c6:0≤x21_2
       ·rw [if_pos c6] at H
        have c6b0:decide (0≤x21_2)=true:=decide_eq_true c6
        clear c6
        by_cases c7:x21_2 < (l0.length:Int)
        ·rw [if_pos c7] at H
         have c7b0:decide (x21_2 < (l0.length:Int))=true:=decide_eq_true c7
         clear c7
         have HC8:=am H
         clear H
         have p491:0≤(x21_2:Int):=od
         have q491:x21_2 < (l0.length:Int):=od
         obtain ⟨ad491,A491_0,c491_0,e491,hx491_0,hl491_0,hi491_0⟩:=at_L5 HR0.out x21_2 p491 q491
         cases e491
         replace hx491_0:=hB HB hx491_0
         have HR491_0:=am hi491_0
         have HC491_0:=am hl491_0
         clear hi491_0 hl491_0;replace p491:=eq_true p491;replace q491:=eq_true q491
         go_upto_region 8 with (fail)
         go_cut [33] (fun v33 wc=>∃ (kq:Nat) (x33_7:Bool),v33=.bool x33_7∧Aside0 (extent_Join.j2 kq l0 x4_2 x5_2 x21_2 (rd_L5 l0 x21_2) l0 (l0.length:Int) x21_2 x33_7=some (r1,r2))∧Aside0 (kq≤k2)∧Aside0 (Kd.R k24 24 wc w.heap.size (fun _=>True) u4 x4_2)∧Aside0 (Kd.R (Kd.int .i64) 3 wc w.heap.size (fun _=>True) u5 x5_2)∧Aside0 (Below w.heap.size w wc))
         case first =>
          have H:=HC8.out
          clear HC8
          by_cases c9:((rd_L5 l0 x21_2).length:Int)=256
          ·rw [if_pos c9] at H
           have c9b0:(((rd_L5 l0 x21_2).length:Int)==256)=true:=beq_iff_eq.mpr c9
           have c9b1:(((rd_L5 l0 x21_2).length:Int) != 256)=false:=bne_eq_false_iff_eq.mpr c9
           clear c9
           (first|rw [c9b0]|(simp only [i64_w,i32_w];rw [c9b0])|skip)
           replace H:=Option.bind_eq_some_iff.mp H
           obtain ⟨t492,A100,H⟩:=H
           replace H:(extent_Join.j2 k2 l0 x4_2 x5_2 x21_2 (rd_L5 l0 x21_2) l0 (l0.length:Int) x21_2 (decide (t492 > 20)))=some (r1,r2):=H
           have A10:=am A100
           clear A100
           have H':=am H
           clear H
           go_wp2_with (first|(go_at_call 59;(with_reducible refine (extent_page_get.calls k2 _ _ (rd_L5 l0 x21_2) 0 2 t492 _ ?side1 ?side2 A10.out).mono ?_);(case side1=>exact cc (Kd.C_below HR491_0.out HB.out));(case side2=>exact HC491_0.out);rintro e w' ⟨rfl,⟨nd,rfl⟩⟩))
           go_meet
           case rel=>exact ⟨_,(decide (t492 > 20)),(by first|rfl|(simp;done)|(simp [*];done)),H',⟨by have:=HJ1.out;have:=HK2.out;first|omega|exact Nat.le_refl _⟩,⟨by (with_reducible repeat (first|apply Kd.R_alloc|apply Kd.R_drewN|apply Kd.R_drew));exact HO_4.out⟩,⟨by (with_reducible repeat (first|apply Kd.R_alloc|apply Kd.R_drewN|apply Kd.R_drew));exact HO_5.out⟩,⟨bb HB⟩⟩
          ·rw [if_neg c9] at H
           have c9b0:(((rd_L5 l0 x21_2).length:Int)==256)=false:=beq_eq_false_iff_ne.mpr c9
           have c9b1:(((rd_L5 l0 x21_2).length:Int) != 256)=true:=bne_iff_ne.mpr c9
           (first|rw [c9b0]|(simp only [i64_w,i32_w];rw [c9b0])|skip)
           have H':=am H
           clear H;go_wp2
           go_meet
           case rel=>exact ⟨_,(true),(by first|rfl|(simp;done)|(simp [*];done)),H',⟨by have:=HJ1.out;have:=HK2.out;first|omega|exact Nat.le_refl _⟩,⟨by (with_reducible repeat (first|apply Kd.R_alloc|apply Kd.R_drewN|apply Kd.R_drew));exact HO_4.out⟩,⟨by (with_reducible repeat (first|apply Kd.R_alloc|apply Kd.R_drewN|apply Kd.R_drew));exact HO_5.out⟩,⟨bb HB⟩⟩
         case rest =>
          clear HC8
          try clear p2
          try clear c3
          try clear c3b0
          try clear c3b1
          try clear c3b2
          try clear c4
          try clear p4
          try clear q4
          try clear hx4
          try clear c5
          try clear c5b0
          try clear c6
          try clear c6b0
          try clear c7
          try clear c7b0
          try clear c9
          try clear c9b0
          try clear c9b1
          try clear hx491_0
          try clear p2
          try clear p491
          try clear q491
          obtain ⟨kq,x33_7,rfl,HA,HJ7,HO_4,HO_5,HB⟩:=hcut
          cases kq with
          | zero=>exact absurd HA.out (by intro h_;cases h_)
          | succ kj7 =>
           have H:=HA.out
           clear HA
           simp only [extent_Join.j2] at H
           by_cases c11:x33_7=true
           ·subst c11
            have H1:(some (([]:List (S24)),13))=some (r1,r2):=by rw [if_pos rfl] at H;exact H
            clear H;have H:=H1;clear H1
            simp only [Option.some.injEq,Prod.mk.injEq] at H
            obtain ⟨rfl,rfl⟩:=H
            go_wp2
            go_ret2
            exact ⟨_,by first|rfl|(simp [errW_none,errW_some]<;>rfl)|(simp [*,errW_none,errW_some]<;>rfl),by first|exact Kd.R_nil _ _ _ _ _|exact Kd.N_nil _ _ _ _ _|exact Kd.V_nil _ _ _ _ _|exact Kd.Q_nil _ _ _ _ _|exact Kd.S_nil _ _ _ _ _,bb HB⟩
           ·replace c11:=Bool.eq_false_iff.mpr c11
            subst c11
            have H1:((extent_page_get.f kj7 (rd_L5 l0 x21_2) 0 2).bind fun t493=>((extent_page_extents.f kj7 (rd_L5 l0 x21_2) t493).bind fun t494=>(if x4_2.length+t494.length < 4398046511104 then (if x5_2.length < 17592186044416 then (extent_Join.l0 kj7 l0 (x4_2++t494) (x5_2++[wrap64 (x21_2+1)]) l0 (l0.length:Int) (wrap64 (x21_2+1))) else (none)) else (none))))=some (r1,r2):=by rw [if_neg (show ¬ (false=true) by decide)] at H;exact H
            clear H;have H:=H1;clear H1
            replace H:=Option.bind_eq_some_iff.mp H
            obtain ⟨t493,A120,H⟩:=H
            replace H:((extent_page_extents.f kj7 (rd_L5 l0 x21_2) t493).bind fun t494=>(if x4_2.length+t494.length < 4398046511104 then (if x5_2.length < 17592186044416 then (extent_Join.l0 kj7 l0 (x4_2++t494) (x5_2++[wrap64 (x21_2+1)]) l0 (l0.length:Int) (wrap64 (x21_2+1))) else (none)) else (none)))=some (r1,r2):=H
            have A12:=am A120
            clear A120
            replace H:=Option.bind_eq_some_iff.mp H
            obtain ⟨t494,A130,H⟩:=H
            replace H:(if x4_2.length+t494.length < 4398046511104 then (if x5_2.length < 17592186044416 then (extent_Join.l0 kj7 l0 (x4_2++t494) (x5_2++[wrap64 (x21_2+1)]) l0 (l0.length:Int) (wrap64 (x21_2+1))) else (none)) else (none))=some (r1,r2):=H
            have A13:=am A130
            clear A130
            by_cases c14:x4_2.length+t494.length < 4398046511104
            ·rw [if_pos c14] at H
             have LMc14:=am c14
             clear c14
             obtain ⟨y497,hy497⟩:∃ y_:List (S24),y_=(x4_2++t494):=⟨_,rfl⟩
             replace H:(if x5_2.length < 17592186044416 then (extent_Join.l0 kj7 l0 y497 (x5_2++[wrap64 (x21_2+1)]) l0 (l0.length:Int) (wrap64 (x21_2+1))) else (none))=some (r1,r2):=by first|(rw [hy497];with_reducible exact H)|(have H2_:=(Option.bind_some _ _).symm.trans H;rw [hy497];with_reducible exact H2_)|(have H2_:=(Option.bind_some _ _).symm.trans H;with_reducible exact H2_)|with_reducible exact H|(rw [hy497];exact H)|exact H
             have Ny497:=am hy497
             clear hy497
             by_cases c15:x5_2.length < 17592186044416
             ·rw [if_pos c15] at H
              have LMc15:=am c15
              clear c15
              obtain ⟨y500,hy500⟩:∃ y_:List Int,y_=(x5_2++[wrap64 (x21_2+1)]):=⟨_,rfl⟩
              replace H:(extent_Join.l0 kj7 l0 y497 y500 l0 (l0.length:Int) (wrap64 (x21_2+1)))=some (r1,r2):=by first|(rw [hy500];with_reducible exact H)|(have H2_:=(Option.bind_some _ _).symm.trans H;rw [hy500];with_reducible exact H2_)|(have H2_:=(Option.bind_some _ _).symm.trans H;with_reducible exact H2_)|with_reducible exact H|(rw [hy500];exact H)|exact H
              have Ny500:=am hy500
              clear hy500
              have H':=am H
              clear H
              go_wp2_with (first|((with_reducible refine gate_callee (f:=59) rfl ?_);refine goesL_ (some 37) rfl rfl Try.func59 (by kernel_rfl) rfl #[.slice A491_0 (rd_L5 l0 x21_2).length c491_0,.int .i64 0,.int .i64 2] rfl (by (try simp only [List.map_toArray,List.map_cons,List.map_nil]);first|done|rfl|(simp only [List.length_drop,List.length_take];rfl)) ?_;(with_reducible refine (extent_page_get.calls kj7 _ _ (rd_L5 l0 x21_2) 0 2 t493 _ ?side1 ?side2 A12.out).mono ?_);(case side1=>exact cc (Kd.C_below HR491_0.out HB.out));(case side2=>exact HC491_0.out);rintro e w' ⟨rfl,⟨nd,rfl⟩⟩;refine ⟨_,rfl,?_⟩)|((with_reducible refine gate_callee (f:=60) rfl ?_);refine goesL_ (some 38) rfl rfl Try.func60 (by kernel_rfl) rfl #[.slice A491_0 (rd_L5 l0 x21_2).length c491_0,.int .i64 t493] rfl (by (try simp only [List.map_toArray,List.map_cons,List.map_nil]);first|done|rfl|(simp only [List.length_drop,List.length_take];rfl)) ?_;(with_reducible refine (extent_page_extents.calls kj7 _ _ (rd_L5 l0 x21_2) t493 t494 _ ?side1 ?side2 A13.out).mono ?_);(case side1=>repeat (first|exact (Kd.C_below HR491_0.out (bb HB))|(with_reducible refine Kd.C_alloc ?_ _)|(with_reducible refine Kd.C_drewN ?_ _)|(with_reducible refine Kd.C_drew ?_)));(case side2=>exact HC491_0.out);rintro e w16 ⟨v495,rfl,ho0,hb⟩;refine ⟨_,rfl,?_⟩;have n0_:=am (Kd.R_elder' (rR HO_4) (Kd.R_base ho0) hb);have n1_:=am (Kd.R_below (rR HO_5) hb);have n2_:=am (Kd.R_lower (Kd.R_new' ho0 (Kd.R_lt (rR HO_4))) (bz HB));have n3_:=bst HB hb;clear HO_4;clear HO_5;clear HB;have HO_4:=n0_;have HO_5:=n1_;have HO496:=n2_;have HB:=n3_;clear n0_ n1_ n2_ n3_;(try clear hb);(try clear hb2);(try clear hk);(try clear hi);(try clear ho0);obtain ⟨Ao18,co18,eo18⟩:=Kd.R_slice HO496.out;subst eo18)|((with_reducible refine gate_builtin (b:=.append) (xs:=#[.tmp 34,.tmp 38]) rfl ?_);(try (refine gate_guard (by rfl) ?_;dsimp only));at_builtin;refine Kd.R_append_rows k24 (w0:=w) w.heap.size rfl (.tmp 34) (.tmp 38) 22 24 (.agg #[(.int .i64 0),(.int .i64 0),(.int .i64 0),(.bool false)]) 32 rfl Try.underlying22 info24 rfl (by decide) (by omega) u4 x4_2 t494 _ _ _ (fun k_=>some k_≠(.slice Ao18 t494.length co18:Value).ownBlock) (fun _=>False) rfl rfl ?aO ?aR (fun _ _ h=>h) (fun _ h=>h.elim) ?aF ?aB ?aS ?aL ?_;(case aR=>exact cc (Kd.R_reads' HO496.out).2.2);(case aB=>exact (bb HB));(case aF=>exact (fun k_ hk=>Kd.fresh' (Kd.R_lt (rR HO496)) k_ hk));(case aO=>exact (by (with_reducible repeat (first|apply Kd.R_alloc|apply Kd.R_drewN|apply Kd.R_drew));exact Kd.R_mono HO_4.out (fun _ hk=>hk.2)));(case aS=>exact (bz HB));(case aL=>have:=LMc14.out;omega);intro v498 w17 ho hb hg hat;rw [← Ny497.out] at ho;have n0_:=am (Kd.R_over' (rR HO_5) (Kd.R_typed (rR HO_4)) (by decide) hg);have n1_:=am (Kd.R_after (ok:=(fun _=>True)) (rR HO496) hg hat);have n2_:=am (hb);have n3_:=am (ho);clear HO_5;clear HO496;clear HB;clear HO_4;have HO_5:=n0_;have HO496:=n1_;have HB:=n2_;have HO499:=n3_;clear n0_ n1_ n2_ n3_;clear ho hb hg hat)|((with_reducible refine gate_builtin (b:=.append) (xs:=#[.tmp 40,.tmp 43]) rfl ?_);(try (refine gate_guard (by rfl) ?_;dsimp only));at_builtin;refine Kd.R_append (Kd.int .i64) (w0:=w) w.heap.size rfl (.tmp 40) (.tmp 43) 45 3 (.int .i64 0) 8 rfl Try.underlying45 info3 rfl (by decide) (by omega) u5 x5_2 (wrap64 (x21_2+1)) [.int .i64 (wrap64 (x21_2+1))] (fun _=>True) (fun _=>False) rfl rfl ?aP (fun _ hk=>hk.elim) ?aF ?aO ?aB ?aS ?aL ?_;(case aP=>exact rfl);(case aB=>exact (bb HB));(case aF=>exact (fun _ _=>trivial));(case aO=>exact (rR HO_5));(case aS=>exact (bz HB));(case aL=>have:=LMc15.out;omega);intro v501 w19 ho hb hg hat;rw [← Ny500.out] at ho;have n0_:=am (Kd.R_over' (rR HO496) (Kd.R_typed (rR HO_5)) (by decide) hg);have n1_:=am (Kd.R_over' (rR HO499) (Kd.R_typed (rR HO_5)) (by decide) hg);have n2_:=am (hb);have n3_:=am (ho);clear HO496;clear HO499;clear HB;clear HO_5;have HO496:=n0_;have HO499:=n1_;have HB:=n2_;have HO502:=n3_;clear n0_ n1_ n2_ n3_;clear ho hb hg hat))
              go_roundg kj7
              case measure=>have:=HJ1.out;have:=HK2.out;have:=HJ7.out;omega
              case rel=>exact ⟨(y497),(y500),(wrap64 (x21_2+1)),(by first|rfl|(simp;done)|(simp [*];done)),H',⟨by have:=HJ1.out;have:=HK2.out;have:=HJ7.out;omega⟩,⟨by (with_reducible repeat (first|apply Kd.R_alloc|apply Kd.R_drewN|apply Kd.R_drew));exact Kd.R_mono HO499.out (fun _ hk=>trivial)⟩,⟨by (with_reducible repeat (first|apply Kd.R_alloc|apply Kd.R_drewN|apply Kd.R_drew));exact HO502.out⟩,⟨bb HB⟩⟩
             ·rw [if_neg c15] at H
              exact absurd H (by simp)
            ·rw [if_neg c14] at H
             exact absurd H (by simp)
        ·rw [if_neg c7] at H
         exact absurd H (by simp)
       ·rw [if_neg c6] at H
        exact absurd H (by simp)
      ·rw [if_neg c5] at H
       have c5b0:decide (x21_2 < (l0.length:Int))=false:=decide_eq_false c5
       clear c5
       replace H:=Option.bind_eq_some_iff.mp H
       obtain ⟨⟨t503,t504,t505⟩,A200,H⟩:=H
       replace H:(if t505=0 then ((slices_EqualFunc_byte_byte_byte_byte.f k2 t504 l0).bind fun t510=>(if t510=true then (some (x4_2,0)) else (some (([]:List (S24)),13)))) else (some (([]:List (S24)),13)))=some (r1,r2):=H
       have A20:=am A200
       clear A200
       by_cases c21:t505=0
       ·rw [if_pos c21] at H
        have c21b0:(t505==0)=true:=beq_iff_eq.mpr c21
        have c21b1:(t505 != 0)=false:=bne_eq_false_iff_eq.mpr c21
        clear c21
        replace H:=Option.bind_eq_some_iff.mp H
        obtain ⟨t510,A220,H⟩:=H
        replace H:(if t510=true then (some (x4_2,0)) else (some (([]:List (S24)),13)))=some (r1,r2):=H
        have A22:=am A220
        clear A220
        by_cases c23:t510=true
        ·subst c23
         have H1:(some (x4_2,0))=some (r1,r2):=by rw [if_pos rfl] at H;exact H
         clear H;have H:=H1;clear H1
         simp only [Option.some.injEq,Prod.mk.injEq] at H
         obtain ⟨rfl,rfl⟩:=H
         obtain ⟨Ao24,co24,eo24⟩:=Kd.R_slice HO_4.out
         subst eo24
         obtain ⟨Ao25,co25,eo25⟩:=Kd.R_slice HO_5.out
         subst eo25
         go_wp2_with (first|((with_reducible refine gate_callee (f:=27) rfl ?_);refine goesL_ (some 49) rfl rfl Try.func27 (by kernel_rfl) rfl #[.slice Ao24 x4_2.length co24,.slice Ao25 x5_2.length co25] rfl (by (try simp only [List.map_toArray,List.map_cons,List.map_nil]);first|done|rfl|(simp only [List.length_drop,List.length_take];rfl)) ?_;(with_reducible refine (extent_Store.calls k2 _ _ x4_2 _ _ x5_2 t503 t504 t505 _ ?side1 ?side2 ?side3 ?side4 A20.out).mono ?_);(case side1=>exact cc (Kd.R_reads' HO_4.out).2.2);(case side2=>exact (Kd.R_reads' HO_4.out).2.1);(case side3=>exact cc (Kd.R_reads' HO_5.out).2.2);(case side4=>exact (Kd.R_reads' HO_5.out).2.1);rintro e w26 ⟨v506,v508,rfl,ho0,ho1,hb⟩;refine ⟨_,rfl,?_⟩;have n0_:=am (Kd.R_below (rR HO_4) hb);have n1_:=am (Kd.R_below (rR HO_5) hb);have n2_:=am (Kd.R_lower ho0 (bz HB));have n3_:=am (Kd.S_lower ho1 (bz HB));have n4_:=bst HB hb;clear HO_4;clear HO_5;clear HB;have HO_4:=n0_;have HO_5:=n1_;have HO507:=n2_;have HO509:=n3_;have HB:=n4_;clear n0_ n1_ n2_ n3_ n4_;(try clear hb);(try clear hb2);(try clear hk);(try clear hi);(try clear ho0);(try clear ho1);obtain ⟨Ao27,co27,eo27⟩:=Kd.S_slice HO509.out;subst eo27)|(go_at_call 62;(with_reducible refine (slices_EqualFunc_byte_byte_byte_byte.calls k2 _ _ t504 _ _ l0 true _ ?side1 ?side2 ?side3 ?side4 A22.out).mono ?_);(case side1=>exact cc (Kd.S_reads' HO509.out).2.2);(case side2=>exact (Kd.S_reads' HO509.out).2.1);(case side3=>exact cc (Kd.C_below HR0.out HB.out));(case side4=>exact HC0.out);rintro e w28 ⟨rfl,hb⟩;have n0_:=am (Kd.R_below (rR HO_4) hb);have n1_:=am (Kd.R_below (rR HO_5) hb);have n2_:=am (Kd.R_below (rR HO507) hb);have n3_:=am (Kd.S_below (rS HO509) hb);have n4_:=bst HB hb;clear HO_4;clear HO_5;clear HO507;clear HO509;clear HB;have HO_4:=n0_;have HO_5:=n1_;have HO507:=n2_;have HO509:=n3_;have HB:=n4_;clear n0_ n1_ n2_ n3_ n4_;(try clear hb);(try clear hb2);(try clear hk);(try clear hi)))
         go_ret2
         exact ⟨_,by first|rfl|(simp [errW_none,errW_some]<;>rfl)|(simp [*,errW_none,errW_some]<;>rfl),by (with_reducible repeat (first|apply Kd.R_alloc|apply Kd.R_drewN|apply Kd.R_drew));exact HO_4.out,bb HB⟩
        ·replace c23:=Bool.eq_false_iff.mpr c23
         subst c23
         have H1:(some (([]:List (S24)),13))=some (r1,r2):=by rw [if_neg (show ¬ (false=true) by decide)] at H;exact H
         clear H;have H:=H1;clear H1
         simp only [Option.some.injEq,Prod.mk.injEq] at H
         obtain ⟨rfl,rfl⟩:=H
         obtain ⟨Ao29,co29,eo29⟩:=Kd.R_slice HO_4.out
         subst eo29
         obtain ⟨Ao30,co30,eo30⟩:=Kd.R_slice HO_5.out
         subst eo30
         go_wp2_with (first|((with_reducible refine gate_callee (f:=27) rfl ?_);refine goesL_ (some 49) rfl rfl Try.func27 (by kernel_rfl) rfl #[.slice Ao29 x4_2.length co29,.slice Ao30 x5_2.length co30] rfl (by (try simp only [List.map_toArray,List.map_cons,List.map_nil]);first|done|rfl|(simp only [List.length_drop,List.length_take];rfl)) ?_;(with_reducible refine (extent_Store.calls k2 _ _ x4_2 _ _ x5_2 t503 t504 t505 _ ?side1 ?side2 ?side3 ?side4 A20.out).mono ?_);(case side1=>exact cc (Kd.R_reads' HO_4.out).2.2);(case side2=>exact (Kd.R_reads' HO_4.out).2.1);(case side3=>exact cc (Kd.R_reads' HO_5.out).2.2);(case side4=>exact (Kd.R_reads' HO_5.out).2.1);rintro e w31 ⟨v506,v508,rfl,ho0,ho1,hb⟩;refine ⟨_,rfl,?_⟩;have n0_:=am (Kd.R_below (rR HO_4) hb);have n1_:=am (Kd.R_below (rR HO_5) hb);have n2_:=am (Kd.R_lower ho0 (bz HB));have n3_:=am (Kd.S_lower ho1 (bz HB));have n4_:=bst HB hb;clear HO_4;clear HO_5;clear HB;have HO_4:=n0_;have HO_5:=n1_;have HO507:=n2_;have HO509:=n3_;have HB:=n4_;clear n0_ n1_ n2_ n3_ n4_;(try clear hb);(try clear hb2);(try clear hk);(try clear hi);(try clear ho0);(try clear ho1);obtain ⟨Ao32,co32,eo32⟩:=Kd.S_slice HO509.out;subst eo32)|(go_at_call 62;(with_reducible refine (slices_EqualFunc_byte_byte_byte_byte.calls k2 _ _ t504 _ _ l0 false _ ?side1 ?side2 ?side3 ?side4 A22.out).mono ?_);(case side1=>exact cc (Kd.S_reads' HO509.out).2.2);(case side2=>exact (Kd.S_reads' HO509.out).2.1);(case side3=>exact cc (Kd.C_below HR0.out HB.out));(case side4=>exact HC0.out);rintro e w33 ⟨rfl,hb⟩;have n0_:=am (Kd.R_below (rR HO_4) hb);have n1_:=am (Kd.R_below (rR HO_5) hb);have n2_:=am (Kd.R_below (rR HO507) hb);have n3_:=am (Kd.S_below (rS HO509) hb);have n4_:=bst HB hb;clear HO_4;clear HO_5;clear HO507;clear HO509;clear HB;have HO_4:=n0_;have HO_5:=n1_;have HO507:=n2_;have HO509:=n3_;have HB:=n4_;clear n0_ n1_ n2_ n3_ n4_;(try clear hb);(try clear hb2);(try clear hk);(try clear hi)))
         go_ret2
         exact ⟨_,by first|rfl|(simp [errW_none,errW_some]<;>rfl)|(simp [*,errW_none,errW_some]<;>rfl),by first|exact Kd.R_nil _ _ _ _ _|exact Kd.N_nil _ _ _ _ _|exact Kd.V_nil _ _ _ _ _|exact Kd.Q_nil _ _ _ _ _|exact Kd.S_nil _ _ _ _ _,bb HB⟩
       ·rw [if_neg c21] at H
        have c21b0:(t505==0)=false:=beq_eq_false_iff_ne.mpr c21
        have c21b1:(t505 != 0)=true:=bne_iff_ne.mpr c21
        simp only [Option.some.injEq,Prod.mk.injEq] at H
        obtain ⟨rfl,rfl⟩:=H
        obtain ⟨Ao34,co34,eo34⟩:=Kd.R_slice HO_4.out
        subst eo34
        obtain ⟨Ao35,co35,eo35⟩:=Kd.R_slice HO_5.out
        subst eo35
        go_wp2_with (first|((with_reducible refine gate_callee (f:=27) rfl ?_);refine goesL_ (some 49) rfl rfl Try.func27 (by kernel_rfl) rfl #[.slice Ao34 x4_2.length co34,.slice Ao35 x5_2.length co35] rfl (by (try simp only [List.map_toArray,List.map_cons,List.map_nil]);first|done|rfl|(simp only [List.length_drop,List.length_take];rfl)) ?_;(with_reducible refine (extent_Store.calls k2 _ _ x4_2 _ _ x5_2 t503 t504 t505 _ ?side1 ?side2 ?side3 ?side4 A20.out).mono ?_);(case side1=>exact cc (Kd.R_reads' HO_4.out).2.2);(case side2=>exact (Kd.R_reads' HO_4.out).2.1);(case side3=>exact cc (Kd.R_reads' HO_5.out).2.2);(case side4=>exact (Kd.R_reads' HO_5.out).2.1);rintro e w36 ⟨v506,v508,rfl,ho0,ho1,hb⟩;refine ⟨_,rfl,?_⟩;have n0_:=am (Kd.R_below (rR HO_4) hb);have n1_:=am (Kd.R_below (rR HO_5) hb);have n2_:=am (Kd.R_lower ho0 (bz HB));have n3_:=am (Kd.S_lower ho1 (bz HB));have n4_:=bst HB hb;clear HO_4;clear HO_5;clear HB;have HO_4:=n0_;have HO_5:=n1_;have HO507:=n2_;have HO509:=n3_;have HB:=n4_;clear n0_ n1_ n2_ n3_ n4_;(try clear hb);(try clear hb2);(try clear hk);(try clear hi);(try clear ho0);(try clear ho1)))
        go_ret2
        exact ⟨_,by first|rfl|(simp [errW_none,errW_some]<;>rfl)|(simp [*,errW_none,errW_some]<;>rfl),by first|exact Kd.R_nil _ _ _ _ _|exact Kd.N_nil _ _ _ _ _|exact Kd.V_nil _ _ _ _ _|exact Kd.Q_nil _ _ _ _ _|exact Kd.S_nil _ _ _ _ _,bb HB⟩
end Go.Proofs.Ytopmjjnkolfciaa.Pr
end
section
namespace Go.Proofs.Ytopmjjnkolfciaa.Pr
open Go.RowKit Go.Proofs.YtopmjjnkolfciaaW.PrintWords Go.Proofs.YtopmjjnkolfciaaW.PrintMore Go.Proofs.Ytopmjjnkolfciaa.Od
open Go.Proofs.Ytopmjjnkolfciaa.Cr hiding Ev.succ
set_option linter.unusedVariables false
set_option linter.unusedSimpArgs false
set_option maxRecDepth 20000
theorem u64_of (v : Nat) (h : v < 18446744073709551616) : IntKind.u64.wrap (v : Int) = (v : Int) := by rw [u64w]; omega
theorem pput_ev (pref : List Int) (m at_ n v : Nat) (a1 a2 a3 : Int) (h1 : a1 = (at_ : Int)) (h2 : a2 = (n : Int)) (h3 : a3 = (v : Int)) (hat : pref.length = at_) (hn0 : 0 < n) (hn8 : n ≤ 8) (hm : n ≤ m) (hv : v < 18446744073709551616) :
    Ev (fun k => extent_page_put.f k (pref ++ List.replicate m 0) a1 a2 a3) (pref ++ bytesN n v ++ List.replicate (m - n) 0) := by
  subst h1 h2 h3
  unfold extent_page_put.f
  have hc : ((0 ≤ (at_ : Int) ∧ 0 < (n : Int)) ∧ (n : Int) ≤ 8) ∧ (at_ : Int) + (n : Int) ≤ ((pref ++ List.replicate m (0 : Int)).length : Int) := by
    rw [List.length_append, List.length_replicate]; omega
  simp only [if_pos hc, u64_of v hv, Int.toNat_natCast]
  refine Ev.bind (crc_bytes_ev v n hn8) ?_
  rw [← hat, List.take_left, ← List.drop_drop, List.drop_left, List.drop_replicate]
  exact Ev.now _
theorem wp0 (i : Nat) (h : i ≤ 60) : wrap64 (4 + wrap64 (12 * (i : Int))) = ((4 + 12 * i : Nat) : Int) := by
  rw [w64 (n := 12 * (i : Int)) (by omega) (by omega), w64 (by omega) (by omega)]; omega
theorem wpk (i k : Nat) (h : i ≤ 60) (hk : k ≤ 60) : wrap64 (((4 + 12 * i : Nat) : Int) + (k : Int)) = ((4 + 12 * i + k : Nat) : Int) := by
  rw [w64 (by omega) (by omega)]; omega
theorem wpk4 (i : Nat) (h : i ≤ 60) : wrap64 (((4 + 12 * i : Nat) : Int) + 4) = ((4 + 12 * i + 4 : Nat) : Int) := wpk i 4 h (by decide)
theorem wpk8 (i : Nat) (h : i ≤ 60) : wrap64 (((4 + 12 * i : Nat) : Int) + 8) = ((4 + 12 * i + 8 : Nat) : Int) := wpk i 8 h (by decide)
theorem wpk10 (i : Nat) (h : i ≤ 60) : wrap64 (((4 + 12 * i : Nat) : Int) + 10) = ((4 + 12 * i + 10 : Nat) : Int) := wpk i 10 h (by decide)
theorem wp4 (i : Nat) (h : i ≤ 60) : wrap64 (4 + wrap64 (4 * (i : Int))) = ((4 + 4 * i : Nat) : Int) := by
  rw [w64 (n := 4 * (i : Int)) (by omega) (by omega), w64 (by omega) (by omega)]; omega
theorem wps (i : Nat) (h : i ≤ 60) : wrap64 ((i : Int) + 1) = ((i + 1 : Nat) : Int) := by
  rw [w64 (by omega) (by omega)]; omega
theorem rdT_get {l : List E24} {i : Nat} (h : i < l.length) : rd_T24 l (i : Int) = l[i] := by
  unfold rd_T24; rw [Int.toNat_natCast, List.getD_eq_getElem?_getD, List.getElem?_eq_getElem h]; rfl
theorem encL_snoc (l : List E24) (i : Nat) (h : i < l.length) : encL (l.take (i + 1)) = encL (l.take i) ++ encE l[i] := by
  rw [List.take_succ_eq_append_getElem h, encL_append]
  congr 1
  show encL [l[i]] = _
  rw [encL_cons]; exact List.append_nil _
theorem plist_l0 (N : Nat) (l : List E24) (hl : ∀ e ∈ l, mayE e = true) (hN : 4 + 12 * l.length ≤ N) (hN2 : N ≤ 256) : ∀ (d i : Nat), i + d = l.length →
    Ev (fun k => extent_page_list.l0 k (hdr l.length 0 ++ encL (l.take i) ++ List.replicate (N - (4 + 12 * i)) 0) l (l.length : Int) (i : Int)) (padN (hdr l.length 0 ++ encL l) N)
  | 0, i, hd => by
    refine Ev.succ ?_
    simp only [extent_page_list.l0, if_neg (show ¬ ((i : Int) < (l.length : Int)) by omega)]
    obtain rfl : i = l.length := by omega
    rw [List.take_length]
    unfold padN
    rw [List.length_append, hdr_len, encL_len]
    exact Ev.now _
  | d + 1, i, hd => by
    have hi : i < l.length := by omega
    have hm := mayE_facts (hl l[i] (List.getElem_mem hi))
    have hpl : (hdr l.length 0 ++ encL (l.take i)).length = 4 + 12 * i := by rw [List.length_append, hdr_len, encL_len, List.length_take]; omega
    refine Ev.succ ?_
    simp only [extent_page_list.l0, if_pos (show (i : Int) < (l.length : Int) by omega), if_pos (show (0 : Int) ≤ (i : Int) by omega), wp0 i (by omega), wpk4 i (by omega), wpk8 i (by omega), wpk10 i (by omega), wps i (by omega), rdT_get hi]
    obtain ⟨P, hP⟩ : ∃ P, hdr l.length 0 ++ encL (l.take i) = P := ⟨_, rfl⟩
    have hnext : ∀ f : Bool, l[i].f3 = f → hdr l.length 0 ++ encL (l.take (i + 1)) = P ++ bytesN 4 l[i].f0.toNat ++ bytesN 4 l[i].f1.toNat ++ bytesN 2 l[i].f2.toNat ++ flagB f := by
      intro f hf
      rw [encL_snoc l i hi, ← List.append_assoc, hP, encE, hf]
      simp only [List.append_assoc]
    rw [hP] at hpl ⊢
    have l1 : (P ++ bytesN 4 l[i].f0.toNat).length = 4 + 12 * i + 4 := by rw [List.length_append, hpl, bytesN_len]
    have l2 : (P ++ bytesN 4 l[i].f0.toNat ++ bytesN 4 l[i].f1.toNat).length = 4 + 12 * i + 8 := by rw [List.length_append, l1, bytesN_len]
    have l3 : (P ++ bytesN 4 l[i].f0.toNat ++ bytesN 4 l[i].f1.toNat ++ bytesN 2 l[i].f2.toNat).length = 4 + 12 * i + 10 := by rw [List.length_append, l2, bytesN_len]
    refine Ev.bind (pput_ev P _ (4 + 12 * i) 4 l[i].f0.toNat _ _ _ rfl rfl (by omega) hpl (by decide) (by decide) (by omega) (by omega)) ?_
    refine Ev.bind (pput_ev _ _ (4 + 12 * i + 4) 4 l[i].f1.toNat _ _ _ rfl rfl (by omega) l1 (by decide) (by decide) (by omega) (by omega)) ?_
    refine Ev.bind (pput_ev _ _ (4 + 12 * i + 8) 2 l[i].f2.toNat _ _ _ rfl rfl (by omega) l2 (by decide) (by decide) (by omega) (by omega)) ?_
    have ih := plist_l0 N l hl hN hN2 d (i + 1) (by omega)
    cases hf : l[i].f3 with
    | true =>
      simp only [if_true]
      refine Ev.bind (pput_ev _ _ (4 + 12 * i + 10) 2 1 _ _ _ rfl rfl rfl l3 (by decide) (by decide) (by omega) (by decide)) ?_
      rw [hnext true hf, show N - (4 + 12 * (i + 1)) = N - (4 + 12 * i) - 4 - 4 - 2 - 2 by omega] at ih
      exact ih
    | false =>
      simp only [if_neg (show ¬ (false = true) by decide)]
      rw [hnext false hf] at ih
      have hr : List.replicate (N - (4 + 12 * i) - 4 - 4 - 2) (0 : Int) = flagB false ++ List.replicate (N - (4 + 12 * (i + 1))) 0 := by
        rw [show N - (4 + 12 * i) - 4 - 4 - 2 = (N - (4 + 12 * (i + 1))) + 1 + 1 by omega, List.replicate_succ, List.replicate_succ]; rfl
      rw [hr, ← List.append_assoc]
      exact ih
theorem plist_ev (N : Nat) (l : List E24) (hl : ∀ e ∈ l, mayE e = true) (hN : 4 + 12 * l.length ≤ N) (hN2 : N ≤ 256) : Ev (fun k => extent_page_list.f k (List.replicate N 0) l) (padN (hdr l.length 0 ++ encL l) N) := by
  unfold extent_page_list.f
  have h := pput_ev [] N 0 2 l.length 0 2 (l.length : Int) rfl rfl rfl rfl (by decide) (by decide) (by omega) (by omega)
  refine Ev.bind h ?_
  have ih := plist_l0 N l hl hN hN2 l.length 0 (by omega)
  have e : hdr l.length 0 ++ encL (l.take 0) ++ List.replicate (N - (4 + 12 * 0)) (0 : Int) = [] ++ bytesN 2 l.length ++ List.replicate (N - 2) 0 := by
    rw [show N - 2 = (N - (4 + 12 * 0)) + 1 + 1 by omega, List.replicate_succ, List.replicate_succ, List.take_zero]
    have h0 : l.length / 256 % 256 = 0 := by omega
    simp [hdr, bytesN, encL, h0]
  rw [e] at ih
  exact ih
end Go.Proofs.Ytopmjjnkolfciaa.Pr
end
