/- MSame: this session's texts for the one law, put together (part 4 of 4): what its program computes, function by function, and that this answers true; the row stands at the end of the last part. Conditions: those that each theorem names; the last theorem has none. -/
import Derived.Maps.AppendAt
import Derived.Shelf.RegionOpen
import Derived.OwnWalkIn
import Derived.TacticsInMore
import Derived.LoopNIn
import Derived.LoopIn
import Derived.Outline
import Derived.Maps.OwnIn
import Derived.Shelf.SlSortCmp.NoneTotal
import Derived.Test.YteglhbfhibfodaaRows
import Derived.WalkKit
import Derived.ProofKit
import Derived.OpenShut
import Derived.ShutString
import Derived.ChangeOld
import Derived.Below
import Derived.SizedLaws
import Derived.Carry
import Derived.Lib.SmallJoins
import Derived.Test.YteglhbfhibfodaaMSameC
section
namespace Go.Proofs.Yteglhbfhibfodaa.Pr
open Go.RowKit Go.Proofs.YteglhbfhibfodaaW.PrintWords Go.Proofs.YteglhbfhibfodaaW.PrintLast Go.Proofs.YteglhbfhibfodaaW.PrintMore
attribute [local go_sem] max2_int min2_int max_two min_two max_three min_three max_four min_four
attribute [local go_sem] Go.Proofs.Yteglhbfhibfodaa.Hl.str_geq Go.Proofs.Yteglhbfhibfodaa.Hl.str_gtr Go.Proofs.Yteglhbfhibfodaa.Hl.str_leq
set_option linter.unusedVariables false
set_option linter.unusedSimpArgs false
theorem insR_row (W:World) (vb:Nat) (p:S76) (hV:W.heap[vb]? = some (.cells #[.int .u32 p.f0,.int .i64 p.f1] 76 (0,0))):Kd.C k76 W (some ⟨vb,0,none⟩) 1 [p]:=by
 refine ⟨rfl,by simp,fun _=>⟨_,rfl,fun j q hj=>?_⟩⟩
 cases j with
 | zero =>
  simp only [List.getElem?_cons_zero,Option.some.injEq] at hj
  subst hj
  refine ⟨[.int .u32 p.f0,.int .i64 p.f1],rfl,k76_mk _ p,fun i u hu=>?_⟩
  rw [add_plain]
  have e:0*k76.sz+i=i:=by rw [show k76.sz=2 from rfl];omega
  rw [e,blk_cell hV i]
  simpa using hu
 | succ j=>simp at hj
def flatR2 (xs:List S76) (i:Nat):List Value:=(RwR.flat xs).drop (i*2)
set_option maxHeartbeats 8000000 in
set_option maxRecDepth 100000 in
theorem insR_calls (W:World) (base:Nat) (v:Value) (xs:List S76) (p:S76) (vb i n:Nat) (hn:xs.length=n) (hO:Kd.R k76 76 W base (fun _=>True) v xs) (hV:W.heap[vb]? = some (.cells #[.int .u32 p.f0,.int .i64 p.f1] 76 (0,0)))
  (hne:∀ g,v.ownBlock=some g→g≠vb) (hbase:base≤W.heap.size) (hi:i≤n) (hl:n < 4398046511103) :
  Calls Try.prog 56 #[v,.int .i64 i,.slice (some ⟨vb,0,none⟩) 1 1] W fun e w'=>∃ v',e=.returned v'∧Kd.R k76 76 w' base (fun _=>True) v' (xs.take i++p::xs.drop i)∧Below base W w':=by
 have hw:∀ z:Int,0≤z→z < 9223372036854775807→wrap64 z=z:=fun z _ _=>by unfold wrap64;omega
 have hu26:=Try.underlying76
 have hi26:=info76
 obtain ⟨A,c,rfl⟩:=Kd.R_slice hO
 rw [hn] at hO
 by_cases hin:i=n
 ·subst hin
  have HO:=am hO
  have HL:=am hl
  have HN:=am hn
  have hCV:=am (insR_row W vb p hV)
  have h0:(0:Int)≤(i:Int):=by omega
  have h1:(i:Int)≤(i:Int):=by omega
  rw [hn]
  clear hO hl hn hV hne hw
  cases A with
  | none =>
   obtain ⟨rfl,rfl⟩:i=0∧c=0:=by
    rcases (RwR.R_flat HO.out).2 with ⟨h,_⟩|⟨g',c',cur',h,_⟩
    ·injection h with h1 h2 h3
     exact ⟨h2,h3⟩
    ·cases h
   go_enter Try.func56,Try.ntmps56
   go_wp2_with ((with_reducible refine gate_builtin (b:=.append) (xs:=#[.tmp 23,.tmp 24]) rfl ?_);at_builtin;refine Kd.R_append_rows k76 (w0:=W) base rfl (.tmp 23) (.tmp 24) 56 76 (.agg #[(.int .u32 0),(.int .i64 0)]) 16 rfl Try.underlying56 info76 rfl (by decide) (by omega) _ xs [p] _ _ _ (fun _=>True) (fun _=>False) rfl rfl HO.out hCV.out (fun _ _ h=>h) (fun _ h=>h.elim) (fun _ _=>trivial) (Below.refl _ _) hbase (by have:=HL.out;have:=HN.out;omega) ?_;intro v2 w2 ho2 hb2 hg2 hat2;have HO2:=am ho2;have HB2:=am hb2;clear ho2 hb2 hg2 hat2)
   go_ret
   have e1:∀ j,xs.length=j→xs.take j++p::xs.drop j=xs++[p]:=fun j h=>by rw [List.take_of_length_le (by omega),List.drop_of_length_le (by omega)]
   rw [e1 _ HN.out]
   exact ⟨_,rfl,HO2.out,HB2.out⟩
  | some ad =>
   by_cases hci:c=i
   ·subst hci
    go_enter Try.func56,Try.ntmps56
    go_wp2_with ((with_reducible refine gate_builtin (b:=.append) (xs:=#[.tmp 23,.tmp 24]) rfl ?_);at_builtin;refine Kd.R_append_rows k76 (w0:=W) base rfl (.tmp 23) (.tmp 24) 56 76 (.agg #[(.int .u32 0),(.int .i64 0)]) 16 rfl Try.underlying56 info76 rfl (by decide) (by omega) _ xs [p] _ _ _ (fun _=>True) (fun _=>False) rfl rfl HO.out hCV.out (fun _ _ h=>h) (fun _ h=>h.elim) (fun _ _=>trivial) (Below.refl _ _) hbase (by have:=HL.out;have:=HN.out;omega) ?_;intro v2 w2 ho2 hb2 hg2 hat2;have HO2:=am ho2;have HB2:=am hb2;clear ho2 hb2 hg2 hat2)
    go_ret
    have e1:∀ j,xs.length=j→xs.take j++p::xs.drop j=xs++[p]:=fun j h=>by rw [List.take_of_length_le (by omega),List.drop_of_length_le (by omega)]
    rw [e1 _ HN.out]
    exact ⟨_,rfl,HO2.out,HB2.out⟩
   ·skip
    go_enter Try.func56,Try.ntmps56
    go_wp2_with ((with_reducible refine gate_builtin (b:=.append) (xs:=#[.tmp 23,.tmp 24]) rfl ?_);at_builtin;refine Kd.R_append_rows k76 (w0:=W) base rfl (.tmp 23) (.tmp 24) 56 76 (.agg #[(.int .u32 0),(.int .i64 0)]) 16 rfl Try.underlying56 info76 rfl (by decide) (by omega) _ xs [p] _ _ _ (fun _=>True) (fun _=>False) rfl rfl HO.out hCV.out (fun _ _ h=>h) (fun _ h=>h.elim) (fun _ _=>trivial) (Below.refl _ _) hbase (by have:=HL.out;have:=HN.out;omega) ?_;intro v2 w2 ho2 hb2 hg2 hat2;have HO2:=am ho2;have HB2:=am hb2;clear ho2 hb2 hg2 hat2)
    go_ret
    have e1:∀ j,xs.length=j→xs.take j++p::xs.drop j=xs++[p]:=fun j h=>by rw [List.take_of_length_le (by omega),List.drop_of_length_le (by omega)]
    rw [e1 _ HN.out]
    exact ⟨_,rfl,HO2.out,HB2.out⟩
 ·have hlt:i < n:=by omega
  have hp0:0 < xs.length:=by omega
  have h0:(0:Int)≤(i:Int):=by omega
  have h1:(i:Int)≤(n:Int):=by omega
  have hne1:((i:Int)==(n:Int))=false:=beq_eq_false_iff_ne.2 (by omega)
  have hn63:(n:Int)+1 < 9223372036854775807:=by omega
  have hi63:(i:Int)+1 < 9223372036854775807:=by omega
  have HW1:=am (hw ((n:Int)+1) (by omega) hn63)
  have HW3:=am (hw ((i:Int)+1) (by omega) hi63)
  have hXl:(flatR2 xs i).length=(n - i)*2:=by unfold flatR2;rw [List.length_drop,RwR.flat_len,hn];omega
  have hflen:(xs.take i++p::xs.drop i).length=n+1:=by rw [List.length_append,List.length_cons,List.length_take,List.length_drop,hn];omega
  have HW4:=am ((hw ((n:Int)+1 - (i:Int)) (by omega) (by omega)).trans (by omega:(n:Int)+1 - (i:Int)=((n+1 - i:Nat):Int)))
  clear hw hn63 hi63
  obtain ⟨g,c',cur,hv,hbg,hg,hnc,hcm,hcs,htk⟩:=RwR.own_open (RwR.R_flat hO) hp0
  have HCM:=am hcm
  clear hcm
  injection hv with hv1 hv2 hv3
  subst hv1
  subst hv3
  clear hv2
  rw [hn] at hnc htk ⊢
  have hgv:g≠vb:=hne g rfl
  have hglt:g < W.heap.size:=blk_lt hg
  have hvlt:vb < W.heap.size:=blk_lt hV
  have hcl:cur.toList.length=c*2:=by rw [Array.length_toList,hcs]
  have hci:¬ (c=i):=fun e=>absurd hlt (by rw [← e];exact Nat.not_lt.2 hnc)
  have hcells:∀ j u,(flatR2 xs i)[j]? = some u→W.cell? ⟨g,i*2+j,none⟩=some u:=by
   intro j u hj
   rw [blk_cell hg,← Array.getElem?_toList]
   unfold flatR2 at hj
   rw [List.getElem?_drop,← htk,List.getElem?_take] at hj
   split at hj
   ·exact hj
   ·cases hj
  have hadd:∀ b o j:Nat,(⟨b,o,none⟩:Addr).add j=⟨b,o+j,none⟩:=fun b o j=>by unfold Addr.add;split<;>simp_all
  have hfl1:∀ v∈flatR2 xs i,v.oneCell'=true:=fun v hv=>RwR.flat_one xs v (List.mem_of_mem_drop hv)
  have hpl1:∀ v∈RwR.cells2 p,v.oneCell'=true:=by intro v hv;simp only [RwR.cells2,List.mem_cons,List.not_mem_nil,or_false] at hv;rcases hv with rfl|rfl<;>rfl
  have hfin:RwR.flat (xs.take i++p::xs.drop i)=(RwR.flat xs).take (i*2)++RwR.cells2 p++flatR2 xs i:=by
   rw [RwR.flat_append,RwR.flat_cons,RwR.flat_take,RwR.flat_drop,← List.append_assoc];rfl
  by_cases hcap:(n:Int)+1 > (c:Int)
  ·
   obtain ⟨i0,hi0,hz3⟩:=Option.map_eq_some_iff.1 info76
   simp only [Prod.mk.injEq] at hz3
   obtain ⟨kk,hkk⟩:∃ kk,kk=n+1 - i:=⟨_,rfl⟩
   have hol:((RwR.flat xs).take (i*2)).length=i*2:=by rw [List.length_take,RwR.flat_len,hn];omega
   have hocell:∀ j u,((RwR.flat xs).take (i*2))[j]? = some u→W.cell? ⟨g,0+j,none⟩=some u:=by
    intro j u hj
    rw [Nat.zero_add,blk_cell hg,← Array.getElem?_toList]
    rw [List.getElem?_take] at hj
    split at hj
    ·rw [← htk,List.getElem?_take] at hj
     split at hj
     ·exact hj
     ·cases hj
    ·cases hj
   have hap:=Lib.run_append_grow_zeros (P:=Try.prog) W 56 3 56 76 i0 (.agg #[(.int .u32 0),(.int .i64 0)]) .i64 .i64 Try.underlying56 Try.underlying3 hi0 hz3.1 (some ⟨g,0,none⟩) i c ((RwR.flat xs).take (i*2)) (by
     have h:=run_loadCells_list (P:=Try.prog) W.drew ⟨g,0,none⟩ ((RwR.flat xs).take (i*2)) (fun j u hj=>by rw [hadd];exact hocell j u hj)
     rw [hol] at h
     rw [hz3.2.1]
     exact h) kk (by omega) (by rw [hz3.2.1];decide) (by omega) (by omega) (by rw [hz3.2.2];omega) (by rw [hz3.2.2];exact growslice_fits_wide (by omega) (by omega))
   have hsum:i+kk=n+1:=by omega
   rw [hsum] at hap
   obtain ⟨C2,hC2⟩:∃ C2,C2=grownCap W (n+1) c 76:=⟨_,rfl⟩
   have hC2n:n+1≤C2:=by rw [hC2];exact grownCap_ge _ _ _ _
   have hC2m:C2≤maxLen:=by rw [hC2];exact grownCap_le_maxLen _ _ _ _ (by unfold maxLen;omega)
   rw [← hC2] at hap
   obtain ⟨N0,hN0⟩:∃ N0:Array Value,N0=((RwR.flat xs).take (i*2)).toArray++Builtin.zeroCells (Value.agg #[(.int .u32 0),(.int .i64 0)]).cells kk++Builtin.zeroCells (Value.agg #[(.int .u32 0),(.int .i64 0)]).cells (C2 - (n+1)):=⟨_,rfl⟩
   rw [← hN0] at hap
   have hN0s:N0.size=C2*2:=by rw [hN0,Array.size_append,Array.size_append,List.size_toArray,hol,RwR.zero_len,RwR.zero_len];omega
   have hN0l:N0.toList.length=C2*2:=by rw [Array.length_toList,hN0s]
   have hN0t:N0.toList.take (i*2)=(RwR.flat xs).take (i*2):=by
    rw [hN0,Array.toList_append,Array.toList_append,List.toList_toArray,List.append_assoc,List.take_append_of_le_length (by rw [hol];exact Nat.le_refl _),List.take_of_length_le (by rw [hol];exact Nat.le_refl _)]
   have hb0:(W.alloc (.cells N0 76)).drew.heap[W.heap.size]? = some (.cells N0 76 (0,0)):=blk_drew (blk_new W _)
   have hl2:(RwR.cells2 p).length=2:=rfl
   obtain ⟨N1,hN1⟩:∃ N1:Array Value,N1=(N0.toList.take (i*2)++RwR.cells2 p++N0.toList.drop (i*2+(RwR.cells2 p).length)).toArray:=⟨_,rfl⟩
   have hN1s:N1.size=C2*2:=by rw [hN1];simp only [List.size_toArray,List.length_append,List.length_take,List.length_drop,hN0l,hl2];omega
   have hN1l:N1.toList.length=C2*2:=by rw [Array.length_toList,hN1s]
   have hr1:=RwR.run_copy_cells (P:=Try.prog) (W.alloc (.cells N0 76)).drew 56 56 3 76 W.heap.size (i*2) (n+1 - i) (C2 - i) ⟨vb,0,none⟩ 1 1 N0 76 (RwR.cells2 p) 1 2 Try.underlying56 (by kernel_rfl) hb0 (by show 1=min _ _;omega) rfl (fun j u hj=>by
     rw [hadd,Nat.zero_add,blk_cell (blk_drew (blk_alloc hV _))]
     simpa [RwR.cells2] using hj) (by rw [hN0s,hl2];omega) hpl1
   rw [← hN1] at hr1
   obtain ⟨N2,hN2⟩:∃ N2:Array Value,N2=(N1.toList.take ((i+1)*2)++flatR2 xs i++N1.toList.drop ((i+1)*2+(flatR2 xs i).length)).toArray:=⟨_,rfl⟩
   have hN2s:N2.size=C2*2:=by rw [hN2];simp only [List.size_toArray,List.length_append,List.length_take,List.length_drop,hN1l,hXl];omega
   have hgne:g≠W.heap.size:=by omega
   have hb1:((W.alloc (.cells N0 76)).drew.setRow W.heap.size N1).heap[W.heap.size]? = some (.cells N1 76 (0,0)):=setRow_heap _ _ N0 _ 76 (0,0) hb0
   have hg1:((W.alloc (.cells N0 76)).drew.setRow W.heap.size N1).heap[g]? = some (.cells cur 76 (0,0)):=by
    rw [setRow_other _ _ _ _ hgne];exact blk_drew (blk_alloc hg _)
   have hr2:=RwR.run_copy_cells (P:=Try.prog) ((W.alloc (.cells N0 76)).drew.setRow W.heap.size N1).drew 56 56 3 76 W.heap.size ((i+1)*2) (n - i) (C2 - (i+1)) ⟨g,i*2,none⟩ (n - i) (c - i) N1 76 (flatR2 xs i) (n - i) 2 Try.underlying56 (by kernel_rfl) (blk_drew hb1) (by show n - i=min _ _;omega) hXl (fun j u hj=>by
     rw [hadd,blk_cell (blk_drew hg1),← blk_cell hg]
     exact hcells j u hj) (by rw [hN1s,hXl];omega) hfl1
   rw [← hN2] at hr2
   have e1:N1.toList.take ((i+1)*2)=(RwR.flat xs).take (i*2)++RwR.cells2 p:=by
    have hl3:((RwR.flat xs).take (i*2)++RwR.cells2 p).length=(i+1)*2:=by rw [List.length_append,hol,hl2];omega
    rw [hN1,List.toList_toArray,hN0t,← hl3,List.take_left]
   have hNew:N2.toList.take ((n+1)*2)=RwR.flat (xs.take i++p::xs.drop i):=by
    have hln:((RwR.flat xs).take (i*2)++RwR.cells2 p++flatR2 xs i).length=(n+1)*2:=by
     rw [List.length_append,List.length_append,hol,hXl,hl2];omega
    rw [hN2,List.toList_toArray,e1,hfin,← hln,List.take_left]
   have HFR:=am (RwR.flat_R (w:=((W.alloc (.cells N0 76)).drew.setRow W.heap.size N1).drew.setRow W.heap.size N2) (base:=base) (ok:=fun _=>True) (v:=.slice (some ⟨W.heap.size,0,none⟩) (n+1) C2) (xs:=xs.take i++p::xs.drop i) ⟨RwR.flat_len _,.inr ⟨W.heap.size,C2,N2,by rw [hflen],hbase,setRow_heap _ _ N1 _ 76 (0,0) (blk_drew hb1),by rw [hflen];exact hC2n,hC2m,hN2s,by rw [hflen];exact hNew⟩⟩ (fun _ _=>trivial))
   have HBE:=am (RwR.below_turn (below_drew1 (RwR.below_turn (below_drew1 ((Below.refl base W).alloc hbase (.cells N0 76))) hbase N1)) hbase N2)
   have hcb:decide ((c:Int) < (n:Int)+1)=true:=decide_eq_true (by omega)
   have hci2:¬ (C2=i):=by omega
   have hci3:¬ (C2=i+1):=by omega
   have hic:i≤c:=by omega
   have g3:(0:Int)≤(i:Int)+1:=by omega
   have g4:((i:Int)+1).toNat=i+1:=by omega
   have g5:(i:Int)+1≤(n:Int)+1:=by omega
   have g6:i≤n+1:=by omega
   have g12:(i:Int)≤(n:Int)+1:=by omega
   have g8:=HW1.out
   have g9:=HW3.out
   have g13':wrap64 ((n:Int)+1 - (i:Int))=(kk:Int):=by rw [hkk];exact HW4.out
   have G13:=am g13'
   clear g13'
   have G11:=am hr2
   have HAP:=am hap
   clear hap hr2 e1 hNew hN0 hN1 hN2 hN0s hN1s hN2s hN0l hN1l hN0t hb0 hb1 hg1 hgne hl2 hcap hfin hflen hXl hfl1 hpl1 hadd hcells hcl hcs htk hg hV hO hne hl hlt hp0 hi hn hin hnc hglt hvlt hgv hbg hC2 hC2n hC2m hsum hkk hol hocell hi0 hz3
   go_enter Try.func56,Try.ntmps56
   go_wp2_with ((with_reducible refine gate_builtin (b:=.append) (xs:=#[.tmp 34,.tmp 39]) rfl ?_);at_builtin;refine RwR.append_ev W rfl (.tmp 34) (.tmp 39) 56 3 rfl (.slice (some ⟨g,0,none⟩) i c) (.int .i64 (kk:Int)) rfl (congrArg (Value.int .i64) G13.out) HAP.out ?_)
   refine start_ (n:=9) (S:=fun w'=>True) (ds:=[]) _ (by kernel_rfl) rfl rfl trivial (fun hHeld=>?_)
   refine pK 0 46 ?_;refine pK 1 47 ?_;refine pK 2 48 ?_;refine pK 3 49 ?_;refine pK 4 50 ?_;refine pK 5 51 ?_;refine pK 6 52 ?_;refine pK 7 53 ?_
   refine oK 8 (some 54) (fun K hK=>?_)
   refine RwR.copy_step ((W.alloc (.cells N0 76)).drew.setRow W.heap.size N1).drew (by rfl) (.tmp 50) (.tmp 53) 56 56 rfl (.slice (some ⟨W.heap.size,(i+1)*2,none⟩) (n - i) (C2 - (i+1))) (.slice (some ⟨g,i*2,none⟩) (n - i) (c - i)) rfl rfl (v':=goInt ((n - i:Nat):Int)) (w':=((W.alloc (.cells N0 76)).drew.setRow W.heap.size N1).drew.setRow W.heap.size N2) G11.out ?_
   refine hK.out _ _ trivial (fun hHeld=>?_)
   clear hK K;refine norm_ (a':=?_) ?_ ?_;rotate_left
   ·show Act.put _ (some 54) _=_
    simp only [Act.put,sIb,sC0,sCs,i64_w,i32_w];rfl
   refine done_ (by kernel_rfl) ?_
   go_wp2;go_ret
   exact ⟨_,rfl,HFR.out,HBE.out⟩
  ·have hcap':n+1≤c:=by omega
   obtain ⟨N1,hN1⟩:∃ N1:Array Value,N1=(cur.toList.take ((i+1)*2)++flatR2 xs i++cur.toList.drop ((i+1)*2+(flatR2 xs i).length)).toArray:=⟨_,rfl⟩
   have hN1s:N1.size=cur.size:=by rw [hN1];simp only [List.size_toArray,List.length_append,List.length_take,List.length_drop,hXl,hcl,hcs];omega
   have hN1l:N1.toList.length=c*2:=by rw [Array.length_toList,hN1s,hcs]
   have hr1:∀ W2:World,W2.heap=W.heap→∀ c1 c2,(Builtin.copy_ #[56,56] 3 #[.slice (some ⟨g,(i+1)*2,none⟩) (n - i) c1,.slice (some ⟨g,i*2,none⟩) (n+1 - i) c2]).run Try.prog W2=.ok (goInt ((n - i:Nat):Int)) (W2.setRow g N1):=by
    intro W2 hW2 c1 c2
    have h:=RwR.run_copy_cells (P:=Try.prog) W2 56 56 3 76 g ((i+1)*2) (n - i) c1 ⟨g,i*2,none⟩ (n+1 - i) c2 cur 76 (flatR2 xs i) (n - i) 2 Try.underlying56 (by kernel_rfl) (by rw [hW2];exact hg) (by show n - i=min _ _;omega) hXl (fun j u hj=>by
     rw [hadd]
     have:=hcells j u hj
     unfold World.cell? at this ⊢
     rw [hW2];exact this) (by rw [hXl,hcs];omega) hfl1
    rw [← hN1] at h
    exact h
   obtain ⟨N2,hN2⟩:∃ N2:Array Value,N2=(N1.toList.take (i*2)++RwR.cells2 p++N1.toList.drop (i*2+(RwR.cells2 p).length)).toArray:=⟨_,rfl⟩
   have hN2s:N2.size=cur.size:=by rw [hN2];simp only [List.size_toArray,List.length_append,List.length_take,List.length_drop,hN1l,hcs];simp only [RwR.cells2,List.length_cons,List.length_nil];omega
   have hr2:∀ W2:World,W2.heap=W.heap→∀ c1,(Builtin.copy_ #[56,56] 3 #[.slice (some ⟨g,i*2,none⟩) (n+1 - i) c1,.slice (some ⟨vb,0,none⟩) 1 1]).run Try.prog (W2.setRow g N1)=.ok (goInt 1) ((W2.setRow g N1).setRow g N2):=by
    intro W2 hW2 c1
    have h:=RwR.run_copy_cells (P:=Try.prog) (W2.setRow g N1) 56 56 3 76 g (i*2) (n+1 - i) c1 ⟨vb,0,none⟩ 1 1 N1 76 (RwR.cells2 p) 1 2 Try.underlying56 (by kernel_rfl) (setRow_heap _ _ cur _ 76 (0,0) (by rw [hW2];exact hg)) (by show 1=min _ _;omega) rfl (fun j u hj=>by
     rw [hadd]
     have hv2:(W2.setRow g N1).heap[vb]? = some (.cells #[.int .u32 p.f0,.int .i64 p.f1] 76 (0,0)):=by rw [setRow_other _ _ _ _ (fun e=>hgv e.symm),hW2];exact hV
     rw [Nat.zero_add,blk_cell hv2]
     simpa [RwR.cells2] using hj) (by rw [hN1s,hcs];simp only [RwR.cells2,List.length_cons,List.length_nil];omega) hpl1
    rw [← hN2] at h
    exact h
   have e1:N1.toList.take (i*2)=(RwR.flat xs).take (i*2):=by
    rw [hN1,List.toList_toArray,List.append_assoc,List.take_append_of_le_length (by rw [List.length_take,hcl];omega),List.take_take,Nat.min_eq_left (by omega),← htk,List.take_take,Nat.min_eq_left (by omega)]
   have e2:N1.toList.drop (i*2+2)=flatR2 xs i++cur.toList.drop ((i+1)*2+(flatR2 xs i).length):=by
    have hl2:(cur.toList.take ((i+1)*2)).length=i*2+2:=by rw [List.length_take,hcl];omega
    rw [hN1,List.toList_toArray,List.append_assoc,← hl2,List.drop_left]
   have hNew:N2.toList.take ((n+1)*2)=RwR.flat (xs.take i++p::xs.drop i):=by
    have hln:((RwR.flat xs).take (i*2)++RwR.cells2 p++flatR2 xs i).length=(n+1)*2:=by
     rw [List.length_append,List.length_append,List.length_take,RwR.flat_len,hXl,hn,show (RwR.cells2 p).length=2 from rfl];omega
    rw [hN2,List.toList_toArray,e1,show (RwR.cells2 p).length=2 from rfl,e2,← List.append_assoc,hfin,← hln,List.take_left]
   have hov:∀ lb cb,(callFunc 75 #[.slice (some ⟨vb,0,none⟩) 1 1,.slice (some ⟨g,(i+1)*2,none⟩) lb cb]).run Try.prog W=.ok (.value (.bool false)) W:=fun lb cb=>by
    rw [run_callFunc_extern Try.func75 (by kernel_rfl) (by kernel_rfl) (by kernel_rfl) (e:=Extern.SlicesOverlaps.overlaps #[56,56] #[4]) (by kernel_rfl),
     Lib.run_overlaps_apart W 56 4 76 Try.underlying56 2 Try.sizeOf76 ⟨vb,0,none⟩ ⟨g,(i+1)*2,none⟩ 1 1 lb cb (fun e=>hgv e.symm) 76 76 2 cur.size (by simp [World.shape?,hV]) (by simp [World.shape?,hg]) (by rw [hcs];omega) (blk_frozen hV 0) (blk_frozen hV 2)]
    rfl
   have HFR:=am (RwR.flat_R (w:=(W.drew.setRow g N1).setRow g N2) (base:=base) (ok:=fun _=>True) (v:=.slice (some ⟨g,0,none⟩) (n+1) c) (xs:=xs.take i++p::xs.drop i) ⟨RwR.flat_len _,.inr ⟨g,c,N2,by rw [hflen],hbg,setRow_heap _ _ N1 _ 76 (0,0) (setRow_heap _ _ cur _ 76 (0,0) hg),by rw [hflen];exact hcap',HCM.out,by rw [hN2s,hcs],by rw [hflen];exact hNew⟩⟩ (fun _ _=>trivial))
   have HBE:=am (RwR.below_turn (RwR.below_turn (below_drew1 (Below.refl base W)) hbg N1) hbg N2)
   have hcb:decide ((c:Int) < (n:Int)+1)=false:=decide_eq_false (by omega)
   have hci1:¬ (c=i+1):=by omega
   have g1:(0:Int)≤(n:Int)+1:=by omega
   have g2:((n:Int)+1).toNat=n+1:=by omega
   have g3:(0:Int)≤(i:Int)+1:=by omega
   have g4:((i:Int)+1).toNat=i+1:=by omega
   have g5:(i:Int)+1≤(n:Int)+1:=by omega
   have g6:i≤n+1:=by omega
   have g12:(i:Int)≤(n:Int)+1:=by omega
   have g7:(n:Int)+1≤(c:Int):=by omega
   have g8:=HW1.out
   have g9:=HW3.out
   have g10:=hr1 W.drew rfl
   have g11:=hr2 W.drew rfl
   clear e1 e2 hNew hN1 hN2 hN1s hN2s hN1l hr1 hr2 hcap hfin hflen hXl hfl1 hpl1 hadd hcells hcl hcs htk hg hV hO hne hl hlt hp0 hi hn hin hnc hglt hvlt hgv hbg
   go_enter Try.func56,Try.ntmps56
   go_wp2
   have G10:=am g10
   have G11:=am g11
   clear g10 g11
   refine start_ (n:=9) (S:=fun w'=>True) (ds:=[]) _ (by kernel_rfl) rfl rfl trivial (fun hHeld=>?_)
   refine pK 0 69 ?_;refine pK 1 70 ?_;refine pK 2 71 ?_;refine pK 3 72 ?_;refine pK 4 73 ?_;refine pK 5 74 ?_;refine pK 6 75 ?_;refine pK 7 76 ?_
   refine oK 8 (some 77) (fun K hK=>?_)
   refine RwR.copy_step W.drew (by rfl) (.tmp 73) (.tmp 76) 56 56 rfl (.slice (some ⟨g,(i+1)*2,none⟩) (n - i) (c - (i+1))) (.slice (some ⟨g,i*2,none⟩) (n+1 - i) (c - i)) rfl rfl (v':=goInt ((n - i:Nat):Int)) (w':=W.drew.setRow g N1) (G10.out _ _) ?_
   refine hK.out _ _ trivial (fun hHeld=>?_)
   clear hK K;refine norm_ (a':=?_) ?_ ?_;rotate_left
   ·show Act.put _ (some 77) _=_
    simp only [Act.put,sIb,sC0,sCs,i64_w,i32_w];rfl
   refine done_ (by kernel_rfl) ?_
   have g11:=G11.out
   go_wp2;go_ret
   exact ⟨_,rfl,HFR.out,HBE.out⟩
def htree_row_57.f (l0:List S76):Option (List S76):=if l0.length < 4398046511104 then some l0 else none
set_option maxHeartbeats 8000000 in
set_option maxRecDepth 100000 in
theorem htree_row_57.calls (A0:Option Addr) (c0:Nat) (l0:List (S76)) (r:List (S76)) (w:World) (hr0:Kd.C k76 w A0 l0.length l0) (hc0:l0.length≤c0) (h:htree_row_57.f l0=some r) :
  Calls Try.prog 57 #[.slice A0 l0.length c0] w fun e w'=>∃ v0_:Value,e=.returned (v0_)∧Kd.R k76 76 w' w.heap.size (fun _=>True) v0_ r∧Below w.heap.size w w':=by
 unfold htree_row_57.f at h
 by_cases hl:l0.length < 4398046511104
 ·rw [if_pos hl] at h
  obtain rfl:=Option.some.inj h
  have hu26:=Try.underlying76
  cases A0 with
  | none =>
   obtain rfl:l0=[]:=by
    rcases Nat.eq_zero_or_pos l0.length with h0|h0
    ·exact List.eq_nil_of_length_eq_zero h0
    ·obtain ⟨ad,e,_⟩:=hr0.2.2 h0
     cases e
   clear hr0
   have hq:=fun W:World=>eql_nil (P:=Try.prog) W 56 76 none 0 c0 0 0 Try.underlying56
   simp only [Option.isNone_none] at hq
   go_enter Try.func57,Try.ntmps57
   go_wp2;go_ret
   exact ⟨_,rfl,Kd.R_nil _ _ _ _ _,Below.refl _ _⟩
  | some ad =>
   have HR0:=am hr0
   have HC0:=am hc0
   have HL:=am hl
   clear hr0 hc0 hl h
   have hq:=fun W:World=>eql_nil (P:=Try.prog) W 56 76 (some ad) l0.length c0 0 0 Try.underlying56
   simp only [Option.isNone_some] at hq
   go_enter Try.func57,Try.ntmps57
   go_wp2_with (first|((with_reducible refine gate_builtin (b:=.append) (xs:=#[.tmp 5,.tmp 6]) rfl ?_);at_builtin;refine Kd.R_append_rows k76 (w0:=w) w.heap.size rfl (.tmp 5) (.tmp 6) 56 76 (.agg #[(.int .u32 0),(.int .i64 0)]) 16 rfl Try.underlying56 info76 rfl (by decide) (by omega) v1 [] l0 _ _ _ (fun _=>True) (fun _=>False) rfl rfl ho1.out (Kd.C_below HR0.out hb1.out) (fun _ _ h=>h) (fun _ h=>h.elim) (fun _ _=>trivial) hb1.out hb1.out.size (by have:=HL.out;simp only [List.length_nil];omega) ?_;intro v2 w2 ho2 hb2 hg2 hat2;rw [List.nil_append] at ho2;have HO2:=am ho2;have HB2:=am hb2;clear ho2 hb2 hg2 hat2)|((with_reducible refine gate_dst (N:=5) rfl ?_);refine Kd.R_lit k76 (w0:=w) _ 76 ?hg (N:=5) ?hd (xs:=([]:List S76)) (inner:=[]) (ok:=fun _=>True) (okp:=fun _=>True) ?hr ?hp (fun _ hk=>hk) trivial (Below.refl _ _) (Nat.le_refl _) (by simp) ?_;(case hd=>rfl);(case hg=>rfl);(case hr=>first|(go_simp;done)|(go_simp;rfl));(case hp=>exact (Reps.none _ _));intro v1 w1 ho1' hb1' hg1 hn1;have ho1:=am ho1';have hb1:=am hb1';clear ho1' hb1' hg1 hn1))
   go_ret
   exact ⟨_,rfl,HO2.out,HB2.out⟩
 ·rw [if_neg hl] at h
  cases h
theorem upP_lt (l:List S30):∀ (n c k:Nat),Ht.upP l c n=some k→c≤k∧k < c+n
 | 0,c,k,h=>by cases h
 | n+1,c,k,h=>by
  unfold Ht.upP at h
  split at h
  ·cases h;omega
  ·have:=upP_lt l n (c+1) k h;omega
theorem downP_le (l:List S30):∀ n,Ht.downP l n≤n
 | 0=>Nat.le_refl _
 | n+1=>by
  unfold Ht.downP
  split
  ·exact Nat.le_refl _
  ·have:=downP_le l n;omega
theorem cutP_lt {l:List S30} (h:0 < l.length):Ht.cutP l < l.length:=by
 unfold Ht.cutP
 cases e:Ht.upP l ((l.length+1) / 2) (l.length - (l.length+1) / 2) with
 | none =>
  have:=downP_le l ((l.length+1) / 2 - 1)
  show Ht.downP l _ < _
  omega
 | some k =>
  have:=upP_lt l _ _ _ e
  show k < _
  omega
theorem right_apart {l:List S30} (h:Lf.right none l=true):Ht.Apart Ht.ltE l∧Ht.Apart Ht.ltN l :=
 ⟨(Ht.right_iff.1 h).2.imp (fun {a b} h=>Ht.ltE_or (Od.less_ne h)),(Ht.right_iff.1 h).2.imp (fun {a b} h=>Ht.ltN_or (Od.less_ne h))⟩
theorem cut_lo (g n c j:Nat) (hj:j≤n) (hc:n≤c) (W:World):(Instr.slice 26 (.slice (some ⟨g,0,none⟩) n c) none (some (.int .i64 (j:Int))) none).run Try.prog W=.ok (.slice (some ⟨g,0,none⟩) j c) W:=by
 obtain ⟨i0,hi0,_,hsz,_⟩:=info_parts info30
 have:=cut_to (P:=Try.prog) 26 30 .i64 Try.underlying26 hi0 (some ⟨g,0,none⟩) n c (j:Int) (by omega) (by omega) hc W
 rw [Int.toNat_natCast] at this
 exact this
theorem cut_hi (g n c j:Nat) (hj:j < n) (hc:n≤c) (W:World):(Instr.slice 26 (.slice (some ⟨g,0,none⟩) n c) (some (.int .i64 (j:Int))) none none).run Try.prog W=.ok (.slice (some ⟨g,j*2,none⟩) (n - j) (c - j)) W:=by
 have hel:Try.prog.elem 26=30:=by simp [Program.elem,Try.underlying26]
 have hu:Try.prog.underlying 26=some (.slice (Try.prog.elem 26)):=by rw [hel];exact Try.underlying26
 obtain ⟨i0,hi0,_,hsz,_⟩:=info_parts info30
 have h1:=run_slice_l W 26 (some ⟨g,0,none⟩) n c hu .i64 (j:Int) (by omega) (by omega)
 rw [hel] at h1
 rw [h1]
 have h2:¬ c=j:=by omega
 simp [sizeOf,typeInfo,hi0,hsz,sliced,Result.andThen,h2,Addr.add]
 intro h;omega
theorem splitP_none {d:List (List Int)} {rs:List S76} {a:Nat} {l s:List S30} {c:Nat} (hs:Ht.isort Ht.ltE l=s) (hc:Ht.cutP s=c) (h:c=0∨rs.length=30):Ht.splitP d rs a l=([],9):=by
 unfold Ht.splitP
 rw [hs]
 dsimp only
 rw [hc,if_pos h]
theorem splitP_some {d:List (List Int)} {rs:List S76} {a:Nat} {l s:List S30} {c:Nat} (hs:Ht.isort Ht.ltE l=s) (hc:Ht.cutP s=c) (h:¬ (c=0∨rs.length=30)) {eb0 eb1:List Int} {e0 e1:Int} (h0:Lf.encR (Ht.isort Ht.ltN (s.take c))=(eb0,e0)) (h1:Lf.encR (Ht.isort Ht.ltN (s.drop c))=(eb1,e1)) :
  Ht.splitP d rs a l=if e0≠0 then ([],e0) else if e1≠0 then ([],e1) else if d.length=1 then ([Ht.ixB [⟨0,1⟩,⟨Ht.sumN (s.getD c ⟨⟨#[]⟩,0⟩).f0,2⟩],eb0,eb1],0) else
   (((d++[eb1]).set (rs.getD a ⟨0,0⟩).f1.toNat eb0).set 0 (Ht.ixB (rs.take (a+1)++⟨Ht.sumN (s.getD c ⟨⟨#[]⟩,0⟩).f0,d.length⟩::rs.drop (a+1))),0):=by
 unfold Ht.splitP
 rw [hs]
 dsimp only
 rw [hc,if_neg h,h0,h1]
theorem S_append_at_step {ops:Array Oper} {o:Oper} {a:Act} {Q:Exit→Act→World→Prop} {Kc:Act→World→Prop} {w0 W:World} (base:Nat) (hw:Region.wanted o (yielded ops a.tmps)=true) (s x:Operand)
  (ho:o.op=.call { callee:=.builtin .append,args:=#[s,x],argTypes:=#[22,22] }) (v:Value) (xs:List (List Int)) (p:List Int) (u:Value) (vb:Nat) (ok okp:Nat→Prop) (hs:a.eval s=v) (hx:a.eval x=.slice (some ⟨vb,0,none⟩) 1 1) (hV:W.heap[vb]? = some (.cells #[u] 66 (0,0)))
  (hp:Kd.R (Kd.int .u8) 5 W base okp u p) (hokp:∀ k,okp k→ok k∧some k≠v.ownBlock) (hfresh:∀ k,W.heap.size≤k→ok k) (HO:Kd.S kRw 66 W base (fun k=>ok k∧¬ okp k) v xs) (HB:Below base w0 W) (hbase:base≤W.heap.size) (hl:(xs.length+1)*24≤140737488355328)
  (h:∀ v1 w1,Kd.S kRw 66 w1 base ok v1 (xs++[p])→Below base w0 w1→W.grownBy w1 v.ownBlock→Kc (a.put o.dst v1) w1) :
  if Region.wanted o (yielded ops a.tmps)=true then Oper.wp Try.prog o a W Kc Q else Kc (a.put o.dst undef) W:=by
 obtain ⟨f,hf,hR⟩:=Kd.S_tag HO xs.length okp (fun _ hk h2=>h2.2 hk)
 obtain ⟨h0,inner,hown,hr⟩:=Kd.R_mono hR (fun _ hk=>hk.1)
 have hM:(Kd.tag f kRw).M W base ok (p,xs.length) [u]:=(Kd.tag f kRw).M_mono (fun k hk=>hk) (kRw.M_mono (fun k hk=>⟨(hokp k hk).1,hf k hk⟩) ⟨u,rfl,hp⟩)
 obtain ⟨i0,hi,hzz⟩:=Option.map_eq_some_iff.1 info66
 simp only [Prod.mk.injEq] at hzz
 have hu1:=(Kd.R_val hp).2
 rw [if_pos hw]
 obtain ⟨v1,w1,hrr,hown1,hg,_,hat⟩:=run_append_own_at (P:=Try.prog) W base 22 o.type 66 i0 (.slice none 0 0) 1 24 Try.underlying22 hi hzz.1 hzz.2.1 hzz.2.2 rfl (by decide) v xs.zipIdx.length inner hown ⟨vb,0,none⟩ 1 1 [u] (by simp)
  (fun j q hj=>by rw [Go.Proofs.YteglhbfhibfodaaW.PrintWords.add_plain,blk_cell hV j,← hj];simp) (fun q hq=>by rw [List.mem_singleton.1 hq];exact hu1) (by rw [List.length_zipIdx];unfold maxLen;omega) (by rw [List.length_zipIdx];exact hl) hbase
 unfold Oper.wp execOp
 simp only [ho,resolve,invoke,builtin,Sem.run_bind,Sem.run_pure,Result.andThen_ok,List.map_toArray,List.map_cons,List.map_nil,hs,hx,hrr]
 refine h v1 w1 ⟨f,?_⟩ (HB.grown hg hbase (own_base hown)) hg
 have hR1:=Kd.R_appended (d:=Kd.tag f kRw) (e:=66) (base:=base) (ok:=ok) (okp:=okp) (p:=(p,xs.length)) (cs:=[u]) h0 hr ((Kd.tag f kRw).M_mono (fun k hk=>hk) (kRw.M_mono (fun k hk=>⟨hk,hf k hk⟩) ⟨u,rfl,hp⟩)) hokp hfresh (by rw [List.length_zipIdx] at hown1 ⊢;exact hown1) hg (hat.imp id (fun e=>⟨_,e,Nat.le_refl _⟩))
 rw [← Kd.zip_snoc] at hR1
 exact hR1
theorem lits_three {W:World} {base b1 b2 b3 n10 n12:Nat} {u v x:Value} {X Y Z:List Int} (h1:Kd.R (Kd.int .u8) 5 W b1 (fun k=>n12≤k) u X) (h2:Kd.R (Kd.int .u8) 5 W b2 (fun k=>k < n10) v Y) (h3:Kd.R (Kd.int .u8) 5 W b3 (fun k=>n10≤k) x Z) (hz1:base≤b1) (hz:n10≤n12) (hz2:base≤b2) (hz3:base≤b3) (hz4:∀ k,x.ownBlock=some k→k < n12) :
  ∀ (j:Nat) (p:List Int),([X,Y,Z]:List (List Int))[j]? = some p→kRw.M W base (fun k=>(j=0∧n12≤k)∨(j=1∧k < n10)∨(j=2∧n10≤k∧k < n12)) p ((([u,v,x]:List Value).drop (j*kRw.sz)).take kRw.sz):=by
 intro j p hj
 match j,hj with
 | 0,hj=>obtain rfl:=Option.some.inj hj;exact ⟨u,rfl,Kd.R_mono (Kd.R_lower h1 hz1) (fun k hk=>.inl ⟨rfl,hk⟩)⟩
 | 1,hj=>obtain rfl:=Option.some.inj hj;exact ⟨v,rfl,Kd.R_mono (Kd.R_lower h2 hz2) (fun k hk=>.inr (.inl ⟨rfl,hk⟩))⟩
 | 2,hj =>
  obtain rfl:=Option.some.inj hj
  exact ⟨x,rfl,Kd.R_mono (Kd.R_tight rfl (Kd.R_lower h3 hz3)) (fun k hk=>.inr (.inr ⟨rfl,h3.1 k hk.symm,hz4 k hk.symm⟩))⟩
 | j+3,hj=>simp at hj
set_option maxHeartbeats 8000000 in
set_option maxRecDepth 100000 in
theorem split_calls (w0 w:World) (hw:Below w0.heap.size w0 w) (B:Nat) (A0:Option Addr) (c0:Nat) (d:List (List Int)) (rs:List S76) (ls:List (List S30)) (a:Nat)
  (hr0:Kd.C kRw w0 A0 d.length d) (hc0:d.length≤c0) (hT:TreeAt w0 B A0 c0 d.length rs ls) (hd:d.length≤31) (hdl:∀ b∈d,b.length≤140737488355328) (ha:a < rs.length) (hrs:Ht.RowsOk d.length rs)
  (g5 c5:Nat) (l:List S30) (hg5:w0.heap.size≤g5) (hR:Kd.R k30 30 w w0.heap.size (fun _=>True) (.slice (some ⟨g5,0,none⟩) l.length c5) l) (hlr:Lf.right none l=true) (h0:0 < l.length) (hl:l.length≤42) :
  Calls Try.prog 29 #[.pointer (some ⟨B,0,none⟩),.int .i64 (a:Int),.slice (some ⟨g5,0,none⟩) l.length c5] w fun e w'=>∃ v,e=.returned (.tuple #[v,.int .i64 (Ht.splitP d rs a l).2])∧Rows2 w' w0.heap.size v (Ht.splitP d rs a l).1∧Below w0.heap.size w0 w':=by
 obtain ⟨A1,c1,A2,c2,hT1,hT2,hT3,hT4,hT5⟩:=hT
 have HW:=am hw
 have HR0:=am hr0
 have HC0:=am hc0
 have HT1:=am hT1
 have HT2:=am hT2
 have HT3:=am hT3
 have HDL:=am (⟨hd,hdl⟩:d.length≤31∧∀ b∈d,b.length≤140737488355328)
 have HA:=am ha
 have HRS:=am hrs
 have HG5:=am hg5
 have HR:=am hR
 have HLR:=am hlr
 have HL0:=am h0
 have HL:=am hl
 have HAP:=am (right_apart hlr)
 have HZ:=am (show ∀ x∈l,x.f0.size < 512 from fun x hx=>by have:=Lf.okE_size (Ht.right_ok l _ hlr x hx);omega)
 obtain ⟨s,hs⟩:∃ s,Ht.isort Ht.ltE l=s:=⟨_,rfl⟩
 have HS:=am hs
 have HSP:=am (show s.Perm l from hs ▸ Ht.isort_perm _ _)
 have HSL:=am (show s.length=l.length from HSP.out.length_eq)
 have HZS:=am (show ∀ x∈s,x.f0.size < 512 from fun x hx=>HZ.out x (HSP.out.mem_iff.1 hx))
 obtain ⟨c,hc⟩:∃ c,Ht.cutP s=c:=⟨_,rfl⟩
 have HC:=am hc
 have HCL:=am (show c < l.length by rw [← hc,← HSL.out];exact cutP_lt (by rw [HSL.out];exact h0))
 have HRS0:=am (show (∀ W:World,Below w0.heap.size w0 W→W.cell? ⟨B,0,none⟩=some (.slice A0 d.length c0)) from fun W h=>(h.cell (World.block_lt_of_cell? _ _ ((blk_cell hT1 0).trans rfl))).trans ((blk_cell hT1 0).trans rfl))
 have HRS1:=am (show (∀ W:World,Below w0.heap.size w0 W→W.cell? ⟨B,1,none⟩=some (.slice A1 rs.length c1)) from fun W h=>(h.cell (World.block_lt_of_cell? _ _ ((blk_cell hT1 1).trans rfl))).trans ((blk_cell hT1 1).trans rfl))
 clear hw hr0 hc0 hT1 hT2 hT3 hT4 hT5 hd hdl ha hrs hg5 hR hlr h0 hl hs hc
 by_cases hc0:c=0
 ·rw [splitP_none HS.out HC.out (.inl hc0)]
  subst hc0
  go_enter Try.func29,Try.ntmps29
  go_wp2_with (first|(go_at_call 53;have hcc:=cut_calls w1 (some ⟨g5,0,none⟩) c5 s (by rw [HSL.out];have h:=Kd.R_reads' HR1.out;exact h.1 ▸ HSL.out ▸ h.2.2) (by rw [HSL.out];exact HL0.out) (by rw [HSL.out];have:=HL.out;omega) HZS.out;rw [HSL.out,HC.out] at hcc;refine hcc.mono ?_;rintro e w2 ⟨rfl,hb2⟩;have HW2:=am hb2;have HB2:=am (HB1.out.trans (hb2.mono HB1.out.size));have hcT:=HRS1.out w2 HB2.out;clear hb2 hcc)|(go_at_call 38;refine (sortO_calls w w0.heap.size g5 l.length c5 l HR.out HZ.out HAP.out.1 (by have:=HL.out;omega)).mono ?_;rintro e w1 hs1;have hb1:=hs1.below HG5.out;rw [Nat.min_eq_left HW.out.size] at hb1;rw [HS.out] at hs1;obtain ⟨rfl,hr1,-⟩:=hs1;have HR1:=am hr1;have HB1:=am (HW.out.trans hb1);clear hr1 hb1))
  go_ret2
  exact ⟨_,rfl,Kd.S_nil _ _ _ _ _,HB2.out⟩
 ·by_cases h30:rs.length=30
  ·rw [splitP_none HS.out HC.out (.inr h30)]
   have hcb:((c:Int)==0)=false:=beq_eq_false_iff_ne.2 (by omega)
   have h30b:((rs.length:Int)==30)=true:=beq_iff_eq.2 (by omega)
   clear hc0 h30
   go_enter Try.func29,Try.ntmps29
   go_wp2_with (first|(go_at_call 53;have hcc:=cut_calls w1 (some ⟨g5,0,none⟩) c5 s (by rw [HSL.out];have h:=Kd.R_reads' HR1.out;exact h.1 ▸ HSL.out ▸ h.2.2) (by rw [HSL.out];exact HL0.out) (by rw [HSL.out];have:=HL.out;omega) HZS.out;rw [HSL.out,HC.out] at hcc;refine hcc.mono ?_;rintro e w2 ⟨rfl,hb2⟩;have HW2:=am hb2;have HB2:=am (HB1.out.trans (hb2.mono HB1.out.size));have hcT:=HRS1.out w2 HB2.out;clear hb2 hcc)|(go_at_call 38;refine (sortO_calls w w0.heap.size g5 l.length c5 l HR.out HZ.out HAP.out.1 (by have:=HL.out;omega)).mono ?_;rintro e w1 hs1;have hb1:=hs1.below HG5.out;rw [Nat.min_eq_left HW.out.size] at hb1;rw [HS.out] at hs1;obtain ⟨rfl,hr1,-⟩:=hs1;have HR1:=am hr1;have HB1:=am (HW.out.trans hb1);clear hr1 hb1))
   go_ret2
   exact ⟨_,rfl,Kd.S_nil _ _ _ _ _,HB2.out⟩
  ·have HN30:=am (show ¬ (c=0∨rs.length=30) from fun h=>h.elim hc0 h30)
   have hcb:((c:Int)==0)=false:=beq_eq_false_iff_ne.2 (by omega)
   have h30b:((rs.length:Int)==30)=false:=beq_eq_false_iff_ne.2 (by omega)
   have HC1:=am (show 0 < c by omega)
   have hcll:=HCL.out
   obtain ⟨nm,hnm⟩:∃ nm,(s.getD c ⟨⟨#[]⟩,0⟩).f0=nm:=⟨_,rfl⟩
   have HNM:=am (show (s[c]'(by rw [HSL.out];exact HCL.out)).f0=nm by rw [← hnm,Ht.getD_at (by rw [HSL.out];exact HCL.out)])
   have HNM2:=am hnm
   obtain ⟨bd,hbd⟩:∃ bd,Ht.sumN nm=bd:=⟨_,rfl⟩
   obtain ⟨k2,hk2⟩:=(Ht.sum_ev nm (by rw [← HNM.out];exact HZS.out _ (List.getElem_mem _))).rounds
   rw [hbd] at hk2
   have HBD2:=am hbd
   have HBD:=am (show 0≤bd∧bd < 4294967296 from hbd ▸ Ht.sumN_nn nm)
   have HK2:=am hk2
   clear hc0 h30 hnm hbd hk2
   go_enter Try.func29,Try.ntmps29
   go_wp2_with (first|(go_at_call 34;refine (htree_sum.calls k2 nm bd _ HK2.out).mono ?_;rintro e w3 ⟨rfl,hb3⟩;have HW3:=am (HW2.out.trans (hb3.mono HW2.out.size));have HB3:=am (HB2.out.trans (hb3.mono HB2.out.size));clear hb3 hcT hcs)|(go_at_call 53;have hcc:=cut_calls w1 (some ⟨g5,0,none⟩) c5 s (by rw [HSL.out];have h:=Kd.R_reads' HR1.out;exact h.1 ▸ HSL.out ▸ h.2.2) (by rw [HSL.out];exact HL0.out) (by rw [HSL.out];have:=HL.out;omega) HZS.out;rw [HSL.out,HC.out] at hcc;refine hcc.mono ?_;rintro e w2 ⟨rfl,hb2⟩;have HW2:=am hb2;have HB2:=am (HB1.out.trans (hb2.mono HB1.out.size));have hcT:=HRS1.out w2 HB2.out;have hcs:w2.cell? ⟨g5,c*2,none⟩=some (.string nm):=(by obtain ⟨ad_,ea_,hx_,-⟩:=at_T30 (Kd.R_reads' HR1.out).2.2 (c:Int) (by omega) (by have:=HSL.out;have:=HCL.out;omega);cases ea_;rw [Int.toNat_natCast,Lf.rdT_get (by rw [HSL.out];exact HCL.out),HNM.out] at hx_;have hy_:=(hb2.cell (World.block_lt_of_cell? _ _ hx_)).trans hx_;rw [add_plain] at hy_;simpa using hy_);clear hb2 hcc)|(go_at_call 38;refine (sortO_calls w w0.heap.size g5 l.length c5 l HR.out HZ.out HAP.out.1 (by have:=HL.out;omega)).mono ?_;rintro e w1 hs1;have hb1:=hs1.below HG5.out;rw [Nat.min_eq_left HW.out.size] at hb1;rw [HS.out] at hs1;obtain ⟨rfl,hr1,-⟩:=hs1;have HR1:=am hr1;have HB1:=am (HW.out.trans hb1);clear hr1 hb1))
   have HR3:=am (Kd.R_below HR1.out HW3.out)
   have hP:=blk_new w3 (.cells #[.slice none 0 0,.slice none 0 0] 96)
   have hbP:=(Below.refl w3.heap.size w3).alloc (Nat.le_refl _) (.cells #[.slice none 0 0,.slice none 0 0] 96)
   generalize (w3.alloc (.cells #[.slice none 0 0,.slice none 0 0] 96))=w4 at hP hbP ⊢
   have HPG:=am (show w0.heap.size≤w3.heap.size from HB3.out.size)
   generalize hPn:w3.heap.size=P at hP hbP HPG ⊢
   have HP4:=am hP
   have HB4:=am (HB3.out.trans (hbP.mono HPG.out))
   have hr4:=Kd.R_below HR3.out (by rw [hPn];exact hbP)
   rw [← HSL.out] at hr4
   have hrd:=Kd.R_reads' hr4
   have HR4:=am hr4
   have HC4:=am (show k30.C w4 (some ⟨g5,0,none⟩) s.length s from hrd.2.2)
   have HC5:=am (show s.length≤c5 from hrd.2.1)
   have hcl0:=cut_lo g5 l.length c5 c (by have:=HCL.out;omega) (by have:=HC5.out;rw [HSL.out] at this;exact this)
   have hcl1:=cut_hi g5 l.length c5 c HCL.out (by have:=HC5.out;rw [HSL.out] at this;exact this)
   have HCL0:=am (show k30.C w4 (some ⟨g5,0,none⟩) (s.take c).length (s.take c) from Kd.C_take HC4.out (by have:=HSL.out;have:=HCL.out;omega))
   have HCL1:=am (show k30.C w4 (some ⟨g5,c*2,none⟩) (s.drop c).length (s.drop c) by
    have:=Kd.C_mid (lo:=c) (hi:=s.length) HC4.out (by have:=HSL.out;have:=HCL.out;omega) (Nat.le_refl _) HC5.out
    rw [if_neg (by have:=HC5.out;have:=HSL.out;have:=HCL.out;omega),List.take_length] at this
    have e:(some (⟨g5,0,none⟩:Addr)).map (·.add (c*k30.sz))=some ⟨g5,c*2,none⟩:=by
     show some ((⟨g5,0,none⟩:Addr).add (c*2))=_
     rw [Go.Proofs.YteglhbfhibfodaaW.PrintWords.add_plain]
    rw [e] at this
    exact this)
   have HLT:=am (show (s.take c).length=c by rw [List.length_take];have:=HSL.out;have:=HCL.out;omega)
   have HLD:=am (show (s.drop c).length=l.length - c by rw [List.length_drop,HSL.out])
   obtain ⟨pa,hpa⟩:∃ pa,s.take c=pa:=⟨_,rfl⟩
   obtain ⟨pb,hpb⟩:∃ pb,s.drop c=pb:=⟨_,rfl⟩
   have HPA:=am (⟨hpa,hpb⟩:s.take c=pa∧s.drop c=pb)
   rw [hpa] at HCL0 HLT
   rw [hpb] at HCL1 HLD
   have hb4:=below_drew1 (Below.refl w4.heap.size w4)
   clear hP hbP hr4 hrd hpa hpb hPn
   refine start_ (n:=10) (S:=fun w'=>Below w4.heap.size w4 w') (ds:=[]) _ (by kernel_rfl) rfl rfl (hb4) (fun hHeld=>?_)
   refine pK 0 36 ?_;refine pK 1 37 ?_;refine pK 2 38 ?_;refine pK 4 40 ?_;refine pK 5 41 ?_;refine pK 6 42 ?_;refine pK 9 45 ?_
   refine oK 3 (some 39) (fun K hK=>?_)
   refine gS Try.func27 #[.slice (some ⟨g5,0,none⟩) c c5] ?_
   with_reducible refine (HLT.out ▸ api_Name_27.calls (some ⟨g5,0,none⟩) c5 pa pa _ (Kd.C_drew HCL0.out) (by have:=HLT.out;have:=HC5.out;have:=HSL.out;have:=HCL.out;omega) (by unfold api_Name_27.f;rw [if_pos (by have:=HLT.out;have:=HL.out;have:=HCL.out;omega)])).mono ?_
   rintro e5 w5 ⟨v5,rfl,ho5,hb5⟩
   refine ⟨_,rfl,?_⟩
   obtain ⟨g6,c6,rfl,hg6,-⟩:=Kd.R_form ho5 (by have:=HLT.out;have:=HC1.out;omega)
   have HO5:=am ho5
   have HG6:=am hg6
   have hb45:=hb4.trans (hb5.mono (Nat.le_refl _))
   have HB45:=am hb45
   clear ho5 hg6
   refine hK.out _ _ (hb45) (fun hHeld=>?_)
   clear hK K;refine norm_ (a':=?_) ?_ ?_;rotate_left
   ·show Act.put _ (some 39) _=_
    simp only [Act.put,sIb,sC0,sCs,i64_w,i32_w];rfl
   refine oK 7 (some 43) (fun K hK=>?_)
   refine gS Try.func27 #[.slice (some ⟨g5,c*2,none⟩) (l.length - c) (c5 - c)] ?_
   with_reducible refine (HLD.out ▸ api_Name_27.calls (some ⟨g5,c*2,none⟩) (c5 - c) pb pb _ (Kd.C_below HCL1.out HB45.out) (by have:=HLD.out;have:=HC5.out;have:=HSL.out;have:=HCL.out;omega) (by unfold api_Name_27.f;rw [if_pos (by have:=HLD.out;have:=HL.out;have:=HCL.out;omega)])).mono ?_
   rintro e6 w6 ⟨v6,rfl,ho6,hb6⟩
   refine ⟨_,rfl,?_⟩
   obtain ⟨g7,c7,rfl,hg7,-⟩:=Kd.R_form ho6 (by have:=HLD.out;have:=HCL.out;omega)
   have HO6:=am ho6
   have HG7:=am hg7
   have HB56:=am hb6
   have hb46:=hb45.trans (hb6.mono hb45.size)
   have HB46:=am hb46
   clear ho6 hg7
   refine hK.out _ _ (hb46) (fun hHeld=>?_)
   clear hK K;refine norm_ (a':=?_) ?_ ?_;rotate_left
   ·show Act.put _ (some 43) _=_
    simp only [Act.put,sIb,sC0,sCs,i64_w,i32_w];rfl
   refine pK 8 44 ?_
   refine done_ (by kernel_rfl) ?_
   clear hHeld hb6 hb46 hb45 hb5 hb4 hcl0 hcl1;go_wp2
   obtain ⟨qa,hqa⟩:∃ qa,Ht.isort Ht.ltN pa=qa:=⟨_,rfl⟩
   obtain ⟨qb,hqb⟩:∃ qb,Ht.isort Ht.ltN pb=qb:=⟨_,rfl⟩
   have HQA:=am (⟨hqa,hqb⟩:Ht.isort Ht.ltN pa=qa∧Ht.isort Ht.ltN pb=qb)
   have HQL:=am (⟨hqa ▸ (Ht.isort_perm _ _).length_eq,hqb ▸ (Ht.isort_perm _ _).length_eq⟩:qa.length=pa.length∧qb.length=pb.length)
   have HAPS:=am (show Ht.Apart Ht.ltN pa∧Ht.Apart Ht.ltN pb by
    have h:=Ht.Apart.perm HAP.out.2 HSP.out.symm
    exact ⟨HPA.out.1 ▸ List.Pairwise.sublist (List.take_sublist _ _) h,HPA.out.2 ▸ List.Pairwise.sublist (List.drop_sublist _ _) h⟩)
   have HZP:=am (show (∀ x∈pa,x.f0.size < 512)∧∀ x∈pb,x.f0.size < 512 from ⟨fun x hx=>HZS.out x (List.mem_of_mem_take (HPA.out.1 ▸ hx)),fun x hx=>HZS.out x (List.mem_of_mem_drop (HPA.out.2 ▸ hx))⟩)
   obtain ⟨⟨eb0,e0⟩,hee0⟩:∃ p,Lf.encR qa=p:=⟨_,rfl⟩
   obtain ⟨⟨eb1,e1⟩,hee1⟩:∃ p,Lf.encR qb=p:=⟨_,rfl⟩
   obtain ⟨ke0,hke0⟩:=(Lf.enc_ev qa (by have:=HQL.out;have:=HLT.out;have:=HL.out;have:=HCL.out;omega)).rounds
   obtain ⟨ke1,hke1⟩:=(Lf.enc_ev qb (by have:=HQL.out;have:=HLD.out;have:=HL.out;omega)).rounds
   rw [hee0] at hke0
   rw [hee1] at hke1
   have HKE:=am (⟨hke0,hke1⟩:leaf_Encode.f ke0 qa=some (eb0,e0)∧leaf_Encode.f ke1 qb=some (eb1,e1))
   have HEE:=am (⟨hee0,hee1⟩:Lf.encR qa=(eb0,e0)∧Lf.encR qb=(eb1,e1))
   have HR6a:=am (Kd.R_lower (base':=w0.heap.size) (Kd.R_below HO5.out HB56.out) HB4.out.size)
   have HR6b:=am (Kd.R_mono (ok':=fun k=>w5.heap.size≤k) (Kd.R_bound HO6.out) (fun k hk=>hk.2.1))
   have HB6:=am (HB4.out.trans (HB46.out.mono HB4.out.size))
   have HP6:=am (blk_below HP4.out HB46.out)
   have HPN:=am (show P < w4.heap.size from blk_lt HP4.out)
   have HG6b:=am (show g6 < w5.heap.size from Kd.R_lt HO5.out g6 rfl)
   have HB6s:=am (⟨HB45.out.size,HB56.out.size,HB4.out.size⟩:w4.heap.size≤w5.heap.size∧w5.heap.size≤w6.heap.size∧w0.heap.size≤w4.heap.size)
   have HGG:=am (⟨HG6.out,HG7.out,HB4.out.size⟩:w4.heap.size≤g6∧w5.heap.size≤g7∧w0.heap.size≤w4.heap.size)
   clear hqa hqb hee0 hee1 hke0 hke1
   have hix0:∀ W:World,(Instr.index 97 (.agg #[.slice (some ⟨g6,0,none⟩) pa.length c6,.slice (some ⟨g7,0,none⟩) pb.length c7]) (.int .i64 0)).run Try.prog W=.ok (.slice (some ⟨g6,0,none⟩) pa.length c6) W:=fun W=>by
    simp [Instr.index,Try.underlying97,Try.sizeOf26,go_sem]
   have hix1:∀ W:World,(Instr.index 97 (.agg #[.slice (some ⟨g6,0,none⟩) pa.length c6,.slice (some ⟨g7,0,none⟩) pb.length c7]) (.int .i64 1)).run Try.prog W=.ok (.slice (some ⟨g7,0,none⟩) pb.length c7) W:=fun W=>by
    simp [Instr.index,Try.underlying97,Try.sizeOf26,go_sem]
   refine wp_loop_rounds 3 ?_
   rw [rounds_succ]
   by_cases h00:e0=0
   ·subst h00
    go_wp2_with (first|((with_reducible refine gate_store (t:=66) (p:=61) rfl ?_);refine store_event (t:=66) (p:=61) (v:=?vo) (w1:=(w8.setCell ⟨P,0,none⟩ (.slice A8 eb0.length c8))) ?hg ?ho ?hn ?hr ?_;(case ho=>rfl);(case hg=>rfl);(case hn=>rfl);(case hr=>first|(go_simp;done)|(go_simp;rfl));intro w9 hw;have HP9:=am (show w9.heap[P]? = some (.cells #[.slice A8 eb0.length c8,.slice none 0 0] 96 (0,0)) by rw [hw];exact blk_put HP8.out 0 _ rfl);have HB9:=am (show Below w0.heap.size w0 w9 by rw [hw];exact HB8.out.setCell (p:=⟨P,0,none⟩) HPG.out _);have HO9:=am (show Kd.R (Kd.int .u8) 5 w9 w7.heap.size (fun _=>True) (.slice A8 eb0.length c8) eb0 by rw [hw];exact Kd.R_set HO8.out HP8.out (by decide) 0 _);have HR9b:=am (show Kd.R k30 30 w9 w5.heap.size (fun k=>w5.heap.size≤k) (.slice (some ⟨g7,0,none⟩) pb.length c7) pb by rw [hw];exact Kd.R_set (Kd.R_below HR7b.out HW8.out) HP8.out (by decide) 0 _);have HZ9:=am (show w7.heap.size≤w8.heap.size∧w8.heap.size≤w9.heap.size by rw [hw];exact ⟨HW8.out.size,by simp [World.setCell]⟩);have HR9c:=am (Kd.R_mono (ok':=fun _=>True) (Kd.R_lower (base':=w0.heap.size) HR9b.out (by have:=HB6s.out;omega)) (fun _ _=>trivial));obtain ⟨cs9,hcs9⟩:=Kd.R_typed HR9b.out g7 rfl;have HO9t:=am (Kd.R_types HO9.out hcs9 (by decide));clear hcs9;clear hw hcP hfP)|(go_at_call 24;have hec:=leaf_Encode.calls ke0 (some ⟨g6,0,none⟩) c6 qa eb0 _ w7 (by have h:=Kd.R_reads' HR7.out;exact h.2.2) (by have h:=Kd.R_reads' HR7.out;have:=h.1;have:=h.2.1;have:=HQL.out;omega) HKE.out.1;rw [HQL.out.1] at hec;refine hec.mono ?_;rintro e w8 ⟨v8,rfl,ho8,hb8⟩;obtain ⟨A8,c8,rfl,-⟩:=Kd.R_reads ho8;have HO8:=am ho8;have HW8:=am hb8;have HB8:=am (HB7.out.trans (hb8.mono HB7.out.size));have hP8:=blk_below HP7.out hb8;have hcP:=(blk_cell hP8 0).trans rfl;have hfP:=blk_frozen hP8 0;have HP8:=am hP8;clear ho8 hb8 hec hP8)|(go_at_call 38;refine (sortN_calls w6 w0.heap.size g6 pa.length c6 pa HR6a.out HZP.out.1 HAPS.out.1 (by have:=HLT.out;have:=HLD.out;have:=HL.out;have:=HCL.out;omega)).mono ?_;rw [HQA.out.1];rintro e w7 hs7;have hb7:=hs7.below (B:=w0.heap.size) (by have:=HGG.out;omega);rw [Nat.min_eq_left HB6.out.size] at hb7;have HS7:=am hs7;obtain ⟨rfl,hr7,hk7,hz7,-⟩:=hs7;have HR7:=am hr7;have HB7:=am (HB6.out.trans hb7);have HP7:=am ((hk7 P (blk_lt HP6.out) (by have:=HPN.out;have:=HGG.out;omega)).trans HP6.out);have HR7b:=am (Kd.R_step HR6b.out (fun k hk hl=>hk7 k hl (by have:=HG6b.out;omega)));have HZ7:=am hz7;clear hr7 hk7 hz7 hb7))
    rw [rounds_succ]
    by_cases h01:e1=0
    ·subst h01
     go_wp2_with (first|((with_reducible refine gate_store (t:=66) (p:=61) rfl ?_);refine store_event (t:=66) (p:=61) (v:=?vo) (w1:=(w11.setCell ⟨P,1,none⟩ (.slice A11 eb1.length c11))) ?hg ?ho ?hn ?hr ?_;(case ho=>rfl);(case hg=>rfl);(case hn=>rfl);(case hr=>first|(go_simp;done)|(go_simp;rfl));intro w12 hw;have HP12:=am (show w12.heap[P]? = some (.cells #[.slice A8 eb0.length c8,.slice A11 eb1.length c11] 96 (0,0)) by rw [hw];exact blk_put HP11.out 1 _ rfl);have HB12:=am (show Below w0.heap.size w0 w12 by rw [hw];exact HB11.out.setCell (p:=⟨P,1,none⟩) HPG.out _);have HO12a:=am (show Kd.R (Kd.int .u8) 5 w12 w7.heap.size (fun k=>k < w10.heap.size) (.slice A8 eb0.length c8) eb0 by rw [hw];exact Kd.R_set (Kd.R_below (Kd.R_mono (ok':=fun k=>k < w10.heap.size) (Kd.R_bound HO10.out) (fun k hk=>hk.2.2.1)) HW11.out) HP11.out (by decide) 1 _);have HO12b:=am (show Kd.R (Kd.int .u8) 5 w12 w10.heap.size (fun k=>w10.heap.size≤k) (.slice A11 eb1.length c11) eb1 by rw [hw];exact Kd.R_set (Kd.R_mono (Kd.R_bound HO11.out) (fun k hk=>hk.2.1)) HP11.out (by decide) 1 _);have HZ12:=am (show w10.heap.size≤w12.heap.size by rw [hw];have:=HW11.out.size;simpa [World.setCell] using this);clear hw hcP hfP)|(go_at_call 24;have hec:=leaf_Encode.calls ke1 (some ⟨g7,0,none⟩) c7 qb eb1 _ w10 (by have h:=Kd.R_reads' HR10.out;exact h.2.2) (by have h:=Kd.R_reads' HR10.out;have:=h.1;have:=h.2.1;have:=HQL.out;omega) HKE.out.2;rw [HQL.out.2] at hec;refine hec.mono ?_;rintro e w11 ⟨v11,rfl,ho11,hb11⟩;obtain ⟨A11,c11,rfl,-⟩:=Kd.R_reads ho11;have HO11:=am ho11;have HW11:=am hb11;have HB11:=am (HB10.out.trans (hb11.mono HB10.out.size));have hP11:=blk_below HP10.out hb11;have hcP:=(blk_cell hP11 1).trans rfl;have hfP:=blk_frozen hP11 1;have HP11:=am hP11;clear ho11 hb11 hec hP11)|(go_at_call 38;refine (sortN_calls w9 w0.heap.size g7 pb.length c7 pb HR9c.out HZP.out.2 HAPS.out.2 (by have:=HLT.out;have:=HLD.out;have:=HL.out;have:=HCL.out;omega)).mono ?_;rw [HQA.out.2];rintro e w10 hs10;have hb10:=hs10.below (B:=w0.heap.size) (by have:=HGG.out;have:=HB6s.out;omega);rw [Nat.min_eq_left HB9.out.size] at hb10;obtain ⟨rfl,hr10,hk10,hz10,-⟩:=hs10;have HR10:=am hr10;have HB10:=am (HB9.out.trans hb10);have HP10:=am ((hk10 P (blk_lt HP9.out) (by have:=HPN.out;have:=HGG.out;have:=HB6s.out;omega)).trans HP9.out);have HO10:=am (Kd.R_step HO9t.out (fun k hk hl=>hk10 k hl hk.2));have HZ10:=am hz10;clear hr10 hk10 hz10 hb10))
     rw [rounds_succ]
     have hcB0:=HRS0.out w12 HB12.out
     by_cases h1:d.length=1
     ·have h1b:((d.length:Int)==1)=true:=beq_iff_eq.2 (by omega)
      have HE1:=am h1
      clear h1 hix0 hix1;go_wp2
      have hp0:=kC HP12 0
      have hp1:=kC HP12 1
      obtain ⟨X,hX⟩:∃ X,Ht.ixB [⟨0,1⟩,⟨bd,2⟩]=X:=⟨_,rfl⟩
      obtain ⟨kx,hkx⟩:=(Ht.ix_ev [⟨0,1⟩,⟨bd,2⟩] (by simp) (fun r hr=>by
       have:=HBD.out
       rcases List.mem_cons.1 hr with rfl|hr
       ·exact ⟨⟨by decide,by decide⟩,by decide,by decide⟩
       ·obtain rfl:=List.mem_singleton.1 hr
        exact ⟨HBD.out,by simp,by simp⟩)).rounds
      rw [hX] at hkx
      have HKX:=am hkx
      have HX:=am hX
      have HROW:=am (show ∀ W:World,Kd.C k76 (W.alloc (.cells #[.int .u32 0,.int .i64 1,.int .u32 bd,.int .i64 2] 76)) (some ⟨W.heap.size,0,none⟩) 2 ([⟨0,1⟩,⟨bd,2⟩]:List S76) from fun W =>
       (Kd.R_reads' (RwR.flat_R (ok:=fun _=>True) (World.ownsRow_lit (size:=2) W #[.int .u32 0,.int .i64 1,.int .u32 bd,.int .i64 2] 2 (Nat.le_refl _) (by decide) rfl) (fun _ _=>trivial):Kd.R k76 76 _ _ _ _ ([⟨0,1⟩,⟨bd,2⟩]:List S76))).2.2)
      have hcx:=htree_index.calls kx (some ⟨w12.heap.size,0,none⟩) 2 [⟨0,1⟩,⟨bd,2⟩] X _ (Kd.C_drew (HROW.out w12)) (by simp) hkx
      rw [show ([⟨0,1⟩,⟨bd,2⟩]:List S76).length=2 from rfl] at hcx
      have HCX:=am hcx
      have hb0:=below_drew1 (Below.refl w12.heap.size w12)
      clear hkx hX hcB0 hcx
      refine start_ (n:=12) (S:=fun w'=>Below w12.heap.size w12 w'∧w'.cell? ⟨P,0,none⟩=some (.slice A8 eb0.length c8)∧w'.cell? ⟨P,1,none⟩=some (.slice A11 eb1.length c11)) (ds:=[]) _ (by kernel_rfl) rfl rfl ⟨hb0,hp0,hp1⟩ (fun hHeld=>?_)
      refine pK 0 69 ?_;refine pK 1 70 ?_;refine pK 2 71 ?_;refine pK 5 74 ?_;refine pK 7 76 ?_;refine tK 6 75 hHeld ?_ (hy:=by rintro w' ⟨s0,s1,s2⟩;go_simp;with_reducible rfl);refine tK 8 77 hHeld ?_ (hy:=by rintro w' ⟨s0,s1,s2⟩;go_simp;with_reducible rfl)
      refine oK 3 (some 72) (fun K hK=>?_)
      refine value_ (w1:=?_) (v:=?_) (by rfl) rfl ?_ ?_
      rotate_left 2
      ·go_simp
       constructor;(rfl);(rfl)
      refine hK.out _ _ ⟨hHeld.1.alloc hHeld.1.size _,(World.cell?_alloc_lt _ _ _ (World.block_lt_of_cell? _ _ hHeld.2.1)).trans hHeld.2.1,(World.cell?_alloc_lt _ _ _ (World.block_lt_of_cell? _ _ hHeld.2.2)).trans hHeld.2.2⟩ (fun hHeld=>?_)
      clear hK K;refine norm_ (a':=?_) ?_ ?_;rotate_left
      ·show Act.put _ (some 72) _=_
       simp only [Act.put,sIb,sC0,sCs,i64_w,i32_w];rfl
      refine oK 4 (some 73) (fun K hK=>?_)
      refine gS Try.func55 #[.slice (some ⟨w12.heap.size,0,none⟩) 2 2] ?_
      with_reducible refine (HCX.out).mono ?_
      rintro e13 w13 ⟨v13,rfl,ho13,hb13⟩
      refine ⟨_,rfl,?_⟩
      obtain ⟨A13,c13,rfl,-⟩:=Kd.R_reads ho13
      have HO13:=am (show Kd.R (Kd.int .u8) 5 w13 w12.heap.size (fun k=>w12.heap.size≤k) (.slice A13 X.length c13) X from Kd.R_mono (Kd.R_bound (Kd.R_lower ho13 (by simp [World.drew]))) (fun k hk=>hk.2.1))
      have hb13a:=below_drew1 ((Below.refl w12.heap.size w12).alloc (Nat.le_refl _) (.cells #[.int .u32 0,.int .i64 1,.int .u32 bd,.int .i64 2] 76))
      have hb13w:=hb13a.trans (hb13.mono hb13a.size)
      have HB13:=am hb13w
      clear ho13
      refine hK.out _ _ ⟨hb13w,(hb13w.cell (World.block_lt_of_cell? _ _ hp0)).trans hp0,(hb13w.cell (World.block_lt_of_cell? _ _ hp1)).trans hp1⟩ (fun hHeld=>?_)
      clear hK K;refine norm_ (a':=?_) ?_ ?_;rotate_left
      ·show Act.put _ (some 73) _=_
       simp only [Act.put,sIb,sC0,sCs,i64_w,i32_w];rfl
      refine oK 9 (some 78) (fun K hK=>?_)
      refine Kd.S_lits_step kRw (w0:=w0) w0.heap.size 66 ?hg (N:=78) ?hd (xs:=[X,eb0,eb1]) (inner:=[.slice A13 X.length c13,.slice A8 eb0.length c8,.slice A11 eb1.length c11]) (ok:=fun _=>True) (fun j k=>(j=0∧w12.heap.size≤k)∨(j=1∧k < w10.heap.size)∨(j=2∧w10.heap.size≤k∧k < w12.heap.size)) ?hr rfl ?hp (fun i j k h1 h2=>by have:=HZ12.out;omega) (fun _ _ _=>trivial) trivial (HB12.out.trans (HB13.out.mono HB12.out.size)) (HB12.out.trans (HB13.out.mono HB12.out.size)).size (by simp) ?_;(case hd=>rfl);(case hg=>rfl);(case hr=>first|(go_simp;done)|(go_simp;rfl));(case hp=>exact lits_three HO13.out (Kd.R_below HO12a.out HB13.out) (Kd.R_below HO12b.out HB13.out) HB12.out.size HZ12.out HB7.out.size HB10.out.size (fun k hk=>Kd.R_lt HO12b.out k hk))
      intro v14 w14 ho14 hb14 hg14 hat14
      have HO14:=am ho14
      have HB14:=am hb14
      have hb14w:=HB13.out.grown hg14 HB13.out.size (fun k hk=>by cases hk)
      clear ho14 hb14 hat14
      refine hK.out _ _ ⟨hb14w,(hb14w.cell (World.block_lt_of_cell? _ _ hp0)).trans hp0,(hb14w.cell (World.block_lt_of_cell? _ _ hp1)).trans hp1⟩ (fun hHeld=>?_)
      clear hK K;refine norm_ (a':=?_) ?_ ?_;rotate_left
      ·show Act.put _ (some 78) _=_
       simp only [Act.put,sIb,sC0,sCs,i64_w,i32_w];rfl
      refine pK 10 6 ?_;refine pK 11 7 ?_
      refine done_ (by kernel_rfl) ?_
      clear hHeld;go_wp2
      go_ret2
      rw [splitP_some HS.out HC.out HN30.out (by rw [HPA.out.1,HQA.out.1,HEE.out.1]) (by rw [HPA.out.2,HQA.out.2,HEE.out.2]),if_neg (by simp),if_neg (by simp),if_pos HE1.out,HNM2.out,HBD2.out,HX.out]
      exact ⟨_,rfl,HO14.out,HB14.out⟩
     ·have h1b:((d.length:Int)==1)=false:=beq_eq_false_iff_ne.2 (by omega)
      have HE1:=am h1
      clear h1 hix0 hix1;go_wp2
      have hp0:=kC HP12 0
      have hp1:=kC HP12 1
      obtain ⟨kc,hkc⟩:=(Ht.copied_ev d (by have:=HDL.out.1;omega) HDL.out.2).rounds
      have HKC:=am hkc
      have HDP:=am (show 1 < d.length by
       have h1:=HRS.out.low
       have h2:=HE1.out
       rcases Nat.lt_or_ge 1 d.length with h|h
       ·exact h
       ·exfalso
        have h3:rs≠[]:=fun e=>by rw [e] at h1;simp at h1
        have h4:=HRS.out.blk _ (List.head_mem h3)
        omega)
      have haln:a < rs.length:=HA.out
      obtain ⟨bn,hbn⟩:∃ bn:Nat,rs[a].f1=(bn:Int):=⟨rs[a].f1.toNat,by have:=(HRS.out.blk rs[a] (List.getElem_mem HA.out)).1;omega⟩
      have HBN:=am (⟨hbn,by have:=(HRS.out.blk rs[a] (List.getElem_mem HA.out)).2;omega⟩:rs[a].f1=(bn:Int)∧bn < d.length)
      have hb0:=below_drew1 (Below.refl w12.heap.size w12)
      have HV11:=am (Kd.R_mono (ok':=fun k=>w10.heap.size≤k∧k < w12.heap.size) (Kd.R_bound (Kd.R_lower (base':=w0.heap.size) HO12b.out HB10.out.size)) (fun k hk=>⟨hk.1,hk.2.2.1⟩))
      have HV8:=am (show ∀ k,(Value.slice A8 eb0.length c8).ownBlock=some k→k < w10.heap.size from fun k hk=>HO12a.out.1 k hk)
      have hcB0':=hcB0
      clear hkc hbn
      refine start_ (n:=10) (S:=fun w'=>Below w0.heap.size w0 w'∧w'.cell? ⟨B,0,none⟩=some (.slice A0 d.length c0)∧w'.cell? ⟨P,1,none⟩=some (.slice A11 eb1.length c11)) (ds:=[]) _ (by kernel_rfl) rfl rfl ⟨below_drew1 HB12.out,hcB0,hp1⟩ (fun hHeld=>?_)
      refine pK 0 79 ?_;refine pK 1 80 ?_;refine pK 2 81 ?_;refine pK 5 84 ?_;refine tK 3 82 hHeld ?_ (hy:=by rintro w' ⟨s0,s1,s2⟩;go_simp;with_reducible rfl);refine tK 6 85 hHeld ?_ (hy:=by rintro w' ⟨s0,s1,s2⟩;go_simp;with_reducible rfl)
      refine join_ (σ:=Value×Nat) 2 #[true,true,true,true,true,true,true,true,false,false] (fun s_=>[(83,s_.1),(86,.slice (some ⟨s_.2,0,none⟩) 1 1)]) (fun s_ w'=>(Below w0.heap.size w0 w'∧w'.cell? ⟨B,0,none⟩=some (.slice A0 d.length c0)∧w'.cell? ⟨P,1,none⟩=some (.slice A11 eb1.length c11))∧Kd.S kRw 66 w' w0.heap.size (fun k=>w12.heap.size≤k) s_.1 d∧w'.heap[s_.2]? = some (.cells #[.slice A11 eb1.length c11] 66 (0,0))∧Below w12.heap.size w12 w') ?_ ?_
      rotate_left
      ·intro hCont
       refine two_ (i:=4) (j:=7) (Ni:=some 83) (Nj:=some 86) #[true,true,true,true,true,true,true,false,false,false] #[true,true,true,true,false,true,true,true,false,false] rfl rfl rfl rfl (by kernel_rfl) (by decide) (by decide) (fun K hK=>?_) (fun K hK=>?_)
       ·skip
        refine gS Try.func52 #[.slice A0 d.length c0] ?_
        with_reducible refine (htree_copied.calls kc A0 c0 d d _ (Kd.C_drew (Kd.C_below HR0.out HB12.out)) HC0.out HKC.out).mono ?_
        rintro e13 w13 ⟨v13,rfl,ho13,hb13⟩
        refine ⟨_,rfl,?_⟩
        have hO13:Kd.S kRw 66 w13 w0.heap.size (fun k=>w12.heap.size≤k) v13 d:=Kd.S_mono (Kd.S_lower (Kd.S_bound ho13) HB12.out.size) (fun k hk=>hk.2.1)
        have hB12:=hb0.trans (hb13.mono hb0.size)
        refine hK.out _ _ ⟨HB12.out.trans (hB12.mono HB12.out.size),HRS0.out _ (HB12.out.trans (hB12.mono HB12.out.size)),(hB12.cell (World.block_lt_of_cell? _ _ hp1)).trans hp1⟩ (fun hHeld=>?_)
        clear hK K;refine norm_ (a':=?_) ?_ ?_;rotate_left
        ·show Act.put _ (some 83) _=_
         simp only [Act.put,sIb,sC0,sCs,i64_w,i32_w];rfl
        refine oK 7 (some 86) (fun K hK=>?_)
        refine value_ (w1:=?_) (v:=?_) (by rfl) rfl ?_ ?_
        rotate_left 2
        ·go_simp
         constructor;(rfl);(rfl)
        have hO14:=Kd.S_alloc hO13 (.cells #[.slice A11 eb1.length c11] 66)
        have hV14:=blk_new w13 (.cells #[.slice A11 eb1.length c11] 66)
        have hB14:=hB12.alloc hB12.size (.cells #[.slice A11 eb1.length c11] 66)
        refine hK.out _ _ ⟨hHeld.1.alloc hHeld.1.size _,(World.cell?_alloc_lt _ _ _ (World.block_lt_of_cell? _ _ hHeld.2.1)).trans hHeld.2.1,(World.cell?_alloc_lt _ _ _ (World.block_lt_of_cell? _ _ hHeld.2.2)).trans hHeld.2.2⟩ (fun hHeld=>?_)
        clear hK K;refine norm_ (a':=?_) ?_ ?_;rotate_left
        ·show Act.put _ (some 86) _=_
         simp only [Act.put,sIb,sC0,sCs,i64_w,i32_w];rfl
        exact norm_ (by simp only [putAll,Act.put,List.setIfInBounds_toArray,List.set_cons_zero,List.set_cons_succ]) (hCont (v13,w13.heap.size) _ ⟨hHeld,hO14,hV14,hB14⟩)
       ·skip
        refine value_ (w1:=?_) (v:=?_) (by rfl) rfl ?_ ?_
        rotate_left 2
        ·go_simp
         constructor;(rfl);(rfl)
        have hbv:=below_drew1 ((Below.refl w12.heap.size w12).alloc (Nat.le_refl _) (.cells #[.slice A11 eb1.length c11] 66))
        have hVV:=blk_drew (blk_new w12 (.cells #[.slice A11 eb1.length c11] 66))
        refine hK.out _ _ ⟨hHeld.1.alloc hHeld.1.size _,(World.cell?_alloc_lt _ _ _ (World.block_lt_of_cell? _ _ hHeld.2.1)).trans hHeld.2.1,(World.cell?_alloc_lt _ _ _ (World.block_lt_of_cell? _ _ hHeld.2.2)).trans hHeld.2.2⟩ (fun hHeld=>?_)
        clear hK K;refine norm_ (a':=?_) ?_ ?_;rotate_left
        ·show Act.put _ (some 86) _=_
         simp only [Act.put,sIb,sC0,sCs,i64_w,i32_w];rfl
        refine oK 4 (some 83) (fun K hK=>?_)
        refine gS Try.func52 #[.slice A0 d.length c0] ?_
        with_reducible refine (htree_copied.calls kc A0 c0 d d _ (Kd.C_below (Kd.C_below HR0.out HB12.out) hbv) HC0.out HKC.out).mono ?_
        rintro e13 w13 ⟨v13,rfl,ho13,hb13⟩
        refine ⟨_,rfl,?_⟩
        have hO14:Kd.S kRw 66 w13 w0.heap.size (fun k=>w12.heap.size≤k) v13 d:=Kd.S_mono (Kd.S_lower (Kd.S_bound ho13) (Nat.le_trans HB12.out.size hbv.size)) (fun k hk=>Nat.le_trans hbv.size hk.2.1)
        have hV14:=blk_below hVV hb13
        have hB12:=hbv.trans (hb13.mono hbv.size)
        have hB14:=hB12
        refine hK.out _ _ ⟨HB12.out.trans (hB12.mono HB12.out.size),HRS0.out _ (HB12.out.trans (hB12.mono HB12.out.size)),(hB12.cell (World.block_lt_of_cell? _ _ hp1)).trans hp1⟩ (fun hHeld=>?_)
        clear hK K;refine norm_ (a':=?_) ?_ ?_;rotate_left
        ·show Act.put _ (some 83) _=_
         simp only [Act.put,sIb,sC0,sCs,i64_w,i32_w];rfl
        exact norm_ (by simp only [putAll,Act.put,List.setIfInBounds_toArray,List.set_cons_zero,List.set_cons_succ]) (hCont (v13,w12.heap.size) _ ⟨hHeld,hO14,hV14,hB14⟩)
      rintro ⟨v13,vb⟩ w13 ⟨hHeld,hO14,hV14,hB14⟩
      have HO13:=am hO14
      have HVB:=am hV14
      have HB13:=am hB14
      have HOB:=am (show ∀ k,v13.ownBlock=some k→w12.heap.size≤k from fun k hk=>(Kd.S_R hO14).1 k hk)
      dsimp only at HO13 HVB HB13
      clear hO14 hV14 hB14;refine norm_ (a':=?_) ?_ ?_;rotate_left;(simp only [putAll,Act.put,List.setIfInBounds_toArray,List.set_cons_zero,List.set_cons_succ];rfl)
      refine oK 8 (some 87) (fun K hK=>?_)
      refine S_append_at_step (w0:=w0) w0.heap.size (by rfl) (.tmp 83) (.tmp 86) rfl v13 d eb1 (.slice A11 eb1.length c11) vb (fun k=>some k≠(Value.slice A8 eb0.length c8).ownBlock) (fun k=>w10.heap.size≤k∧k < w12.heap.size) rfl rfl HVB.out (Kd.R_below HV11.out HB13.out) (fun k hk=>⟨fun ee=>by have:=HV8.out k ee.symm;omega,fun ee=>by have:=HOB.out k ee.symm;omega⟩) (fun k hk ee=>by have:=HV8.out k ee.symm;have:=HZ12.out;have:=HB13.out.size;omega) (Kd.S_mono HO13.out (fun k hk=>⟨fun ee=>by have:=HV8.out k ee.symm;have:=HZ12.out;omega,fun h=>by omega⟩)) hHeld.1 hHeld.1.size (by have:=HDL.out.1;omega) ?_
      intro v14 w14 ho14 hb14 hg14
      have hP14:=blk_grown (blk_below HP12.out HB13.out) hg14 (Kd.S_ne HO13.out (blk_below HP12.out HB13.out) (by decide))
      have HP14:=am hP14
      have HO14:=am ho14
      have HB14:=am hb14
      have HV14:=am (Kd.R_over' (Kd.R_below HO12a.out HB13.out) (Kd.S_typed HO13.out) (by decide) hg14)
      clear ho14 hg14
      refine hK.out _ _ ⟨hb14,HRS0.out _ hb14,(blk_cell hP14 1).trans rfl⟩ (fun hHeld=>?_)
      clear hK K;refine norm_ (a':=?_) ?_ ?_;rotate_left
      ·show Act.put _ (some 87) _=_
       simp only [Act.put,sIb,sC0,sCs,i64_w,i32_w];rfl
      refine pK 9 15 ?_
      refine done_ (by kernel_rfl) ?_
      clear hHeld hP14 hb14 hp0 hp1 hcB0 hcB0' hb0
      go_wp2
      have hcB1:=HRS1.out w14 HB14.out
      have hp0:=kC HP14 0
      obtain ⟨ad,ead,-,hcr⟩:=at_T76 (Kd.C_below HT2.out HB14.out) (a:Int) (by omega) (by have:=HA.out;omega)
      cases ead
      rw [Int.toNat_natCast,Ht.rdR_get HA.out,HBN.out.1] at hcr
      obtain ⟨g14,c14,ev14,-⟩:=Kd.S_form HO14.out (by simp)
      rw [List.length_append,List.length_singleton] at ev14
      subst ev14
      obtain ⟨hrs15,⟨v0,hc14⟩,hf14⟩:=rows_set (i:=bn) (Kd.S_drew HO14.out) (Kd.R_drew (Kd.R_mono (ok':=fun _=>True) (Kd.R_lower (base':=w0.heap.size) HV14.out HB7.out.size) (fun _ _=>trivial))) (by have:=HBN.out.2;omega)
      have HRS15:=am (show Kd.S kRw 66 (w14.setCell ⟨g14,bn,none⟩ (.slice A8 eb0.length c8)).drew w0.heap.size (fun _=>True) (.slice (some ⟨g14,0,none⟩) (d.length+1) c14) ((d++[eb1]).set bn eb0) from hrs15)
      have hbnl:(bn:Int) < (d.length:Int)+1:=by have:=HBN.out.2;omega
      have HG14:=am (show w0.heap.size≤g14 from Kd.S_base HO14.out g14 rfl)
      clear hrs15
      refine start_ (n:=13) (S:=fun w'=>w'.cell? ⟨B,1,none⟩=some (.slice (some ad) rs.length c1)∧w'.cell? ⟨(ad.add (a*2)).block,(ad.add (a*2)).off+1,none⟩=some (.int .i64 (bn:Int))∧w'.cell? ⟨P,0,none⟩=some (.slice A8 eb0.length c8)) (ds:=[12]) _ (by kernel_rfl) rfl rfl ⟨hcB1,hcr,hp0⟩ (fun hHeld=>?_)
      refine pK 0 88 ?_;refine pK 1 89 ?_;refine pK 2 90 ?_;refine pK 3 91 ?_;refine pK 5 93 ?_;refine pK 9 97 ?_;refine tK 4 92 hHeld ?_ (hy:=by rintro w' ⟨s0,s1,s2⟩;go_simp;with_reducible rfl);refine pK 6 94 ?_;refine pK 7 95 ?_;refine tK 8 96 hHeld ?_ (hy:=by rintro w' ⟨s0,s1,s2⟩;go_simp;with_reducible rfl);refine tK 10 98 hHeld ?_ (hy:=by rintro w' ⟨s0,s1,s2⟩;go_simp;with_reducible rfl);refine pK 11 99 ?_
      refine last_ (i:=12) (N:=none) #[true,true,true,true,true,true,true,true,true,true,true,true,true] rfl rfl (by kernel_rfl) (by decide) (fun K hK=>?_)
      refine skip_ (w1:=?_) (by rfl) rfl ?_ ?_
      rotate_left;(go_simp;rfl);refine hK.out _ _ ?_;clear hK K
      refine done_ (by kernel_rfl) ?_
      clear hHeld hc14 hf14 hcr hp0 hcB1 hbnl
      have HB15:=am (show Below w0.heap.size w0 (w14.setCell ⟨g14,bn,none⟩ (.slice A8 eb0.length c8)).drew from below_drew1 (HB14.out.setCell (p:=⟨g14,bn,none⟩) HG14.out _))
      generalize (w14.setCell ⟨g14,bn,none⟩ (.slice A8 eb0.length c8)).drew=w15 at HRS15 HB15 ⊢
      go_wp2
      have hcB1:=HRS1.out w15 HB15.out
      have hcB0:=HRS0.out w15 HB15.out
      obtain ⟨a1,ha1⟩:∃ a1,a+1=a1:=⟨_,rfl⟩
      have hwa:wrap64 ((a:Int)+1)=(a1:Int):=by have:=HRS.out.high;unfold wrap64;omega
      have HA1:=am ha1
      have HWA:=am hwa
      clear hwa
      have HCLR:=am (show htree_row_57.f rs=some rs by unfold htree_row_57.f;rw [if_pos (by have:=HRS.out.high;omega)])
      obtain ⟨X,hX⟩:∃ X,Ht.ixB (rs.take a1++⟨bd,(d.length:Int)⟩::rs.drop a1)=X:=⟨_,rfl⟩
      obtain ⟨L2,hL2⟩:∃ L2,rs.take a1++(⟨bd,(d.length:Int)⟩:S76)::rs.drop a1=L2:=⟨_,rfl⟩
      obtain ⟨kx,hkx⟩:=(Ht.ix_ev L2 (by rw [← hL2,List.length_append,List.length_cons,List.length_take,List.length_drop];have:=HRS.out.high;have:=HN30.out;omega) (fun r hr=>by
       rw [← hL2] at hr
       have hd1:=HDL.out.1
       have hin:∀ r∈rs,(0≤r.f0∧r.f0 < 4294967296)∧0≤r.f1∧r.f1 < 4294967296:=fun r hr=>⟨HRS.out.num r hr,by have:=HRS.out.blk r hr;omega⟩
       rcases List.mem_append.1 hr with hr|hr
       ·exact hin r (List.mem_of_mem_take hr)
       ·rcases List.mem_cons.1 hr with rfl|hr
        ·exact ⟨HBD.out,by show 0≤(d.length:Int)∧(d.length:Int) < 4294967296;omega⟩
        ·exact hin r (List.mem_of_mem_drop hr))).rounds
      rw [hL2] at hX
      rw [hX] at hkx
      have HKX:=am hkx
      have HX:=am hX
      have HL2:=am hL2
      have hb0:=below_drew1 (Below.refl w15.heap.size w15)
      have HRD:=am (Kd.C_below HT2.out HB15.out)
      clear hkx hX hL2 ha1
      refine start_ (n:=20) (S:=fun w'=>Below w0.heap.size w0 w'∧w'.cell? ⟨B,0,none⟩=some (.slice A0 d.length c0)∧w'.cell? ⟨B,1,none⟩=some (.slice (some ad) rs.length c1)) (ds:=[19]) _ (by kernel_rfl) rfl rfl ⟨below_drew1 HB15.out,hcB0,hcB1⟩ (fun hHeld=>?_)
      refine pK 0 100 ?_;refine pK 1 101 ?_;refine pK 2 102 ?_;refine pK 3 103 ?_;refine pK 6 106 ?_;refine pK 7 107 ?_;refine pK 8 108 ?_;refine pK 9 109 ?_;refine pK 10 110 ?_;refine pK 11 111 ?_;refine tK 4 104 hHeld ?_ (hy:=by rintro w' ⟨s0,s1,s2⟩;go_simp;with_reducible rfl);refine tK 12 112 hHeld ?_ (hy:=by rintro w' ⟨s0,s1,s2⟩;go_simp;with_reducible rfl);refine pK 13 113 ?_;refine pK 14 114 ?_
      refine join_ (σ:=Value×Nat) 4 #[true,true,true,true,true,true,true,true,true,true,true,true,true,true,true,true,false,false,false,false] (fun s_=>[(105,s_.1),(115,.slice (some ⟨s_.2,0,none⟩) 1 1)]) (fun s_ w'=>(Below w0.heap.size w0 w'∧w'.cell? ⟨B,0,none⟩=some (.slice A0 d.length c0)∧w'.cell? ⟨B,1,none⟩=some (.slice (some ad) rs.length c1))∧Kd.R k76 76 w' w15.heap.size (fun _=>True) s_.1 rs∧w'.heap[s_.2]? = some (.cells #[.int .u32 bd,.int .i64 (d.length:Int)] 76 (0,0))∧(∀ g,s_.1.ownBlock=some g→g≠s_.2)∧Below w15.heap.size w15 w') ?_ ?_
      rotate_left
      ·intro hCont
       refine two_ (i:=5) (j:=15) (Ni:=some 105) (Nj:=some 115) #[true,true,true,true,true,true,true,true,true,true,true,true,true,true,true,false,false,false,false,false] #[true,true,true,true,true,false,true,true,true,true,true,true,true,true,true,true,false,false,false,false] rfl rfl rfl rfl (by kernel_rfl) (by decide) (by decide) (fun K hK=>?_) (fun K hK=>?_)
       ·skip
        refine gS Try.func57 #[.slice (some ad) rs.length c1] ?_
        with_reducible refine (htree_row_57.calls (some ad) c1 rs rs _ (Kd.C_drew HRD.out) HT3.out HCLR.out).mono ?_
        rintro e16 w16 ⟨v16,rfl,ho16,hb16⟩
        refine ⟨_,rfl,?_⟩
        have hO16:Kd.R k76 76 w16 w15.heap.size (fun _=>True) v16 rs:=ho16
        have hB16:=hb0.trans (hb16.mono hb0.size)
        refine hK.out _ _ ⟨HB15.out.trans (hB16.mono HB15.out.size),HRS0.out _ (HB15.out.trans (hB16.mono HB15.out.size)),HRS1.out _ (HB15.out.trans (hB16.mono HB15.out.size))⟩ (fun hHeld=>?_)
        clear hK K;refine norm_ (a':=?_) ?_ ?_;rotate_left
        ·show Act.put _ (some 105) _=_
         simp only [Act.put,sIb,sC0,sCs,i64_w,i32_w];rfl
        refine oK 15 (some 115) (fun K hK=>?_)
        refine value_ (w1:=?_) (v:=?_) (by rfl) rfl ?_ ?_
        rotate_left 2
        ·go_simp
         constructor;(rfl);(rfl)
        have hO17:=Kd.R_alloc hO16 (.cells #[.int .u32 bd,.int .i64 (d.length:Int)] 76)
        have hV17:=blk_new w16 (.cells #[.int .u32 bd,.int .i64 (d.length:Int)] 76)
        have hN17:∀ g,v16.ownBlock=some g→g≠w16.heap.size:=fun g hg=>Nat.ne_of_lt (Kd.R_lt hO16 g hg)
        have hB17:=hB16.alloc hB16.size (.cells #[.int .u32 bd,.int .i64 (d.length:Int)] 76)
        refine hK.out _ _ ⟨hHeld.1.alloc hHeld.1.size _,(World.cell?_alloc_lt _ _ _ (World.block_lt_of_cell? _ _ hHeld.2.1)).trans hHeld.2.1,(World.cell?_alloc_lt _ _ _ (World.block_lt_of_cell? _ _ hHeld.2.2)).trans hHeld.2.2⟩ (fun hHeld=>?_)
        clear hK K;refine norm_ (a':=?_) ?_ ?_;rotate_left
        ·show Act.put _ (some 115) _=_
         simp only [Act.put,sIb,sC0,sCs,i64_w,i32_w];rfl
        exact norm_ (by simp only [putAll,Act.put,List.setIfInBounds_toArray,List.set_cons_zero,List.set_cons_succ]) (hCont (v16,w16.heap.size) _ ⟨hHeld,hO17,hV17,hN17,hB17⟩)
       ·skip
        refine value_ (w1:=?_) (v:=?_) (by rfl) rfl ?_ ?_
        rotate_left 2
        ·go_simp
         constructor;(rfl);(rfl)
        have hbv:=below_drew1 ((Below.refl w15.heap.size w15).alloc (Nat.le_refl _) (.cells #[.int .u32 bd,.int .i64 (d.length:Int)] 76))
        have hVV:=blk_drew (blk_new w15 (.cells #[.int .u32 bd,.int .i64 (d.length:Int)] 76))
        refine hK.out _ _ ⟨hHeld.1.alloc hHeld.1.size _,(World.cell?_alloc_lt _ _ _ (World.block_lt_of_cell? _ _ hHeld.2.1)).trans hHeld.2.1,(World.cell?_alloc_lt _ _ _ (World.block_lt_of_cell? _ _ hHeld.2.2)).trans hHeld.2.2⟩ (fun hHeld=>?_)
        clear hK K;refine norm_ (a':=?_) ?_ ?_;rotate_left
        ·show Act.put _ (some 115) _=_
         simp only [Act.put,sIb,sC0,sCs,i64_w,i32_w];rfl
        refine oK 5 (some 105) (fun K hK=>?_)
        refine gS Try.func57 #[.slice (some ad) rs.length c1] ?_
        with_reducible refine (htree_row_57.calls (some ad) c1 rs rs _ (Kd.C_below HT2.out (HB15.out.trans (hbv.mono HB15.out.size))) HT3.out HCLR.out).mono ?_
        rintro e16 w16 ⟨v16,rfl,ho16,hb16⟩
        refine ⟨_,rfl,?_⟩
        have hO17:Kd.R k76 76 w16 w15.heap.size (fun _=>True) v16 rs:=Kd.R_lower ho16 hbv.size
        have hV17:=blk_below hVV hb16
        have hN17:∀ g,v16.ownBlock=some g→g≠w15.heap.size:=fun g hg=>Nat.ne_of_gt (Nat.lt_of_lt_of_le (blk_lt hVV) (Kd.R_base ho16 g hg))
        have hB16:=hbv.trans (hb16.mono hbv.size)
        have hB17:=hB16
        refine hK.out _ _ ⟨HB15.out.trans (hB16.mono HB15.out.size),HRS0.out _ (HB15.out.trans (hB16.mono HB15.out.size)),HRS1.out _ (HB15.out.trans (hB16.mono HB15.out.size))⟩ (fun hHeld=>?_)
        clear hK K;refine norm_ (a':=?_) ?_ ?_;rotate_left
        ·show Act.put _ (some 105) _=_
         simp only [Act.put,sIb,sC0,sCs,i64_w,i32_w];rfl
        exact norm_ (by simp only [putAll,Act.put,List.setIfInBounds_toArray,List.set_cons_zero,List.set_cons_succ]) (hCont (v16,w15.heap.size) _ ⟨hHeld,hO17,hV17,hN17,hB17⟩)
      rintro ⟨v16,vb⟩ w16 ⟨hHeld,hO17,hV17,hN17,hB17⟩
      have HO16:=am hO17
      have HVB:=am hV17
      have HNE:=am hN17
      have HB16:=am hB17
      dsimp only at HO16 HVB HNE HB16
      clear hO17 hV17 hN17 hB17;refine norm_ (a':=?_) ?_ ?_;rotate_left;(simp only [putAll,Act.put,List.setIfInBounds_toArray,List.set_cons_zero,List.set_cons_succ];rfl)
      refine oK 16 (some 116) (fun K hK=>?_)
      refine gS Try.func56 #[v16,.int .i64 (wrap64 ((a:Int)+1)),.slice (some ⟨vb,0,none⟩) 1 1] ?_
      rw [HWA.out]
      with_reducible refine (insR_calls w16 w15.heap.size v16 rs ⟨bd,(d.length:Int)⟩ vb a1 rs.length rfl HO16.out HVB.out HNE.out HB16.out.size (by have:=HA1.out;have:=HA.out;omega) (by have:=HRS.out.high;omega)).mono ?_
      rintro e17 w17 ⟨v17,rfl,ho17,hb17⟩
      refine ⟨_,rfl,?_⟩
      rw [HL2.out] at ho17
      obtain ⟨A17,c17,rfl,-⟩:=Kd.R_reads ho17
      have HO17:=am ho17
      have hb17w:=HB16.out.trans hb17
      have HB17:=am hb17w
      have hbw17:=HB15.out.trans (hb17w.mono HB15.out.size)
      clear ho17 hb17
      refine hK.out _ _ ⟨hbw17,HRS0.out _ hbw17,HRS1.out _ hbw17⟩ (fun hHeld=>?_)
      clear hK K;refine norm_ (a':=?_) ?_ ?_;rotate_left
      ·show Act.put _ (some 116) _=_
       simp only [Act.put,sIb,sC0,sCs,i64_w,i32_w];rfl
      refine oK 17 (some 117) (fun K hK=>?_)
      refine gS Try.func55 #[.slice A17 L2.length c17] ?_
      with_reducible refine (htree_index.calls kx A17 c17 L2 X _ (Kd.R_reads' HO17.out).2.2 (Kd.R_reads' HO17.out).2.1 HKX.out).mono ?_
      rintro e18 w18 ⟨v18,rfl,ho18,hb18⟩
      refine ⟨_,rfl,?_⟩
      obtain ⟨A18,c18,rfl,-⟩:=Kd.R_reads ho18
      have HO18:=am ho18
      have HW18:=am hb18
      have hbw18:=hbw17.trans (hb18.mono hbw17.size)
      have HB18:=am hbw18
      obtain ⟨hrs19,⟨v0',hc19⟩,hf19⟩:=rows_set (i:=0) (Kd.S_mono (Kd.S_elder' (Kd.S_below HRS15.out HB17.out) (fun k hk=>Kd.R_base HO18.out k hk) HW18.out) (fun k hk=>hk.2)) (Kd.R_mono (ok':=fun _=>True) (Kd.R_lower (base':=w0.heap.size) HO18.out hbw17.size) (fun _ _=>trivial)) (Nat.succ_pos _)
      have HRS19:=am hrs19
      clear ho18 hb18 hrs19
      refine hK.out _ _ ⟨hbw18,HRS0.out _ hbw18,HRS1.out _ hbw18⟩ (fun hHeld=>?_)
      clear hK K;refine norm_ (a':=?_) ?_ ?_;rotate_left
      ·show Act.put _ (some 117) _=_
       simp only [Act.put,sIb,sC0,sCs,i64_w,i32_w];rfl
      refine pK 18 118 ?_
      refine last_ (i:=19) (N:=none) #[true,true,true,true,true,true,true,true,true,true,true,true,true,true,true,true,true,true,true,true] rfl rfl (by kernel_rfl) (by decide) (fun K hK=>?_)
      refine skip_ (w1:=?_) (by rfl) rfl ?_ ?_
      rotate_left;(go_simp;rfl);refine hK.out _ _ ?_;clear hK K
      refine done_ (by kernel_rfl) ?_
      clear hHeld;go_wp2
      go_ret2
      rw [splitP_some HS.out HC.out HN30.out (by rw [HPA.out.1,HQA.out.1,HEE.out.1]) (by rw [HPA.out.2,HQA.out.2,HEE.out.2]),if_neg (by simp),if_neg (by simp),if_neg HE1.out,HNM2.out,HBD2.out,HA1.out,HL2.out,HX.out,Ht.getD_at HA.out,HBN.out.1,Int.toNat_natCast]
      exact ⟨_,rfl,HRS19.out,HB18.out.setCell (p:=⟨g14,0,none⟩) HG14.out _⟩
    ·have h1b:(e1 != 0)=true:=bne_iff_ne.2 h01
     have HE01:=am h01
     clear h01
     go_wp2_with (first|(go_at_call 24;have hec:=leaf_Encode.calls ke1 (some ⟨g7,0,none⟩) c7 qb eb1 _ w10 (by have h:=Kd.R_reads' HR10.out;exact h.2.2) (by have h:=Kd.R_reads' HR10.out;have:=h.1;have:=h.2.1;have:=HQL.out;omega) HKE.out.2;rw [HQL.out.2] at hec;refine hec.mono ?_;rintro e w11 ⟨v11,rfl,ho11,hb11⟩;obtain ⟨A11,c11,rfl,-⟩:=Kd.R_reads ho11;have HO11:=am ho11;have HW11:=am hb11;have HB11:=am (HB10.out.trans (hb11.mono HB10.out.size));have hP11:=blk_below HP10.out hb11;have hcP:=(blk_cell hP11 1).trans rfl;have hfP:=blk_frozen hP11 1;have HP11:=am hP11;clear ho11 hb11 hec hP11)|(go_at_call 38;refine (sortN_calls w9 w0.heap.size g7 pb.length c7 pb HR9c.out HZP.out.2 HAPS.out.2 (by have:=HLT.out;have:=HLD.out;have:=HL.out;have:=HCL.out;omega)).mono ?_;rw [HQA.out.2];rintro e w10 hs10;have hb10:=hs10.below (B:=w0.heap.size) (by have:=HGG.out;have:=HB6s.out;omega);rw [Nat.min_eq_left HB9.out.size] at hb10;obtain ⟨rfl,hr10,hk10,hz10,-⟩:=hs10;have HR10:=am hr10;have HB10:=am (HB9.out.trans hb10);have HP10:=am ((hk10 P (blk_lt HP9.out) (by have:=HPN.out;have:=HGG.out;have:=HB6s.out;omega)).trans HP9.out);have HO10:=am (Kd.R_step HO9t.out (fun k hk hl=>hk10 k hl hk.2));have HZ10:=am hz10;clear hr10 hk10 hz10 hb10))
     go_ret2
     rw [splitP_some HS.out HC.out HN30.out (by rw [HPA.out.1,HQA.out.1,HEE.out.1]) (by rw [HPA.out.2,HQA.out.2,HEE.out.2]),if_neg (by simp),if_pos HE01.out]
     exact ⟨_,rfl,Kd.S_nil _ _ _ _ _,HB11.out⟩
   ·have h0b:(e0 != 0)=true:=bne_iff_ne.2 h00
    have HE00:=am h00
    clear h00
    go_wp2_with (first|(go_at_call 24;have hec:=leaf_Encode.calls ke0 (some ⟨g6,0,none⟩) c6 qa eb0 _ w7 (by have h:=Kd.R_reads' HR7.out;exact h.2.2) (by have h:=Kd.R_reads' HR7.out;have:=h.1;have:=h.2.1;have:=HQL.out;omega) HKE.out.1;rw [HQL.out.1] at hec;refine hec.mono ?_;rintro e w8 ⟨v8,rfl,ho8,hb8⟩;obtain ⟨A8,c8,rfl,-⟩:=Kd.R_reads ho8;have HO8:=am ho8;have HW8:=am hb8;have HB8:=am (HB7.out.trans (hb8.mono HB7.out.size));have hP8:=blk_below HP7.out hb8;have hcP:=(blk_cell hP8 0).trans rfl;have hfP:=blk_frozen hP8 0;have HP8:=am hP8;clear ho8 hb8 hec hP8)|(go_at_call 38;refine (sortN_calls w6 w0.heap.size g6 pa.length c6 pa HR6a.out HZP.out.1 HAPS.out.1 (by have:=HLT.out;have:=HLD.out;have:=HL.out;have:=HCL.out;omega)).mono ?_;rw [HQA.out.1];rintro e w7 hs7;have hb7:=hs7.below (B:=w0.heap.size) (by have:=HGG.out;omega);rw [Nat.min_eq_left HB6.out.size] at hb7;have HS7:=am hs7;obtain ⟨rfl,hr7,hk7,hz7,-⟩:=hs7;have HR7:=am hr7;have HB7:=am (HB6.out.trans hb7);have HP7:=am ((hk7 P (blk_lt HP6.out) (by have:=HPN.out;have:=HGG.out;omega)).trans HP6.out);have HR7b:=am (Kd.R_step HR6b.out (fun k hk hl=>hk7 k hl (by have:=HG6b.out;omega)));have HZ7:=am hz7;clear hr7 hk7 hz7 hb7))
    go_ret2
    rw [splitP_some HS.out HC.out HN30.out (by rw [HPA.out.1,HQA.out.1,HEE.out.1]) (by rw [HPA.out.2,HQA.out.2,HEE.out.2]),if_pos HE00.out]
    exact ⟨_,rfl,Kd.S_nil _ _ _ _ _,HB8.out⟩
def htree_Add.f (l0:List (List Int)) (a1_0:ByteArray) (a1_1:Int):Option (List (List Int)×Int):=if dirB l0=true then some (Ht.addP l0 ⟨a1_0,a1_1⟩) else none
set_option maxHeartbeats 8000000 in
set_option maxRecDepth 100000 in
theorem htree_Add.calls (A0:Option Addr) (c0:Nat) (l0:List (List Int)) (a1_0:ByteArray) (a1_1:Int) (r1:List (List Int)) (r2:Int) (w:World) (hr0:Kd.C (Kd.slice 5 (Kd.int .u8)) w A0 l0.length l0) (hc0:l0.length≤c0) (h:htree_Add.f l0 a1_0 a1_1=some (r1,r2)) :
  Calls Try.prog 13 #[.slice A0 l0.length c0,.agg #[.string a1_0,.int .i64 a1_1]] w fun e w'=>∃ v0_:Value,e=.returned (.tuple #[v0_,.int .i64 r2])∧Kd.S (Kd.slice 5 (Kd.int .u8)) 66 w' w.heap.size (fun _=>True) v0_ r1∧Below w.heap.size w w':=by
 unfold htree_Add.f at h
 by_cases hd:dirB l0=true
 ·rw [if_pos hd] at h
  have h:=Option.some.inj h
  obtain ⟨hd1,hd2⟩:=dirB_iff hd
  have HR0:=am hr0
  have HC0:=am hc0
  have HD:=am hd1
  have HL:=am hd2
  have HB0:=am ((Below.refl w.heap.size w).alloc (Nat.le_refl _) (.cells #[.string a1_0,.int .i64 a1_1] 30))
  unfold Ht.addP at h
  clear hd hr0 hc0 hd1 hd2
  cases hx:Ht.readP l0 with
  | none =>
   rw [hx] at h
   obtain ⟨rfl,rfl⟩:=Prod.mk.inj h
   have HX:=am hx
   clear hx h
   go_enter Try.func13,Try.ntmps13
   go_wp2_with (go_at_call 25;refine (open_calls A0 c0 l0 ⟨a1_0,a1_1⟩ _ (Kd.C_alloc HR0.out _) HC0.out HD.out HL.out).mono ?_;rintro e w2 ⟨hb2,hm⟩;rw [HX.out] at hm;dsimp only at hm;subst hm;have HB2:=am (HB0.out.trans (hb2.mono HB0.out.size));have HW2:=am hb2;clear hb2)
   go_ret2
   exact ⟨_,rfl,Kd.S_nil _ _ _ _ _,HB2.out⟩
  | some p =>
   obtain ⟨rs,ls⟩:=p
   rw [hx] at h
   dsimp only at h
   have HOKR:=am (Ht.readP_ok HD.out hx).1
   have HLV:=am (Ht.readP_ok HD.out hx).2
   have HDL:=am (Ht.readP_len HD.out hx)
   have HX:=am hx
   clear hx
   by_cases hmx:Ht.mayX (⟨a1_0,a1_1⟩:S30)=false
   ·have HM:=am hmx
    rw [if_pos hmx] at h
    obtain ⟨rfl,rfl⟩:=Prod.mk.inj h
    clear h hmx
    go_enter Try.func13,Try.ntmps13
    go_wp2_with (go_at_call 25;refine (open_calls A0 c0 l0 ⟨a1_0,a1_1⟩ _ (Kd.C_alloc HR0.out _) HC0.out HD.out HL.out).mono ?_;rintro e w2 ⟨hb2,hm⟩;rw [HX.out] at hm;dsimp only at hm;rw [if_pos HM.out] at hm;subst hm;have HB2:=am (HB0.out.trans (hb2.mono HB0.out.size));have HW2:=am hb2;clear hb2)
    go_ret2
    exact ⟨_,rfl,Kd.S_nil _ _ _ _ _,HB2.out⟩
   ·have HM:=am hmx
    rw [if_neg hmx] at h
    obtain ⟨an,han⟩:∃ an,Ht.atP rs (Ht.sumN a1_0)=an:=⟨_,rfl⟩
    have hanl:an < rs.length:=han ▸ Ht.atP_lt HOKR.out _
    obtain ⟨l,hll⟩:∃ l,ls.getD an []=l:=⟨_,rfl⟩
    have hanls:an < ls.length:=by rw [HLV.out.len];exact hanl
    have HRL:=am (show Lf.right none l=true∧Lf.sumL l≤248 from HLV.out.leaf l (by rw [← hll,Ht.getD_at hanls];exact List.getElem_mem _))
    have HLA:=am (show Ht.leafAt rs ls a1_0=l by unfold Ht.leafAt;rw [han,hll])
    obtain ⟨pp,hpp⟩:∃ pp,Ht.posP l a1_0=pp:=⟨_,rfl⟩
    obtain ⟨tt,htt⟩:∃ tt,Ht.thereP l a1_0=tt:=⟨_,rfl⟩
    have HPT:=am (⟨hpp,htt,han⟩:Ht.posP l a1_0=pp∧Ht.thereP l a1_0=tt∧Ht.atP rs (Ht.sumN a1_0)=an)
    have HLQ:=am hll
    have HAN:=am hanl
    have HL41:=am (Ht.leaf_len HRL.out)
    rw [HPT.out.2.2,HLQ.out,HPT.out.1,HPT.out.2.1,Ht.getD_at HAN.out] at h
    clear hpp htt han hll hanl hmx
    cases tt with
    | true =>
     rw [if_pos rfl] at h
     obtain ⟨rfl,rfl⟩:=Prod.mk.inj h
     clear h
     go_enter Try.func13,Try.ntmps13
     go_wp2_with (go_at_call 25;refine (open_calls A0 c0 l0 ⟨a1_0,a1_1⟩ _ (Kd.C_alloc HR0.out _) HC0.out HD.out HL.out).mono ?_;rintro e w2 ⟨hb2,hm⟩;rw [HX.out] at hm;dsimp only at hm;rw [if_neg HM.out,HLA.out,HPT.out.1,HPT.out.2.1,HPT.out.2.2] at hm;obtain ⟨B,rfl,-⟩:=hm;have HB2:=am (HB0.out.trans (hb2.mono HB0.out.size));have HW2:=am hb2;clear hb2)
     go_ret2
     exact ⟨_,rfl,Kd.S_nil _ _ _ _ _,HB2.out⟩
    | false =>
     rw [if_neg (by decide)] at h
     have HDB:=am (show ∀ b∈l0,b.length≤140737488355328 from fun b hb=>by have:=(Ht.readP_blocks HD.out HX.out) b hb;omega)
     have HPL:=am (show pp≤l.length from HPT.out.1 ▸ Ht.posP_le l a1_0)
     obtain ⟨L,hL⟩:∃ L,l.take pp++(⟨a1_0,a1_1⟩:S30)::l.drop pp=L:=⟨_,rfl⟩
     have HLE:=am hL
     have HLN:=am (show L.length=l.length+1 by rw [← hL,List.length_append,List.length_cons,List.length_take,List.length_drop];have:=HPL.out;omega)
     rw [hL] at h
     have HH:=am h
     clear h hL
     have HCLN:=am (show api_Name_27.f l=some l by unfold api_Name_27.f;rw [if_pos (by have:=HL41.out;omega)])
     go_enter Try.func13,Try.ntmps13
     go_wp2_with (go_at_call 25;refine (open_calls A0 c0 l0 ⟨a1_0,a1_1⟩ _ (Kd.C_alloc HR0.out _) HC0.out HD.out HL.out).mono ?_;rintro e w2 ⟨hb2,hm⟩;rw [HX.out] at hm;dsimp only at hm;rw [if_neg HM.out,HLA.out,HPT.out.1,HPT.out.2.1,HPT.out.2.2] at hm;obtain ⟨B,rfl,A1,c1,A2,c2,hT1,hT2,hT3,hT4,hT5⟩:=hm;have hcB:=(blk_cell hT1 2).trans rfl;obtain ⟨ad2,A5,c5,ead,hcl,hl5,hr5⟩:=leaf_at hT4 (an:Int) (by omega) (by omega);cases ead;rw [Int.toNat_natCast,HLQ.out] at hcl hl5 hr5;have HT1:=am hT1;have HT2:=am hT2;have HT3:=am hT3;have HT4:=am hT4;have HT5:=am hT5;have HR5:=am hr5;have HL5:=am hl5;clear hT1 hT2 hT3 hT4 hT5 hr5 hl5;have HX2:=am (blk_below (blk_new w (.cells #[.string a1_0,.int .i64 a1_1] 30)) hb2);have hx0:=kC HX2 0;have hx1:=kC HX2 1;have HB2:=am (HB0.out.trans (hb2.mono HB0.out.size));have HW2:=am hb2;clear hb2)
     have hb0:=below_drew1 (Below.refl w2.heap.size w2)
     have hanl:=HAN.out
     have hanls:an < ls.length:=by rw [HLV.out.len];exact hanl
     refine start_ (n:=13) (S:=fun w'=>Below w2.heap.size w2 w'∧w'.cell? ⟨B,2,none⟩=some (.slice (some ad2) ls.length c2)∧w'.cell? (ad2.add an)=some (.slice A5 l.length c5)∧w'.cell? ⟨w.heap.size,0,none⟩=some (.string a1_0)∧w'.cell? ⟨w.heap.size,1,none⟩=some (.int .i64 a1_1)) (ds:=[]) _ (by kernel_rfl) rfl rfl ⟨hb0,hcB,hcl,hx0,hx1⟩ (fun hHeld=>?_)
     refine pK 0 28 ?_;refine pK 1 29 ?_;refine pK 2 30 ?_;refine pK 4 32 ?_;refine pK 8 36 ?_;refine tK 3 31 hHeld ?_ (hy:=by rintro w' ⟨s0,s1,s2,s3,s4⟩;go_simp;with_reducible rfl);refine pK 5 33 ?_;refine tK 6 34 hHeld ?_ (hy:=by rintro w' ⟨s0,s1,s2,s3,s4⟩;go_simp;with_reducible rfl);refine tK 9 37 hHeld ?_ (hy:=by rintro w' ⟨s0,s1,s2,s3,s4⟩;go_simp;with_reducible rfl)
     refine join_ (σ:=Value×Nat) 2 #[true,true,true,true,true,true,true,true,true,true,true,false,false] (fun s_=>[(35,s_.1),(38,.slice (some ⟨s_.2,0,none⟩) 1 1)]) (fun s_ w'=>(Below w2.heap.size w2 w'∧w'.cell? ⟨B,2,none⟩=some (.slice (some ad2) ls.length c2)∧w'.cell? (ad2.add an)=some (.slice A5 l.length c5)∧w'.cell? ⟨w.heap.size,0,none⟩=some (.string a1_0)∧w'.cell? ⟨w.heap.size,1,none⟩=some (.int .i64 a1_1))∧Kd.R k30 30 w' w2.heap.size (fun _=>True) s_.1 l∧w'.heap[s_.2]? = some (.cells #[.string a1_0,.int .i64 a1_1] 30 (0,0))∧(∀ g,s_.1.ownBlock=some g→g≠s_.2)) ?_ ?_
     rotate_left
     ·intro hCont
      refine two_ (i:=7) (j:=10) (Ni:=some 35) (Nj:=some 38) #[true,true,true,true,true,true,true,true,true,true,false,false,false] #[true,true,true,true,true,true,true,false,true,true,true,false,false] rfl rfl rfl rfl (by kernel_rfl) (by decide) (by decide) (fun K hK=>?_) (fun K hK=>?_)
      ·skip
       refine gS Try.func27 #[.slice A5 l.length c5] ?_
       with_reducible refine (api_Name_27.calls A5 c5 l l _ (Kd.C_drew HR5.out) HL5.out HCLN.out).mono ?_
       rintro e3 w3 ⟨v3,rfl,ho3,hb3⟩
       refine ⟨_,rfl,?_⟩
       have hO3:Kd.R k30 30 w3 w2.heap.size (fun _=>True) v3 l:=ho3
       have hB3:=hb0.trans (hb3.mono hb0.size)
       refine hK.out _ _ ⟨hB3,(hB3.cell (World.block_lt_of_cell? _ _ hcB)).trans hcB,(hB3.cell (World.block_lt_of_cell? _ _ hcl)).trans hcl,(hB3.cell (World.block_lt_of_cell? _ _ hx0)).trans hx0,(hB3.cell (World.block_lt_of_cell? _ _ hx1)).trans hx1⟩ (fun hHeld=>?_)
       clear hK K;refine norm_ (a':=?_) ?_ ?_;rotate_left
       ·show Act.put _ (some 35) _=_
        simp only [Act.put,sIb,sC0,sCs,i64_w,i32_w];rfl
       refine oK 10 (some 38) (fun K hK=>?_)
       refine value_ (w1:=?_) (v:=?_) (by rfl) rfl ?_ ?_
       rotate_left 2
       ·go_simp
        constructor;(rfl);(rfl)
       have hO4:=Kd.R_alloc hO3 (.cells #[.string a1_0,.int .i64 a1_1] 30)
       have hV4:=blk_new w3 (.cells #[.string a1_0,.int .i64 a1_1] 30)
       have hN4:∀ g,v3.ownBlock=some g→g≠w3.heap.size:=fun g hg=>Nat.ne_of_lt (Kd.R_lt hO3 g hg)
       refine hK.out _ _ ⟨hHeld.1.alloc hHeld.1.size _,(World.cell?_alloc_lt _ _ _ (World.block_lt_of_cell? _ _ hHeld.2.1)).trans hHeld.2.1,(World.cell?_alloc_lt _ _ _ (World.block_lt_of_cell? _ _ hHeld.2.2.1)).trans hHeld.2.2.1,(World.cell?_alloc_lt _ _ _ (World.block_lt_of_cell? _ _ hHeld.2.2.2.1)).trans hHeld.2.2.2.1,(World.cell?_alloc_lt _ _ _ (World.block_lt_of_cell? _ _ hHeld.2.2.2.2)).trans hHeld.2.2.2.2⟩ (fun hHeld=>?_)
       clear hK K;refine norm_ (a':=?_) ?_ ?_;rotate_left
       ·show Act.put _ (some 38) _=_
        simp only [Act.put,sIb,sC0,sCs,i64_w,i32_w];rfl
       exact norm_ (by simp only [putAll,Act.put,List.setIfInBounds_toArray,List.set_cons_zero,List.set_cons_succ]) (hCont (v3,w3.heap.size) _ ⟨hHeld,hO4,hV4,hN4⟩)
      ·skip
       refine value_ (w1:=?_) (v:=?_) (by rfl) rfl ?_ ?_
       rotate_left 2
       ·go_simp
        constructor;(rfl);(rfl)
       have hbv:=below_drew1 ((Below.refl w2.heap.size w2).alloc (Nat.le_refl _) (.cells #[.string a1_0,.int .i64 a1_1] 30))
       have hVV:=blk_drew (blk_new w2 (.cells #[.string a1_0,.int .i64 a1_1] 30))
       refine hK.out _ _ ⟨hHeld.1.alloc hHeld.1.size _,(World.cell?_alloc_lt _ _ _ (World.block_lt_of_cell? _ _ hHeld.2.1)).trans hHeld.2.1,(World.cell?_alloc_lt _ _ _ (World.block_lt_of_cell? _ _ hHeld.2.2.1)).trans hHeld.2.2.1,(World.cell?_alloc_lt _ _ _ (World.block_lt_of_cell? _ _ hHeld.2.2.2.1)).trans hHeld.2.2.2.1,(World.cell?_alloc_lt _ _ _ (World.block_lt_of_cell? _ _ hHeld.2.2.2.2)).trans hHeld.2.2.2.2⟩ (fun hHeld=>?_)
       clear hK K;refine norm_ (a':=?_) ?_ ?_;rotate_left
       ·show Act.put _ (some 38) _=_
        simp only [Act.put,sIb,sC0,sCs,i64_w,i32_w];rfl
       refine oK 7 (some 35) (fun K hK=>?_)
       refine gS Try.func27 #[.slice A5 l.length c5] ?_
       with_reducible refine (api_Name_27.calls A5 c5 l l _ (Kd.C_below HR5.out hbv) HL5.out HCLN.out).mono ?_
       rintro e3 w3 ⟨v3,rfl,ho3,hb3⟩
       refine ⟨_,rfl,?_⟩
       have hO4:Kd.R k30 30 w3 w2.heap.size (fun _=>True) v3 l:=Kd.R_lower ho3 hbv.size
       have hV4:=blk_below hVV hb3
       have hN4:∀ g,v3.ownBlock=some g→g≠w2.heap.size:=fun g hg=>Nat.ne_of_gt (Nat.lt_of_lt_of_le (blk_lt hVV) (Kd.R_base ho3 g hg))
       have hB3:=hbv.trans (hb3.mono hbv.size)
       refine hK.out _ _ ⟨hB3,(hB3.cell (World.block_lt_of_cell? _ _ hcB)).trans hcB,(hB3.cell (World.block_lt_of_cell? _ _ hcl)).trans hcl,(hB3.cell (World.block_lt_of_cell? _ _ hx0)).trans hx0,(hB3.cell (World.block_lt_of_cell? _ _ hx1)).trans hx1⟩ (fun hHeld=>?_)
       clear hK K;refine norm_ (a':=?_) ?_ ?_;rotate_left
       ·show Act.put _ (some 35) _=_
        simp only [Act.put,sIb,sC0,sCs,i64_w,i32_w];rfl
       exact norm_ (by simp only [putAll,Act.put,List.setIfInBounds_toArray,List.set_cons_zero,List.set_cons_succ]) (hCont (v3,w2.heap.size) _ ⟨hHeld,hO4,hV4,hN4⟩)
     rintro ⟨v3,vb⟩ w3 ⟨hHeld,hO4,hV4,hN4⟩
     have HO3:=am hO4
     have HVB:=am hV4
     have HNE:=am hN4
     have HB3:=am hHeld.1
     dsimp only at HO3 HVB HNE
     clear hO4 hV4 hN4;refine norm_ (a':=?_) ?_ ?_;rotate_left;(simp only [putAll,Act.put,List.setIfInBounds_toArray,List.set_cons_zero,List.set_cons_succ];rfl)
     refine oK 11 (some 39) (fun K hK=>?_)
     refine gS Try.func26 #[v3,.int .i64 (pp:Int),.slice (some ⟨vb,0,none⟩) 1 1] ?_
     with_reducible refine (ins_calls w3 w2.heap.size v3 l ⟨a1_0,a1_1⟩ vb pp l.length rfl HO3.out HVB.out HNE.out HB3.out.size HPL.out (by have:=HL41.out;omega)).mono ?_
     rintro e4 w4 ⟨v4,rfl,ho4,hb4⟩
     refine ⟨_,rfl,?_⟩
     rw [HLE.out] at ho4
     obtain ⟨g4,c4,rfl,hg4,-⟩:=Kd.R_form ho4 (by have:=HLN.out;omega)
     have HO4:=am ho4
     have HG4:=am hg4
     have hb24:=HB3.out.trans hb4
     have HW4:=am hb24
     clear ho4 hb4 hg4
     refine hK.out _ _ ⟨hb24,(hb24.cell (World.block_lt_of_cell? _ _ hcB)).trans hcB,(hb24.cell (World.block_lt_of_cell? _ _ hcl)).trans hcl,(hb24.cell (World.block_lt_of_cell? _ _ hx0)).trans hx0,(hb24.cell (World.block_lt_of_cell? _ _ hx1)).trans hx1⟩ (fun hHeld=>?_)
     clear hK K;refine norm_ (a':=?_) ?_ ?_;rotate_left
     ·show Act.put _ (some 39) _=_
      simp only [Act.put,sIb,sC0,sCs,i64_w,i32_w];rfl
     refine pK 12 11 ?_
     refine done_ (by kernel_rfl) ?_
     clear hHeld hb24 hcB hcl hx0 hx1 hb0 hanl hanls
     have HTR:=am (show TreeAt w2 B A0 c0 l0.length rs ls from ⟨A1,c1,_,c2,HT1.out,HT2.out,HT3.out,HT4.out,HT5.out⟩)
     have HR2:=am (Kd.C_below HR0.out HB2.out)
     have HB4:=am (HB2.out.trans (HW4.out.mono HB2.out.size))
     have HRL4:=am (show k30.C w4 (some ⟨g4,0,none⟩) L.length L∧L.length≤c4 from by have h:=Kd.R_reads' HO4.out;exact ⟨h.2.2,h.2.1⟩)
     have h:=HH.out
     obtain ⟨⟨wb,we⟩,hwp⟩:∃ p,Ht.withP l0 (rs[an]'HAN.out).f1 L=p:=⟨_,rfl⟩
     rw [hwp] at h
     have HWP:=am hwp
     dsimp only at h
     by_cases h9:we=9
     ·rw [if_pos h9] at h
      subst h9
      have HSP:=am h
      have HLR:=am (show Lf.right none L=true by
       unfold Ht.withP at hwp
       split at hwp
       ·cases hwp
       ·have h8:=(Prod.mk.inj hwp).2
        unfold Lf.encR at h8
        split at h8
        ·next hr=>exact hr
        ·cases h8)
      clear h hwp HH
      go_wp2_with (first|(go_at_call 29;have hsc:=split_calls w2 w5 (HW4.out.trans (HW5.out.mono HW4.out.size)) B A0 c0 l0 rs ls an HR2.out HC0.out HTR.out HDL.out.1 HDB.out HAN.out HOKR.out g4 c4 L HG4.out (Kd.R_below HO4.out HW5.out) HLR.out (by have:=HLN.out;omega) (by have:=HLN.out;have:=HL41.out;omega);rw [HSP.out] at hsc;refine hsc.mono ?_;rintro e w6 ⟨v6,rfl,ho6,hb6⟩;have HO6:=am ho6;have HB6:=am hb6;clear ho6 hb6 hsc)|(go_at_call 28;have hwc:=with_calls w4 B A0 c0 l0 rs ls an (some ⟨g4,0,none⟩) c4 L (Kd.C_below HR0.out HB4.out) HC0.out (TreeAt.below HTR.out HW4.out) HDL.out.1 HDB.out HAN.out (HOKR.out.blk _ (List.getElem_mem HAN.out)) HRL4.out.1 HRL4.out.2 (by have:=HLN.out;have:=HL41.out;omega);rw [HWP.out] at hwc;refine hwc.mono ?_;rintro e w5 ⟨v5,rfl,ho5,hb5⟩;have HO5:=am ho5;have HW5:=am hb5;have HB5:=am (HB4.out.trans (hb5.mono HB4.out.size));clear ho5 hb5 hwc))
      go_ret2
      exact ⟨_,rfl,Kd.S_lower HO6.out HB2.out.size,HB2.out.trans (HB6.out.mono HB2.out.size)⟩
     ·rw [if_neg h9] at h
      obtain ⟨rfl,rfl⟩:=Prod.mk.inj h
      have h9b:(we==9)=false:=beq_eq_false_iff_ne.2 h9
      clear h h9 hwp HH
      go_wp2_with (go_at_call 28;have hwc:=with_calls w4 B A0 c0 l0 rs ls an (some ⟨g4,0,none⟩) c4 L (Kd.C_below HR0.out HB4.out) HC0.out (TreeAt.below HTR.out HW4.out) HDL.out.1 HDB.out HAN.out (HOKR.out.blk _ (List.getElem_mem HAN.out)) HRL4.out.1 HRL4.out.2 (by have:=HLN.out;have:=HL41.out;omega);rw [HWP.out] at hwc;refine hwc.mono ?_;rintro e w5 ⟨v5,rfl,ho5,hb5⟩;have HO5:=am ho5;have HW5:=am hb5;have HB5:=am (HB4.out.trans (hb5.mono HB4.out.size));clear ho5 hb5 hwc)
      go_ret2
      exact ⟨_,rfl,Kd.S_lower HO5.out HB4.out.size,HB5.out⟩
 ·rw [if_neg hd] at h
  cases h
theorem mayX_zero (s:ByteArray):Ht.mayX (⟨s,0⟩:S30)=Lf.mayB s:=by unfold Ht.mayX;simp
def htree_Find.f (l0:List (List Int)) (a1:ByteArray):Option (Int×Int):=if dirB l0=true then some (Ht.findP l0 a1) else none
set_option maxHeartbeats 8000000 in
set_option maxRecDepth 100000 in
theorem htree_Find.calls (A0:Option Addr) (c0:Nat) (l0:List (List Int)) (a1:ByteArray) (r1:Int) (r2:Int) (w:World) (hr0:Kd.C (Kd.slice 5 (Kd.int .u8)) w A0 l0.length l0) (hc0:l0.length≤c0) (h:htree_Find.f l0 a1=some (r1,r2)) :
  Calls Try.prog 17 #[.slice A0 l0.length c0,.string a1] w fun e w'=>e=.returned (.tuple #[.int .i64 r1,.int .i64 r2])∧Below w.heap.size w w':=by
 unfold htree_Find.f at h
 by_cases hd:dirB l0=true
 ·rw [if_pos hd] at h
  have h:=Option.some.inj h
  obtain ⟨hd1,hd2⟩:=dirB_iff hd
  have HR0:=am hr0
  have HC0:=am hc0
  have HD:=am hd1
  have HL:=am hd2
  have HB0:=am (Below.refl w.heap.size w)
  unfold Ht.findP at h
  clear hd hr0 hc0 hd1 hd2
  cases hx:Ht.readP l0 with
  | none =>
   rw [hx] at h
   obtain ⟨rfl,rfl⟩:=Prod.mk.inj h
   have HX:=am hx
   clear hx h
   go_enter Try.func17,Try.ntmps17
   go_wp2_with (go_at_call 25;refine (open_calls A0 c0 l0 ⟨a1,0⟩ _ HR0.out HC0.out HD.out HL.out).mono ?_;rintro e w2 ⟨hb2,hm⟩;rw [HX.out] at hm;dsimp only at hm;subst hm;have HB2:=am (HB0.out.trans (hb2.mono HB0.out.size));have HW2:=am hb2;clear hb2)
   go_ret2
   exact ⟨rfl,HB2.out⟩
  | some p =>
   obtain ⟨rs,ls⟩:=p
   rw [hx] at h
   dsimp only at h
   have HOKR:=am (Ht.readP_ok HD.out hx).1
   have HLV:=am (Ht.readP_ok HD.out hx).2
   have HDL:=am (Ht.readP_len HD.out hx)
   have HX:=am hx
   clear hx
   by_cases hmx:Ht.mayX (⟨a1,0⟩:S30)=false
   ·have HM:=am hmx
    rw [if_pos (show Lf.mayB a1=false from (mayX_zero a1).symm.trans hmx)] at h
    obtain ⟨rfl,rfl⟩:=Prod.mk.inj h
    clear h hmx
    go_enter Try.func17,Try.ntmps17
    go_wp2_with (go_at_call 25;refine (open_calls A0 c0 l0 ⟨a1,0⟩ _ HR0.out HC0.out HD.out HL.out).mono ?_;rintro e w2 ⟨hb2,hm⟩;rw [HX.out] at hm;dsimp only at hm;rw [if_pos HM.out] at hm;subst hm;have HB2:=am (HB0.out.trans (hb2.mono HB0.out.size));have HW2:=am hb2;clear hb2)
    go_ret2
    exact ⟨rfl,HB2.out⟩
   ·have HM:=am hmx
    rw [if_neg (show ¬ Lf.mayB a1=false from fun e=>hmx ((mayX_zero a1).trans e))] at h
    obtain ⟨an,han⟩:∃ an,Ht.atP rs (Ht.sumN a1)=an:=⟨_,rfl⟩
    have hanl:an < rs.length:=han ▸ Ht.atP_lt HOKR.out _
    obtain ⟨l,hll⟩:∃ l,ls.getD an []=l:=⟨_,rfl⟩
    have hanls:an < ls.length:=by rw [HLV.out.len];exact hanl
    have HRL:=am (show Lf.right none l=true∧Lf.sumL l≤248 from HLV.out.leaf l (by rw [← hll,Ht.getD_at hanls];exact List.getElem_mem _))
    have HLA:=am (show Ht.leafAt rs ls a1=l by unfold Ht.leafAt;rw [han,hll])
    obtain ⟨pp,hpp⟩:∃ pp,Ht.posP l a1=pp:=⟨_,rfl⟩
    obtain ⟨tt,htt⟩:∃ tt,Ht.thereP l a1=tt:=⟨_,rfl⟩
    have HPT:=am (⟨hpp,htt,han⟩:Ht.posP l a1=pp∧Ht.thereP l a1=tt∧Ht.atP rs (Ht.sumN a1)=an)
    have HLQ:=am hll
    have HAN:=am hanl
    have HL41:=am (Ht.leaf_len HRL.out)
    rw [HLA.out,HPT.out.1,HPT.out.2.1] at h
    clear hpp htt han hll hanl hmx
    cases tt with
    | false =>
     rw [if_pos rfl] at h
     obtain ⟨rfl,rfl⟩:=Prod.mk.inj h
     clear h
     go_enter Try.func17,Try.ntmps17
     go_wp2_with (go_at_call 25;refine (open_calls A0 c0 l0 ⟨a1,0⟩ _ HR0.out HC0.out HD.out HL.out).mono ?_;rintro e w2 ⟨hb2,hm⟩;rw [HX.out] at hm;dsimp only at hm;rw [if_neg HM.out,HLA.out,HPT.out.1,HPT.out.2.1,HPT.out.2.2] at hm;obtain ⟨B,rfl,-⟩:=hm;have HB2:=am (HB0.out.trans (hb2.mono HB0.out.size));have HW2:=am hb2;clear hb2)
     go_ret2
     exact ⟨rfl,HB2.out⟩
    | true =>
     rw [if_neg (by decide)] at h
     have HPL:=am (show pp < l.length by obtain ⟨h1,_⟩:=(Ht.there_at (Ht.right_iff.1 HRL.out.1).2 a1).1 HPT.out.2.1;have:=HPT.out.1;omega)
     have hpl:=HPL.out
     rw [Ht.getD_at HPL.out] at h
     obtain ⟨rfl,rfl⟩:=Prod.mk.inj h
     clear h
     go_enter Try.func17,Try.ntmps17
     go_wp2_with (go_at_call 25;refine (open_calls A0 c0 l0 ⟨a1,0⟩ _ HR0.out HC0.out HD.out HL.out).mono ?_;rintro e w2 ⟨hb2,hm⟩;rw [HX.out] at hm;dsimp only at hm;rw [if_neg HM.out,HLA.out,HPT.out.1,HPT.out.2.1,HPT.out.2.2] at hm;obtain ⟨B,rfl,A1,c1,A2,c2,hT1,hT2,hT3,hT4,hT5⟩:=hm;have hcB:=(blk_cell hT1 2).trans rfl;obtain ⟨ad2,A5,c5,ead,hcl,hl5,hr5⟩:=leaf_at hT4 (an:Int) (by omega) (by omega);cases ead;rw [Int.toNat_natCast,HLQ.out] at hcl hl5 hr5;have HT1:=am hT1;have HT2:=am hT2;have HT3:=am hT3;have HT4:=am hT4;have HT5:=am hT5;have HR5:=am hr5;have HL5:=am hl5;clear hT1 hT2 hT3 hT4 hT5 hr5 hl5;obtain ⟨ad5,ead,-,hci⟩:=at_T30 HR5.out (pp:Int) (by omega) (by have:=HPL.out;omega);cases ead;rw [Int.toNat_natCast,Lf.rdT_get HPL.out] at hci;have HB2:=am (HB0.out.trans (hb2.mono HB0.out.size));have HW2:=am hb2;clear hb2)
     go_ret2
     exact ⟨rfl,HB2.out⟩
 ·rw [if_neg hd] at h
  cases h
def l_12_alive.f (k:Nat)  : Option (Bool):=(htree_New.f k).bind fun t200=>((htree_Add.f t200 (⟨#[97]⟩:ByteArray) 7).bind fun bt203=>((htree_Find.f bt203.1 (⟨#[97]⟩:ByteArray)).bind fun bt207=>((htree_Add.f bt203.1 (⟨#[97]⟩:ByteArray) 0).bind fun bt209=>(if bt203.2=0 then (if bt207.2=0 then (if bt207.1=7 then (if bt209.2=4 then ((htree_Check.f ([]:List (List Int))).bind fun t213=>(some (t213==13))) else (some false)) else (some false)) else (some false)) else (some false)))))
set_option maxHeartbeats 8000000 in
set_option maxRecDepth 100000 in
theorem l_12_alive.calls (k:Nat)  (r:Bool) (w:World) (h:l_12_alive.f k  = some r) :
  Calls Try.prog 7 #[] w fun e w'=>e=.returned (.bool r)∧Below w.heap.size w w':=by
 have hu30:=Try.underlying30
 have HB:=am (Below.refl w.heap.size w)
 have H:((htree_New.f k).bind fun t200=>((htree_Add.f t200 (⟨#[97]⟩:ByteArray) 7).bind fun bt203=>((htree_Find.f bt203.1 (⟨#[97]⟩:ByteArray)).bind fun bt207=>((htree_Add.f bt203.1 (⟨#[97]⟩:ByteArray) 0).bind fun bt209=>(if bt203.2=0 then (if bt207.2=0 then (if bt207.1=7 then (if bt209.2=4 then ((htree_Check.f ([]:List (List Int))).bind fun t213=>(some (t213==13))) else (some false)) else (some false)) else (some false)) else (some false))))))=some r:=h
 clear h
 replace H:=Option.bind_eq_some_iff.mp H
 obtain ⟨t200,A10,H⟩:=H
 replace H:((htree_Add.f t200 (⟨#[97]⟩:ByteArray) 7).bind fun bt203=>((htree_Find.f bt203.1 (⟨#[97]⟩:ByteArray)).bind fun bt207=>((htree_Add.f bt203.1 (⟨#[97]⟩:ByteArray) 0).bind fun bt209=>(if bt203.2=0 then (if bt207.2=0 then (if bt207.1=7 then (if bt209.2=4 then ((htree_Check.f ([]:List (List Int))).bind fun t213=>(some (t213==13))) else (some false)) else (some false)) else (some false)) else (some false)))))=some r:=H
 have A1:=am A10
 clear A10
 replace H:=Option.bind_eq_some_iff.mp H
 obtain ⟨⟨t203,t206⟩,A20,H⟩:=H
 replace H:((htree_Find.f t203 (⟨#[97]⟩:ByteArray)).bind fun bt207=>((htree_Add.f t203 (⟨#[97]⟩:ByteArray) 0).bind fun bt209=>(if t206=0 then (if bt207.2=0 then (if bt207.1=7 then (if bt209.2=4 then ((htree_Check.f ([]:List (List Int))).bind fun t213=>(some (t213==13))) else (some false)) else (some false)) else (some false)) else (some false))))=some r:=H
 have A2:=am A20
 clear A20
 replace H:=Option.bind_eq_some_iff.mp H
 obtain ⟨⟨t207,t208⟩,A30,H⟩:=H
 replace H:((htree_Add.f t203 (⟨#[97]⟩:ByteArray) 0).bind fun bt209=>(if t206=0 then (if t208=0 then (if t207=7 then (if bt209.2=4 then ((htree_Check.f ([]:List (List Int))).bind fun t213=>(some (t213==13))) else (some false)) else (some false)) else (some false)) else (some false)))=some r:=H
 have A3:=am A30
 clear A30
 replace H:=Option.bind_eq_some_iff.mp H
 obtain ⟨⟨t209,t212⟩,A40,H⟩:=H
 replace H:(if t206=0 then (if t208=0 then (if t207=7 then (if t212=4 then ((htree_Check.f ([]:List (List Int))).bind fun t213=>(some (t213==13))) else (some false)) else (some false)) else (some false)) else (some false))=some r:=H
 have A4:=am A40
 clear A40
 by_cases c5:t206=0
 ·rw [if_pos c5] at H
  have c5b0:(t206==0)=true:=beq_iff_eq.mpr c5
  have c5b1:(t206 != 0)=false:=bne_eq_false_iff_eq.mpr c5
  clear c5
  by_cases c6:t208=0
  ·rw [if_pos c6] at H
   have c6b0:(t208==0)=true:=beq_iff_eq.mpr c6
   have c6b1:(t208 != 0)=false:=bne_eq_false_iff_eq.mpr c6
   clear c6
   by_cases c7:t207=7
   ·rw [if_pos c7] at H
    have c7b0:(t207==7)=true:=beq_iff_eq.mpr c7
    have c7b1:(t207 != 7)=false:=bne_eq_false_iff_eq.mpr c7
    clear c7
    by_cases c8:t212=4
    ·rw [if_pos c8] at H
     have c8b0:(t212==4)=true:=beq_iff_eq.mpr c8
     have c8b1:(t212 != 4)=false:=bne_eq_false_iff_eq.mpr c8
     clear c8
     replace H:=Option.bind_eq_some_iff.mp H
     obtain ⟨t213,A90,H⟩:=H
     replace H:(some (t213==13))=some r:=H
     have A9:=am A90
     clear A90;obtain rfl:=Option.some.inj H
     go_enter Try.func7,Try.ntmps7
     go_wp2_with (first|((with_reducible refine gate_callee (f:=12) rfl ?_);refine goesL_ (some 8) rfl rfl Try.func12 (by kernel_rfl) rfl #[] rfl (by (try simp only [List.map_toArray,List.map_cons,List.map_nil]);first|done|rfl|(simp only [List.length_drop,List.length_take];rfl)) ?_;(with_reducible refine (htree_New.calls k  t200 _ A1.out).mono ?_);rintro e w10 ⟨v201,rfl,ho0,hb⟩;refine ⟨_,rfl,?_⟩;have n0_:=am (Kd.N_lower (Kd.N_mono (ok':=fun k_=>True) ho0 (fun k_ hk_=>trivial)) (bz HB));have n1_:=bst HB hb;clear HB;have HO202:=n0_;have HB:=n1_;clear n0_ n1_;(try clear hb);(try clear hb2);(try clear hk);(try clear hi);(try clear ho0);obtain ⟨Ao11,co11,eo11⟩:=Kd.N_slice HO202.out;subst eo11)|((with_reducible refine gate_callee (f:=13) rfl ?_);refine goesL_ (some 10) rfl rfl Try.func13 (by kernel_rfl) rfl #[.slice Ao11 t200.length co11,.agg #[.string (⟨#[97]⟩:ByteArray),.int .i64 7]] rfl (by (try simp only [List.map_toArray,List.map_cons,List.map_nil]);first|done|rfl|(simp only [List.length_drop,List.length_take];rfl)) ?_;(with_reducible refine (htree_Add.calls _ _ t200 (⟨#[97]⟩:ByteArray) 7 t203 t206 _ ?side1 ?side2 A2.out).mono ?_);(case side1=>exact cc (Kd.N_reads' HO202.out).2.2);(case side2=>exact (Kd.N_reads' HO202.out).2.1);rintro e w12 ⟨v204,rfl,ho0,hb⟩;refine ⟨_,rfl,?_⟩;have n0_:=am (Kd.N_elder' (by (with_reducible repeat (first|apply Kd.N_alloc|apply Kd.N_drewN|apply Kd.N_drew));exact HO202.out) (by first|exact Kd.N_base ho0|exact Kd.S_base ho0) hb);have n1_:=am (Kd.N_lower (Kd.N_mono (ok':=fun k_=>some k_≠(.slice Ao11 t200.length co11:Value).ownBlock) (Kd.S_N (Kd.S_bound ho0)) (fun k_ hk_=>(Kd.fresh' (Kd.N_lt (by (with_reducible repeat (first|apply Kd.N_alloc|apply Kd.N_drewN|apply Kd.N_drew));exact HO202.out)) k_ hk_.2.1))) (bz HB));have n2_:=bst HB hb;clear HO202;clear HB;have HO202:=n0_;have HO205:=n1_;have HB:=n2_;clear n0_ n1_ n2_;(try clear hb);(try clear hb2);(try clear hk);(try clear hi);(try clear ho0);obtain ⟨Ao13,co13,eo13⟩:=Kd.N_slice HO205.out;subst eo13)|((with_reducible refine gate_callee (f:=17) rfl ?_);refine goesL_ (some 15) rfl rfl Try.func17 (by kernel_rfl) rfl #[.slice Ao13 t203.length co13,.string (⟨#[97]⟩:ByteArray)] rfl (by (try simp only [List.map_toArray,List.map_cons,List.map_nil]);first|done|rfl|(simp only [List.length_drop,List.length_take];rfl)) ?_;(with_reducible refine (htree_Find.calls _ _ t203 (⟨#[97]⟩:ByteArray) t207 t208 _ ?side1 ?side2 A3.out).mono ?_);(case side1=>exact cc (Kd.N_reads' HO205.out).2.2);(case side2=>exact (Kd.N_reads' HO205.out).2.1);rintro e w14 ⟨rfl,hb⟩;refine ⟨_,rfl,?_⟩;have n0_:=am (Kd.N_below (by (with_reducible repeat (first|apply Kd.N_alloc|apply Kd.N_drewN|apply Kd.N_drew));exact HO202.out) hb);have n1_:=am (Kd.N_below (by (with_reducible repeat (first|apply Kd.N_alloc|apply Kd.N_drewN|apply Kd.N_drew));exact HO205.out) hb);have n2_:=bst HB hb;clear HO202;clear HO205;clear HB;have HO202:=n0_;have HO205:=n1_;have HB:=n2_;clear n0_ n1_ n2_;(try clear hb);(try clear hb2);(try clear hk);(try clear hi))|((with_reducible refine gate_callee (f:=13) rfl ?_);refine goesL_ (some 21) rfl rfl Try.func13 (by kernel_rfl) rfl #[.slice Ao13 t203.length co13,.agg #[.string (⟨#[97]⟩:ByteArray),.int .i64 0]] rfl (by (try simp only [List.map_toArray,List.map_cons,List.map_nil]);first|done|rfl|(simp only [List.length_drop,List.length_take];rfl)) ?_;(with_reducible refine (htree_Add.calls _ _ t203 (⟨#[97]⟩:ByteArray) 0 t209 t212 _ ?side1 ?side2 A4.out).mono ?_);(case side1=>exact cc (Kd.N_reads' HO205.out).2.2);(case side2=>exact (Kd.N_reads' HO205.out).2.1);rintro e w15 ⟨v210,rfl,ho0,hb⟩;refine ⟨_,rfl,?_⟩;have n0_:=am (Kd.N_elder' (by (with_reducible repeat (first|apply Kd.N_alloc|apply Kd.N_drewN|apply Kd.N_drew));exact HO202.out) (by first|exact Kd.N_base ho0|exact Kd.S_base ho0) hb);have n1_:=am (Kd.N_elder' (by (with_reducible repeat (first|apply Kd.N_alloc|apply Kd.N_drewN|apply Kd.N_drew));exact HO205.out) (by first|exact Kd.N_base ho0|exact Kd.S_base ho0) hb);have n2_:=am (Kd.N_lower (Kd.N_mono (ok':=fun k_=>some k_≠(.slice Ao11 t200.length co11:Value).ownBlock∧some k_≠(.slice Ao13 t203.length co13:Value).ownBlock) (Kd.S_N (Kd.S_bound ho0)) (fun k_ hk_=>⟨(Kd.fresh' (Kd.N_lt (by (with_reducible repeat (first|apply Kd.N_alloc|apply Kd.N_drewN|apply Kd.N_drew));exact HO202.out)) k_ hk_.2.1),(Kd.fresh' (Kd.N_lt (by (with_reducible repeat (first|apply Kd.N_alloc|apply Kd.N_drewN|apply Kd.N_drew));exact HO205.out)) k_ hk_.2.1)⟩)) (bz HB));have n3_:=bst HB hb;clear HO202;clear HO205;clear HB;have HO202:=n0_;have HO205:=n1_;have HO211:=n2_;have HB:=n3_;clear n0_ n1_ n2_ n3_;(try clear hb);(try clear hb2);(try clear hk);(try clear hi);(try clear ho0))|(go_at_call 8;(refine (htree_Check.calls _ _ ([]:List (List Int)) t213 _ ?side1 ?side2 A9.out).mono ?_);(case side1=>exact Kd.C_nil _ _);(case side2=>exact Nat.le_refl _);rintro e w16 ⟨rfl,hb⟩;have n0_:=am (Kd.N_below (by (with_reducible repeat (first|apply Kd.N_alloc|apply Kd.N_drewN|apply Kd.N_drew));exact HO202.out) hb);have n1_:=am (Kd.N_below (by (with_reducible repeat (first|apply Kd.N_alloc|apply Kd.N_drewN|apply Kd.N_drew));exact HO205.out) hb);have n2_:=am (Kd.N_below (by (with_reducible repeat (first|apply Kd.N_alloc|apply Kd.N_drewN|apply Kd.N_drew));exact HO211.out) hb);have n3_:=bst HB hb;clear HO202;clear HO205;clear HO211;clear HB;have HO202:=n0_;have HO205:=n1_;have HO211:=n2_;have HB:=n3_;clear n0_ n1_ n2_ n3_;(try clear hb);(try clear hb2);(try clear hk);(try clear hi)))
     go_ret
     exact ⟨by first|rfl|(simp [errW_none,errW_some]<;>rfl)|(simp [*,errW_none,errW_some]<;>rfl),bb HB⟩
    ·rw [if_neg c8] at H
     have c8b0:(t212==4)=false:=beq_eq_false_iff_ne.mpr c8
     have c8b1:(t212 != 4)=true:=bne_iff_ne.mpr c8
     obtain rfl:=Option.some.inj H
     go_enter Try.func7,Try.ntmps7
     go_wp2_with (first|((with_reducible refine gate_callee (f:=12) rfl ?_);refine goesL_ (some 8) rfl rfl Try.func12 (by kernel_rfl) rfl #[] rfl (by (try simp only [List.map_toArray,List.map_cons,List.map_nil]);first|done|rfl|(simp only [List.length_drop,List.length_take];rfl)) ?_;(with_reducible refine (htree_New.calls k  t200 _ A1.out).mono ?_);rintro e w17 ⟨v201,rfl,ho0,hb⟩;refine ⟨_,rfl,?_⟩;have n0_:=am (Kd.N_lower (Kd.N_mono (ok':=fun k_=>True) ho0 (fun k_ hk_=>trivial)) (bz HB));have n1_:=bst HB hb;clear HB;have HO202:=n0_;have HB:=n1_;clear n0_ n1_;(try clear hb);(try clear hb2);(try clear hk);(try clear hi);(try clear ho0);obtain ⟨Ao18,co18,eo18⟩:=Kd.N_slice HO202.out;subst eo18)|((with_reducible refine gate_callee (f:=13) rfl ?_);refine goesL_ (some 10) rfl rfl Try.func13 (by kernel_rfl) rfl #[.slice Ao18 t200.length co18,.agg #[.string (⟨#[97]⟩:ByteArray),.int .i64 7]] rfl (by (try simp only [List.map_toArray,List.map_cons,List.map_nil]);first|done|rfl|(simp only [List.length_drop,List.length_take];rfl)) ?_;(with_reducible refine (htree_Add.calls _ _ t200 (⟨#[97]⟩:ByteArray) 7 t203 t206 _ ?side1 ?side2 A2.out).mono ?_);(case side1=>exact cc (Kd.N_reads' HO202.out).2.2);(case side2=>exact (Kd.N_reads' HO202.out).2.1);rintro e w19 ⟨v204,rfl,ho0,hb⟩;refine ⟨_,rfl,?_⟩;have n0_:=am (Kd.N_elder' (by (with_reducible repeat (first|apply Kd.N_alloc|apply Kd.N_drewN|apply Kd.N_drew));exact HO202.out) (by first|exact Kd.N_base ho0|exact Kd.S_base ho0) hb);have n1_:=am (Kd.N_lower (Kd.N_mono (ok':=fun k_=>some k_≠(.slice Ao18 t200.length co18:Value).ownBlock) (Kd.S_N (Kd.S_bound ho0)) (fun k_ hk_=>(Kd.fresh' (Kd.N_lt (by (with_reducible repeat (first|apply Kd.N_alloc|apply Kd.N_drewN|apply Kd.N_drew));exact HO202.out)) k_ hk_.2.1))) (bz HB));have n2_:=bst HB hb;clear HO202;clear HB;have HO202:=n0_;have HO205:=n1_;have HB:=n2_;clear n0_ n1_ n2_;(try clear hb);(try clear hb2);(try clear hk);(try clear hi);(try clear ho0);obtain ⟨Ao20,co20,eo20⟩:=Kd.N_slice HO205.out;subst eo20)|((with_reducible refine gate_callee (f:=17) rfl ?_);refine goesL_ (some 15) rfl rfl Try.func17 (by kernel_rfl) rfl #[.slice Ao20 t203.length co20,.string (⟨#[97]⟩:ByteArray)] rfl (by (try simp only [List.map_toArray,List.map_cons,List.map_nil]);first|done|rfl|(simp only [List.length_drop,List.length_take];rfl)) ?_;(with_reducible refine (htree_Find.calls _ _ t203 (⟨#[97]⟩:ByteArray) t207 t208 _ ?side1 ?side2 A3.out).mono ?_);(case side1=>exact cc (Kd.N_reads' HO205.out).2.2);(case side2=>exact (Kd.N_reads' HO205.out).2.1);rintro e w21 ⟨rfl,hb⟩;refine ⟨_,rfl,?_⟩;have n0_:=am (Kd.N_below (by (with_reducible repeat (first|apply Kd.N_alloc|apply Kd.N_drewN|apply Kd.N_drew));exact HO202.out) hb);have n1_:=am (Kd.N_below (by (with_reducible repeat (first|apply Kd.N_alloc|apply Kd.N_drewN|apply Kd.N_drew));exact HO205.out) hb);have n2_:=bst HB hb;clear HO202;clear HO205;clear HB;have HO202:=n0_;have HO205:=n1_;have HB:=n2_;clear n0_ n1_ n2_;(try clear hb);(try clear hb2);(try clear hk);(try clear hi))|((with_reducible refine gate_callee (f:=13) rfl ?_);refine goesL_ (some 21) rfl rfl Try.func13 (by kernel_rfl) rfl #[.slice Ao20 t203.length co20,.agg #[.string (⟨#[97]⟩:ByteArray),.int .i64 0]] rfl (by (try simp only [List.map_toArray,List.map_cons,List.map_nil]);first|done|rfl|(simp only [List.length_drop,List.length_take];rfl)) ?_;(with_reducible refine (htree_Add.calls _ _ t203 (⟨#[97]⟩:ByteArray) 0 t209 t212 _ ?side1 ?side2 A4.out).mono ?_);(case side1=>exact cc (Kd.N_reads' HO205.out).2.2);(case side2=>exact (Kd.N_reads' HO205.out).2.1);rintro e w22 ⟨v210,rfl,ho0,hb⟩;refine ⟨_,rfl,?_⟩;have n0_:=am (Kd.N_elder' (by (with_reducible repeat (first|apply Kd.N_alloc|apply Kd.N_drewN|apply Kd.N_drew));exact HO202.out) (by first|exact Kd.N_base ho0|exact Kd.S_base ho0) hb);have n1_:=am (Kd.N_elder' (by (with_reducible repeat (first|apply Kd.N_alloc|apply Kd.N_drewN|apply Kd.N_drew));exact HO205.out) (by first|exact Kd.N_base ho0|exact Kd.S_base ho0) hb);have n2_:=am (Kd.N_lower (Kd.N_mono (ok':=fun k_=>some k_≠(.slice Ao18 t200.length co18:Value).ownBlock∧some k_≠(.slice Ao20 t203.length co20:Value).ownBlock) (Kd.S_N (Kd.S_bound ho0)) (fun k_ hk_=>⟨(Kd.fresh' (Kd.N_lt (by (with_reducible repeat (first|apply Kd.N_alloc|apply Kd.N_drewN|apply Kd.N_drew));exact HO202.out)) k_ hk_.2.1),(Kd.fresh' (Kd.N_lt (by (with_reducible repeat (first|apply Kd.N_alloc|apply Kd.N_drewN|apply Kd.N_drew));exact HO205.out)) k_ hk_.2.1)⟩)) (bz HB));have n3_:=bst HB hb;clear HO202;clear HO205;clear HB;have HO202:=n0_;have HO205:=n1_;have HO211:=n2_;have HB:=n3_;clear n0_ n1_ n2_ n3_;(try clear hb);(try clear hb2);(try clear hk);(try clear hi);(try clear ho0)))
     go_ret
     exact ⟨by first|rfl|(simp [errW_none,errW_some]<;>rfl)|(simp [*,errW_none,errW_some]<;>rfl),bb HB⟩
   ·rw [if_neg c7] at H
    have c7b0:(t207==7)=false:=beq_eq_false_iff_ne.mpr c7
    have c7b1:(t207 != 7)=true:=bne_iff_ne.mpr c7
    obtain rfl:=Option.some.inj H
    go_enter Try.func7,Try.ntmps7
    go_wp2_with (first|((with_reducible refine gate_callee (f:=12) rfl ?_);refine goesL_ (some 8) rfl rfl Try.func12 (by kernel_rfl) rfl #[] rfl (by (try simp only [List.map_toArray,List.map_cons,List.map_nil]);first|done|rfl|(simp only [List.length_drop,List.length_take];rfl)) ?_;(with_reducible refine (htree_New.calls k  t200 _ A1.out).mono ?_);rintro e w23 ⟨v201,rfl,ho0,hb⟩;refine ⟨_,rfl,?_⟩;have n0_:=am (Kd.N_lower (Kd.N_mono (ok':=fun k_=>True) ho0 (fun k_ hk_=>trivial)) (bz HB));have n1_:=bst HB hb;clear HB;have HO202:=n0_;have HB:=n1_;clear n0_ n1_;(try clear hb);(try clear hb2);(try clear hk);(try clear hi);(try clear ho0);obtain ⟨Ao24,co24,eo24⟩:=Kd.N_slice HO202.out;subst eo24)|((with_reducible refine gate_callee (f:=13) rfl ?_);refine goesL_ (some 10) rfl rfl Try.func13 (by kernel_rfl) rfl #[.slice Ao24 t200.length co24,.agg #[.string (⟨#[97]⟩:ByteArray),.int .i64 7]] rfl (by (try simp only [List.map_toArray,List.map_cons,List.map_nil]);first|done|rfl|(simp only [List.length_drop,List.length_take];rfl)) ?_;(with_reducible refine (htree_Add.calls _ _ t200 (⟨#[97]⟩:ByteArray) 7 t203 t206 _ ?side1 ?side2 A2.out).mono ?_);(case side1=>exact cc (Kd.N_reads' HO202.out).2.2);(case side2=>exact (Kd.N_reads' HO202.out).2.1);rintro e w25 ⟨v204,rfl,ho0,hb⟩;refine ⟨_,rfl,?_⟩;have n0_:=am (Kd.N_elder' (by (with_reducible repeat (first|apply Kd.N_alloc|apply Kd.N_drewN|apply Kd.N_drew));exact HO202.out) (by first|exact Kd.N_base ho0|exact Kd.S_base ho0) hb);have n1_:=am (Kd.N_lower (Kd.N_mono (ok':=fun k_=>some k_≠(.slice Ao24 t200.length co24:Value).ownBlock) (Kd.S_N (Kd.S_bound ho0)) (fun k_ hk_=>(Kd.fresh' (Kd.N_lt (by (with_reducible repeat (first|apply Kd.N_alloc|apply Kd.N_drewN|apply Kd.N_drew));exact HO202.out)) k_ hk_.2.1))) (bz HB));have n2_:=bst HB hb;clear HO202;clear HB;have HO202:=n0_;have HO205:=n1_;have HB:=n2_;clear n0_ n1_ n2_;(try clear hb);(try clear hb2);(try clear hk);(try clear hi);(try clear ho0);obtain ⟨Ao26,co26,eo26⟩:=Kd.N_slice HO205.out;subst eo26)|((with_reducible refine gate_callee (f:=17) rfl ?_);refine goesL_ (some 15) rfl rfl Try.func17 (by kernel_rfl) rfl #[.slice Ao26 t203.length co26,.string (⟨#[97]⟩:ByteArray)] rfl (by (try simp only [List.map_toArray,List.map_cons,List.map_nil]);first|done|rfl|(simp only [List.length_drop,List.length_take];rfl)) ?_;(with_reducible refine (htree_Find.calls _ _ t203 (⟨#[97]⟩:ByteArray) t207 t208 _ ?side1 ?side2 A3.out).mono ?_);(case side1=>exact cc (Kd.N_reads' HO205.out).2.2);(case side2=>exact (Kd.N_reads' HO205.out).2.1);rintro e w27 ⟨rfl,hb⟩;refine ⟨_,rfl,?_⟩;have n0_:=am (Kd.N_below (by (with_reducible repeat (first|apply Kd.N_alloc|apply Kd.N_drewN|apply Kd.N_drew));exact HO202.out) hb);have n1_:=am (Kd.N_below (by (with_reducible repeat (first|apply Kd.N_alloc|apply Kd.N_drewN|apply Kd.N_drew));exact HO205.out) hb);have n2_:=bst HB hb;clear HO202;clear HO205;clear HB;have HO202:=n0_;have HO205:=n1_;have HB:=n2_;clear n0_ n1_ n2_;(try clear hb);(try clear hb2);(try clear hk);(try clear hi))|((with_reducible refine gate_callee (f:=13) rfl ?_);refine goesL_ (some 21) rfl rfl Try.func13 (by kernel_rfl) rfl #[.slice Ao26 t203.length co26,.agg #[.string (⟨#[97]⟩:ByteArray),.int .i64 0]] rfl (by (try simp only [List.map_toArray,List.map_cons,List.map_nil]);first|done|rfl|(simp only [List.length_drop,List.length_take];rfl)) ?_;(with_reducible refine (htree_Add.calls _ _ t203 (⟨#[97]⟩:ByteArray) 0 t209 t212 _ ?side1 ?side2 A4.out).mono ?_);(case side1=>exact cc (Kd.N_reads' HO205.out).2.2);(case side2=>exact (Kd.N_reads' HO205.out).2.1);rintro e w28 ⟨v210,rfl,ho0,hb⟩;refine ⟨_,rfl,?_⟩;have n0_:=am (Kd.N_elder' (by (with_reducible repeat (first|apply Kd.N_alloc|apply Kd.N_drewN|apply Kd.N_drew));exact HO202.out) (by first|exact Kd.N_base ho0|exact Kd.S_base ho0) hb);have n1_:=am (Kd.N_elder' (by (with_reducible repeat (first|apply Kd.N_alloc|apply Kd.N_drewN|apply Kd.N_drew));exact HO205.out) (by first|exact Kd.N_base ho0|exact Kd.S_base ho0) hb);have n2_:=am (Kd.N_lower (Kd.N_mono (ok':=fun k_=>some k_≠(.slice Ao24 t200.length co24:Value).ownBlock∧some k_≠(.slice Ao26 t203.length co26:Value).ownBlock) (Kd.S_N (Kd.S_bound ho0)) (fun k_ hk_=>⟨(Kd.fresh' (Kd.N_lt (by (with_reducible repeat (first|apply Kd.N_alloc|apply Kd.N_drewN|apply Kd.N_drew));exact HO202.out)) k_ hk_.2.1),(Kd.fresh' (Kd.N_lt (by (with_reducible repeat (first|apply Kd.N_alloc|apply Kd.N_drewN|apply Kd.N_drew));exact HO205.out)) k_ hk_.2.1)⟩)) (bz HB));have n3_:=bst HB hb;clear HO202;clear HO205;clear HB;have HO202:=n0_;have HO205:=n1_;have HO211:=n2_;have HB:=n3_;clear n0_ n1_ n2_ n3_;(try clear hb);(try clear hb2);(try clear hk);(try clear hi);(try clear ho0)))
    go_ret
    exact ⟨by first|rfl|(simp [errW_none,errW_some]<;>rfl)|(simp [*,errW_none,errW_some]<;>rfl),bb HB⟩
  ·rw [if_neg c6] at H
   have c6b0:(t208==0)=false:=beq_eq_false_iff_ne.mpr c6
   have c6b1:(t208 != 0)=true:=bne_iff_ne.mpr c6
   obtain rfl:=Option.some.inj H
   go_enter Try.func7,Try.ntmps7
   go_wp2_with (first|((with_reducible refine gate_callee (f:=12) rfl ?_);refine goesL_ (some 8) rfl rfl Try.func12 (by kernel_rfl) rfl #[] rfl (by (try simp only [List.map_toArray,List.map_cons,List.map_nil]);first|done|rfl|(simp only [List.length_drop,List.length_take];rfl)) ?_;(with_reducible refine (htree_New.calls k  t200 _ A1.out).mono ?_);rintro e w29 ⟨v201,rfl,ho0,hb⟩;refine ⟨_,rfl,?_⟩;have n0_:=am (Kd.N_lower (Kd.N_mono (ok':=fun k_=>True) ho0 (fun k_ hk_=>trivial)) (bz HB));have n1_:=bst HB hb;clear HB;have HO202:=n0_;have HB:=n1_;clear n0_ n1_;(try clear hb);(try clear hb2);(try clear hk);(try clear hi);(try clear ho0);obtain ⟨Ao30,co30,eo30⟩:=Kd.N_slice HO202.out;subst eo30)|((with_reducible refine gate_callee (f:=13) rfl ?_);refine goesL_ (some 10) rfl rfl Try.func13 (by kernel_rfl) rfl #[.slice Ao30 t200.length co30,.agg #[.string (⟨#[97]⟩:ByteArray),.int .i64 7]] rfl (by (try simp only [List.map_toArray,List.map_cons,List.map_nil]);first|done|rfl|(simp only [List.length_drop,List.length_take];rfl)) ?_;(with_reducible refine (htree_Add.calls _ _ t200 (⟨#[97]⟩:ByteArray) 7 t203 t206 _ ?side1 ?side2 A2.out).mono ?_);(case side1=>exact cc (Kd.N_reads' HO202.out).2.2);(case side2=>exact (Kd.N_reads' HO202.out).2.1);rintro e w31 ⟨v204,rfl,ho0,hb⟩;refine ⟨_,rfl,?_⟩;have n0_:=am (Kd.N_elder' (by (with_reducible repeat (first|apply Kd.N_alloc|apply Kd.N_drewN|apply Kd.N_drew));exact HO202.out) (by first|exact Kd.N_base ho0|exact Kd.S_base ho0) hb);have n1_:=am (Kd.N_lower (Kd.N_mono (ok':=fun k_=>some k_≠(.slice Ao30 t200.length co30:Value).ownBlock) (Kd.S_N (Kd.S_bound ho0)) (fun k_ hk_=>(Kd.fresh' (Kd.N_lt (by (with_reducible repeat (first|apply Kd.N_alloc|apply Kd.N_drewN|apply Kd.N_drew));exact HO202.out)) k_ hk_.2.1))) (bz HB));have n2_:=bst HB hb;clear HO202;clear HB;have HO202:=n0_;have HO205:=n1_;have HB:=n2_;clear n0_ n1_ n2_;(try clear hb);(try clear hb2);(try clear hk);(try clear hi);(try clear ho0);obtain ⟨Ao32,co32,eo32⟩:=Kd.N_slice HO205.out;subst eo32)|((with_reducible refine gate_callee (f:=17) rfl ?_);refine goesL_ (some 15) rfl rfl Try.func17 (by kernel_rfl) rfl #[.slice Ao32 t203.length co32,.string (⟨#[97]⟩:ByteArray)] rfl (by (try simp only [List.map_toArray,List.map_cons,List.map_nil]);first|done|rfl|(simp only [List.length_drop,List.length_take];rfl)) ?_;(with_reducible refine (htree_Find.calls _ _ t203 (⟨#[97]⟩:ByteArray) t207 t208 _ ?side1 ?side2 A3.out).mono ?_);(case side1=>exact cc (Kd.N_reads' HO205.out).2.2);(case side2=>exact (Kd.N_reads' HO205.out).2.1);rintro e w33 ⟨rfl,hb⟩;refine ⟨_,rfl,?_⟩;have n0_:=am (Kd.N_below (by (with_reducible repeat (first|apply Kd.N_alloc|apply Kd.N_drewN|apply Kd.N_drew));exact HO202.out) hb);have n1_:=am (Kd.N_below (by (with_reducible repeat (first|apply Kd.N_alloc|apply Kd.N_drewN|apply Kd.N_drew));exact HO205.out) hb);have n2_:=bst HB hb;clear HO202;clear HO205;clear HB;have HO202:=n0_;have HO205:=n1_;have HB:=n2_;clear n0_ n1_ n2_;(try clear hb);(try clear hb2);(try clear hk);(try clear hi))|((with_reducible refine gate_callee (f:=13) rfl ?_);refine goesL_ (some 21) rfl rfl Try.func13 (by kernel_rfl) rfl #[.slice Ao32 t203.length co32,.agg #[.string (⟨#[97]⟩:ByteArray),.int .i64 0]] rfl (by (try simp only [List.map_toArray,List.map_cons,List.map_nil]);first|done|rfl|(simp only [List.length_drop,List.length_take];rfl)) ?_;(with_reducible refine (htree_Add.calls _ _ t203 (⟨#[97]⟩:ByteArray) 0 t209 t212 _ ?side1 ?side2 A4.out).mono ?_);(case side1=>exact cc (Kd.N_reads' HO205.out).2.2);(case side2=>exact (Kd.N_reads' HO205.out).2.1);rintro e w34 ⟨v210,rfl,ho0,hb⟩;refine ⟨_,rfl,?_⟩;have n0_:=am (Kd.N_elder' (by (with_reducible repeat (first|apply Kd.N_alloc|apply Kd.N_drewN|apply Kd.N_drew));exact HO202.out) (by first|exact Kd.N_base ho0|exact Kd.S_base ho0) hb);have n1_:=am (Kd.N_elder' (by (with_reducible repeat (first|apply Kd.N_alloc|apply Kd.N_drewN|apply Kd.N_drew));exact HO205.out) (by first|exact Kd.N_base ho0|exact Kd.S_base ho0) hb);have n2_:=am (Kd.N_lower (Kd.N_mono (ok':=fun k_=>some k_≠(.slice Ao30 t200.length co30:Value).ownBlock∧some k_≠(.slice Ao32 t203.length co32:Value).ownBlock) (Kd.S_N (Kd.S_bound ho0)) (fun k_ hk_=>⟨(Kd.fresh' (Kd.N_lt (by (with_reducible repeat (first|apply Kd.N_alloc|apply Kd.N_drewN|apply Kd.N_drew));exact HO202.out)) k_ hk_.2.1),(Kd.fresh' (Kd.N_lt (by (with_reducible repeat (first|apply Kd.N_alloc|apply Kd.N_drewN|apply Kd.N_drew));exact HO205.out)) k_ hk_.2.1)⟩)) (bz HB));have n3_:=bst HB hb;clear HO202;clear HO205;clear HB;have HO202:=n0_;have HO205:=n1_;have HO211:=n2_;have HB:=n3_;clear n0_ n1_ n2_ n3_;(try clear hb);(try clear hb2);(try clear hk);(try clear hi);(try clear ho0)))
   go_ret
   exact ⟨by first|rfl|(simp [errW_none,errW_some]<;>rfl)|(simp [*,errW_none,errW_some]<;>rfl),bb HB⟩
 ·rw [if_neg c5] at H
  have c5b0:(t206==0)=false:=beq_eq_false_iff_ne.mpr c5
  have c5b1:(t206 != 0)=true:=bne_iff_ne.mpr c5
  obtain rfl:=Option.some.inj H
  go_enter Try.func7,Try.ntmps7
  go_wp2_with (first|((with_reducible refine gate_callee (f:=12) rfl ?_);refine goesL_ (some 8) rfl rfl Try.func12 (by kernel_rfl) rfl #[] rfl (by (try simp only [List.map_toArray,List.map_cons,List.map_nil]);first|done|rfl|(simp only [List.length_drop,List.length_take];rfl)) ?_;(with_reducible refine (htree_New.calls k  t200 _ A1.out).mono ?_);rintro e w35 ⟨v201,rfl,ho0,hb⟩;refine ⟨_,rfl,?_⟩;have n0_:=am (Kd.N_lower (Kd.N_mono (ok':=fun k_=>True) ho0 (fun k_ hk_=>trivial)) (bz HB));have n1_:=bst HB hb;clear HB;have HO202:=n0_;have HB:=n1_;clear n0_ n1_;(try clear hb);(try clear hb2);(try clear hk);(try clear hi);(try clear ho0);obtain ⟨Ao36,co36,eo36⟩:=Kd.N_slice HO202.out;subst eo36)|((with_reducible refine gate_callee (f:=13) rfl ?_);refine goesL_ (some 10) rfl rfl Try.func13 (by kernel_rfl) rfl #[.slice Ao36 t200.length co36,.agg #[.string (⟨#[97]⟩:ByteArray),.int .i64 7]] rfl (by (try simp only [List.map_toArray,List.map_cons,List.map_nil]);first|done|rfl|(simp only [List.length_drop,List.length_take];rfl)) ?_;(with_reducible refine (htree_Add.calls _ _ t200 (⟨#[97]⟩:ByteArray) 7 t203 t206 _ ?side1 ?side2 A2.out).mono ?_);(case side1=>exact cc (Kd.N_reads' HO202.out).2.2);(case side2=>exact (Kd.N_reads' HO202.out).2.1);rintro e w37 ⟨v204,rfl,ho0,hb⟩;refine ⟨_,rfl,?_⟩;have n0_:=am (Kd.N_elder' (by (with_reducible repeat (first|apply Kd.N_alloc|apply Kd.N_drewN|apply Kd.N_drew));exact HO202.out) (by first|exact Kd.N_base ho0|exact Kd.S_base ho0) hb);have n1_:=am (Kd.N_lower (Kd.N_mono (ok':=fun k_=>some k_≠(.slice Ao36 t200.length co36:Value).ownBlock) (Kd.S_N (Kd.S_bound ho0)) (fun k_ hk_=>(Kd.fresh' (Kd.N_lt (by (with_reducible repeat (first|apply Kd.N_alloc|apply Kd.N_drewN|apply Kd.N_drew));exact HO202.out)) k_ hk_.2.1))) (bz HB));have n2_:=bst HB hb;clear HO202;clear HB;have HO202:=n0_;have HO205:=n1_;have HB:=n2_;clear n0_ n1_ n2_;(try clear hb);(try clear hb2);(try clear hk);(try clear hi);(try clear ho0);obtain ⟨Ao38,co38,eo38⟩:=Kd.N_slice HO205.out;subst eo38)|((with_reducible refine gate_callee (f:=17) rfl ?_);refine goesL_ (some 15) rfl rfl Try.func17 (by kernel_rfl) rfl #[.slice Ao38 t203.length co38,.string (⟨#[97]⟩:ByteArray)] rfl (by (try simp only [List.map_toArray,List.map_cons,List.map_nil]);first|done|rfl|(simp only [List.length_drop,List.length_take];rfl)) ?_;(with_reducible refine (htree_Find.calls _ _ t203 (⟨#[97]⟩:ByteArray) t207 t208 _ ?side1 ?side2 A3.out).mono ?_);(case side1=>exact cc (Kd.N_reads' HO205.out).2.2);(case side2=>exact (Kd.N_reads' HO205.out).2.1);rintro e w39 ⟨rfl,hb⟩;refine ⟨_,rfl,?_⟩;have n0_:=am (Kd.N_below (by (with_reducible repeat (first|apply Kd.N_alloc|apply Kd.N_drewN|apply Kd.N_drew));exact HO202.out) hb);have n1_:=am (Kd.N_below (by (with_reducible repeat (first|apply Kd.N_alloc|apply Kd.N_drewN|apply Kd.N_drew));exact HO205.out) hb);have n2_:=bst HB hb;clear HO202;clear HO205;clear HB;have HO202:=n0_;have HO205:=n1_;have HB:=n2_;clear n0_ n1_ n2_;(try clear hb);(try clear hb2);(try clear hk);(try clear hi))|((with_reducible refine gate_callee (f:=13) rfl ?_);refine goesL_ (some 21) rfl rfl Try.func13 (by kernel_rfl) rfl #[.slice Ao38 t203.length co38,.agg #[.string (⟨#[97]⟩:ByteArray),.int .i64 0]] rfl (by (try simp only [List.map_toArray,List.map_cons,List.map_nil]);first|done|rfl|(simp only [List.length_drop,List.length_take];rfl)) ?_;(with_reducible refine (htree_Add.calls _ _ t203 (⟨#[97]⟩:ByteArray) 0 t209 t212 _ ?side1 ?side2 A4.out).mono ?_);(case side1=>exact cc (Kd.N_reads' HO205.out).2.2);(case side2=>exact (Kd.N_reads' HO205.out).2.1);rintro e w40 ⟨v210,rfl,ho0,hb⟩;refine ⟨_,rfl,?_⟩;have n0_:=am (Kd.N_elder' (by (with_reducible repeat (first|apply Kd.N_alloc|apply Kd.N_drewN|apply Kd.N_drew));exact HO202.out) (by first|exact Kd.N_base ho0|exact Kd.S_base ho0) hb);have n1_:=am (Kd.N_elder' (by (with_reducible repeat (first|apply Kd.N_alloc|apply Kd.N_drewN|apply Kd.N_drew));exact HO205.out) (by first|exact Kd.N_base ho0|exact Kd.S_base ho0) hb);have n2_:=am (Kd.N_lower (Kd.N_mono (ok':=fun k_=>some k_≠(.slice Ao36 t200.length co36:Value).ownBlock∧some k_≠(.slice Ao38 t203.length co38:Value).ownBlock) (Kd.S_N (Kd.S_bound ho0)) (fun k_ hk_=>⟨(Kd.fresh' (Kd.N_lt (by (with_reducible repeat (first|apply Kd.N_alloc|apply Kd.N_drewN|apply Kd.N_drew));exact HO202.out)) k_ hk_.2.1),(Kd.fresh' (Kd.N_lt (by (with_reducible repeat (first|apply Kd.N_alloc|apply Kd.N_drewN|apply Kd.N_drew));exact HO205.out)) k_ hk_.2.1)⟩)) (bz HB));have n3_:=bst HB hb;clear HO202;clear HO205;clear HB;have HO202:=n0_;have HO205:=n1_;have HO211:=n2_;have HB:=n3_;clear n0_ n1_ n2_ n3_;(try clear hb);(try clear hb2);(try clear hk);(try clear hi);(try clear ho0)))
  go_ret
  exact ⟨by first|rfl|(simp [errW_none,errW_some]<;>rfl)|(simp [*,errW_none,errW_some]<;>rfl),bb HB⟩
end Go.Proofs.Yteglhbfhibfodaa.Pr
end
section
namespace Go.Proofs.Yteglhbfhibfodaa.Pr
open Go Go.RowKit Go.Shelf Go.Proofs.YteglhbfhibfodaaW.PrintWords Go.Proofs.YteglhbfhibfodaaW.PrintLast Go.Proofs.YteglhbfhibfodaaW.PrintMore Go.Proofs.Yteglhbfhibfodaa.Sq
set_option linter.unusedVariables false
set_option linter.unusedSimpArgs false
def OffRow (W : World) (b k : Nat) : Prop := ∀ v, W.cell? ⟨b, 0, none⟩ = some v → v.ownBlock ≠ some k
def Free (d : Nat) (bs : List Nat) (W : World) (k : Nat) : Prop := k ≠ d + 1 ∧ ∀ b ∈ bs, k ≠ b ∧ OffRow W b k
def KpF (d : Nat) (bs : List Nat) (W W' : World) : Prop := W.heap.size ≤ W'.heap.size ∧ ∀ k cs t, W.heap[k]? = some (.cells cs t (0, 0)) → Free d bs W k → W'.heap[k]? = some (.cells cs t (0, 0)) ∧ Free d bs W' k
theorem KpF.trans {d : Nat} {bs : List Nat} {A B C : World} (h : KpF d bs A B) (g : KpF d bs B C) : KpF d bs A C :=
  ⟨Nat.le_trans h.1 g.1, fun k cs t hk hf => by
    obtain ⟨h1, h2⟩ := h.2 k cs t hk hf
    exact g.2 k cs t h1 h2⟩
theorem cell_of_heap {A B : World} {b : Nat} (h : B.heap[b]? = A.heap[b]?) : B.cell? ⟨b, 0, none⟩ = A.cell? ⟨b, 0, none⟩ := by
  unfold World.cell?; rw [h]
theorem KpF.put {d : Nat} {bs : List Nat} (hb : ∀ b ∈ bs, b < d) (W : World) (o : Obj) : KpF d bs W (W.putObj (d + 1) o) :=
  ⟨by simp [World.putObj], fun k cs t hk hf => ⟨(World.putObj_heap_other hf.1).trans hk, hf.1, fun b hbb => ⟨(hf.2 b hbb).1, fun v hv => (hf.2 b hbb).2 v (by
    rw [cell_of_heap (World.putObj_heap_other (by have := hb b hbb; omega))] at hv; exact hv)⟩⟩⟩
theorem Free.below {d : Nat} {bs : List Nat} {A B : World} {k : Nat} (hA : ∀ b ∈ bs, b < A.heap.size) (h : Below A.heap.size A B) (hf : Free d bs A k) : Free d bs B k :=
  ⟨hf.1, fun b hb => ⟨(hf.2 b hb).1, fun v hv => (hf.2 b hb).2 v (by
    rw [cell_of_heap (h.block b (hA b hb))] at hv; exact hv)⟩⟩
structure Own1 (d : Nat) (bs : List Nat) (W : World) (k : Nat) (cs : Array Value) (t : TypeId) : Prop where
  at_ : W.heap[k]? = some (.cells cs t (0, 0))
  free : Free d bs W k
theorem Own1.kept {d : Nat} {bs : List Nat} {A B : World} {k : Nat} {cs : Array Value} {t : TypeId} (h : Own1 d bs A k cs t) (hk : KpF d bs A B) : Own1 d bs B k cs t := by
  obtain ⟨h1, h2⟩ := hk.2 k _ _ h.at_ h.free
  exact ⟨h1, h2⟩
theorem Own1.below {d : Nat} {bs : List Nat} {A B : World} {k : Nat} {cs : Array Value} {t : TypeId} (h : Own1 d bs A k cs t) (hA : ∀ b ∈ bs, b < A.heap.size) (hk : Below A.heap.size A B) : Own1 d bs B k cs t :=
  ⟨blk_below h.at_ hk, h.free.below hA hk⟩
theorem own_ge {W : World} {base : Nat} {e : TypeId} {size : Nat} {v : Value} {k : Nat} {xs : List Value} (h : W.ownsRow base e size v k xs) {g : Nat} (hg : v.ownBlock = some g) : base ≤ g ∧ ∃ cs, W.heap[g]? = some (.cells cs e (0, 0)) := by
  rcases h.2 with ⟨rfl, _⟩ | ⟨g', cap, cur, rfl, hb, hh, _⟩
  · simp [Value.ownBlock] at hg
  · obtain rfl : g' = g := by simpa [Value.ownBlock] using hg
    exact ⟨hb, cur, hh⟩
theorem own_of_heap {W W' : World} {base : Nat} {e : TypeId} {size : Nat} {v : Value} {k : Nat} {xs : List Value} (h : W.ownsRow base e size v k xs) (hs : ∀ g, v.ownBlock = some g → W'.heap[g]? = W.heap[g]?) : W'.ownsRow base e size v k xs :=
  ⟨h.1, h.2.imp id (fun ⟨g, cap, cur, ev, hb, hg, r⟩ => ⟨g, cap, cur, ev, hb, (hs g (by rw [ev]; rfl)).trans hg, r⟩)⟩
structure LB {α : Type} (e sz tb : Nat) (cells : α → List Value) (bb b : Nat) (xs : List α) (v : Value) (W : World) : Prop where
  box : W.heap[b]? = some (.cells #[v] tb (0, 0))
  row : W.ownsRow bb e sz v xs.length (xs.flatMap cells)
section
variable {α : Type} {e sz tb bb b : Nat} {cells : α → List Value} {xs : List α} {v : Value} {W W' : World}
theorem LB.heap (h : LB e sz tb cells bb b xs v W) (h1 : W'.heap[b]? = W.heap[b]?) (h2 : ∀ g, v.ownBlock = some g → W'.heap[g]? = W.heap[g]?) : LB e sz tb cells bb b xs v W' :=
  ⟨h1.trans h.box, own_of_heap h.row h2⟩
theorem LB.below (h : LB e sz tb cells bb b xs v W) (hb : Below W.heap.size W W') : LB e sz tb cells bb b xs v W' :=
  h.heap (hb.block b (blk_lt h.box)) (fun g hg => by obtain ⟨_, cs, hh⟩ := own_ge h.row hg; exact hb.block g (blk_lt hh))
theorem LB.grown (h : LB e sz tb cells bb b xs v W) {row : Option Nat} (hg : W.grownBy W' row) (hr : ∀ r, row = some r → ∃ o : Obj, W.heap[r]? = some o ∧ o.isCells = false) : LB e sz tb cells bb b xs v W' := by
  have key : ∀ k cs t fr, W.heap[k]? = some (Obj.cells cs t fr) → W'.heap[k]? = W.heap[k]? := fun k cs t fr hk => hg.block k (blk_lt hk) (fun ee => by
    obtain ⟨o, ho, hc⟩ := hr k ee.symm
    rw [hk] at ho; cases ho; cases hc)
  exact h.heap (key b _ _ _ h.box) (fun g hgv => by obtain ⟨_, cs, hh⟩ := own_ge h.row hgv; exact key g _ _ _ hh)
theorem LB.cell (h : LB e sz tb cells bb b xs v W) : W.cell? ⟨b, 0, none⟩ = some v := blk_cell h.box 0
theorem LB.off (h : LB e sz tb cells bb b xs v W) {k : Nat} (hk : W.heap.size ≤ k) : OffRow W b k := fun u hu eo => by
  rw [h.cell] at hu
  injection hu with hu
  subst hu
  obtain ⟨_, cs, hh⟩ := own_ge h.row eo
  have := blk_lt hh
  omega
theorem LB.slice (h : LB e sz tb cells bb b xs v W) : ∃ A c, v = .slice A xs.length c := by
  rcases h.row.2 with ⟨e1, e2⟩ | ⟨g, cap, cur, e1, _⟩
  · exact ⟨none, 0, by rw [e1, e2]⟩
  · exact ⟨_, _, e1⟩
theorem LB.app (h : LB e sz tb cells bb b xs v W) (hbb : b < bb) {tmp : Obj} {w1 : World} {v' : Value} {y : α} (hgrow : (W.alloc tmp).grownBy w1 v.ownBlock) (hown : w1.ownsRow bb e sz v' (xs.length + 1) (xs.flatMap cells ++ cells y)) :
    w1.heap[b]? = some (.cells #[v] tb (0, 0)) ∧ LB e sz tb cells bb b (xs ++ [y]) v' (w1.setCell ⟨b, 0, none⟩ v') := by
  have h1 : w1.heap[b]? = some (.cells #[v] tb (0, 0)) := (hgrow.block b (by have := blk_lt h.box; simp; omega) (fun ee => by have := (own_ge h.row ee.symm).1; omega)).trans (blk_alloc h.box tmp)
  refine ⟨h1, blk_put h1 0 v' rfl, own_of_heap (W := w1) ?_ (fun g hg => Below.heap_setCell w1 ⟨b, 0, none⟩ v' g (fun ee => by have := (own_ge hown hg).1; have e2 : g = b := ee; omega))⟩
  rw [List.length_append, List.flatMap_append]
  simpa using hown
theorem LB.keeps (h : LB e sz tb cells bb b xs v W) {tmp : Obj} {w1 : World} (v' : Value) (hgrow : (W.alloc tmp).grownBy w1 v.ownBlock) : KeepsOthers W (w1.setCell ⟨b, 0, none⟩ v') := by
  refine ((KeepsOthers.alloc W tmp).trans (KeepsOthers.of_grownBy hgrow fun j o ej hj => ?_)).trans (KeepsOthers.setCell _ _ _)
  obtain ⟨_, cs, hh⟩ := own_ge h.row ej
  rw [blk_alloc hh tmp] at hj
  cases hj; rfl
theorem LB.bel (h : LB e sz tb cells bb b xs v W) (hbb : b < bb) {w0 : Nat} {w : World} (hw : w0 ≤ b) (hb : Below w0 w W) {tmp : Obj} {w1 : World} (v' : Value) (hgrow : (W.alloc tmp).grownBy w1 v.ownBlock) : Below w0 w (w1.setCell ⟨b, 0, none⟩ v') ∧ W.heap.size ≤ (w1.setCell ⟨b, 0, none⟩ v').heap.size := by
  have hbl := blk_lt h.box
  have h1 : Below w0 w w1 := (hb.alloc (by omega) tmp).grown hgrow (by simp; omega) (fun k ek => by have := (own_ge h.row ek).1; omega)
  refine ⟨h1.setCell (p := ⟨b, 0, none⟩) hw _, ?_⟩
  have := hgrow.size
  simp [World.setCell] at this ⊢
  omega
theorem KpF.app {d : Nat} {bs : List Nat} (h : LB e sz tb cells bb b xs v W) (hb : b ∈ bs) (hbs : ∀ q ∈ bs, q < bb ∧ q < W.heap.size) {tmp : Obj} {w1 : World} {v' : Value} (hgrow : (W.alloc tmp).grownBy w1 v.ownBlock)
    (hat : v'.ownBlock = v.ownBlock ∨ v'.ownBlock = some (W.alloc tmp).heap.size) (hcell : w1.heap[b]? = some (.cells #[v] tb (0, 0))) : KpF d bs W (w1.setCell ⟨b, 0, none⟩ v') := by
  have hs : W.heap.size < (W.alloc tmp).heap.size := by simp
  refine ⟨by have := hgrow.size; simp [World.setCell]; omega, fun k cs t hk hf => ?_⟩
  have hkl := blk_lt hk
  have hoff := (hf.2 b hb).2 v h.cell
  have hne := (hf.2 b hb).1
  have h1 : (w1.setCell ⟨b, 0, none⟩ v').heap[k]? = some (.cells cs t (0, 0)) :=
    (Below.heap_setCell w1 ⟨b, 0, none⟩ v' k hne).trans ((hgrow.block k (by omega) (fun ee => hoff ee.symm)).trans (blk_alloc hk tmp))
  refine ⟨h1, hf.1, fun q hq => ⟨(hf.2 q hq).1, fun u hu => ?_⟩⟩
  by_cases e1 : q = b
  · subst e1
    have hq2 : (w1.setCell ⟨q, 0, none⟩ v').cell? ⟨q, 0, none⟩ = some v' := blk_cell (blk_put hcell 0 v' rfl) 0
    rw [hq2] at hu
    injection hu with hu
    subst hu
    intro eo
    rcases hat with hat | hat
    · exact hoff (hat.symm.trans eo)
    · have := hat.symm.trans eo
      injection this with this
      omega
  · have hqb := hbs q hq
    have h2 : (w1.setCell ⟨b, 0, none⟩ v').heap[q]? = W.heap[q]? :=
      (Below.heap_setCell w1 ⟨b, 0, none⟩ v' q e1).trans ((hgrow.block q (by omega) (fun ee => by have := (own_ge h.row ee.symm).1; omega)).trans (Below.heap_alloc W tmp q hqb.2))
    rw [cell_of_heap h2] at hu
    exact (hf.2 q hq).2 u hu
end
def AsG (bs : List Nat) (act : Nat → S30 → Act) (I : List S30 → World → Prop) (a' : Act) (s : List S30 × S30 × World) (W : World) : Prop :=
  ∃ eb : Nat, a' = act eb s.2.1 ∧ W.heap[eb]? = some (.cells #[.string s.2.1.f0, .int .i64 s.2.1.f1] 30 (0, 0)) ∧ I s.1 W ∧ s.2.2.heap.size = eb ∧
    (∀ (k : Nat) (cs : Array Value) (t : TypeId), s.2.2.heap[k]? = some (Obj.cells cs t (0, 0)) → W.heap[k]? = some (Obj.cells cs t (0, 0))) ∧ ∀ b ∈ bs, OffRow W b eb ∧ ∃ (cs : Array Value) (t : TypeId), s.2.2.heap[b]? = some (Obj.cells cs t (0, 0))
theorem AsG.own {B : Nat} {bs : List Nat} {act : Nat → S30 → Act} {I : List S30 → World → Prop} (hI : OwnFrom B I) (a' : Act) : OwnFrom B (AsG bs act I a') := by
  rintro s A A' row ⟨eb, h1, h2, h3, h4, h5, h6⟩ hg hr
  have key : ∀ k cs t, A.heap[k]? = some (Obj.cells cs t (0, 0)) → A'.heap[k]? = some (Obj.cells cs t (0, 0)) := fun k cs t hk => (hg.block k (blk_lt hk) (fun ee => by
    obtain ⟨_, o, ho, hc⟩ := hr k ee.symm
    rw [hk] at ho; cases ho; cases hc)).trans hk
  refine ⟨eb, h1, key _ _ _ h2, hI _ _ _ _ h3 hg hr, h4, fun k cs t hk => key _ _ _ (h5 k cs t hk), fun b hb => ⟨fun v hv => ?_, (h6 b hb).2⟩⟩
  obtain ⟨cs, t, hc⟩ := (h6 b hb).2
  have e1 := h5 b cs t hc
  rw [cell_of_heap ((key b cs t e1).trans e1.symm)] at hv
  exact (h6 b hb).1 v hv
theorem AsG.kp {d : Nat} {bs : List Nat} {act : Nat → S30 → Act} {I : List S30 → World → Prop} {a' : Act} {s : List S30 × S30 × World} {W W1 : World} (h : AsG bs act I a' s W)
    (hW : W.heap.size ≤ W1.heap.size) (h1 : ∀ k, k ≠ s.2.2.heap.size → W1.heap[k]? = W.heap[k]?) : KpF d bs s.2.2 W1 := by
  obtain ⟨eb, _, h2, _, h4, h5, h6⟩ := h
  have key : ∀ k cs t, s.2.2.heap[k]? = some (Obj.cells cs t (0, 0)) → W1.heap[k]? = some (Obj.cells cs t (0, 0)) := fun k cs t hk => (h1 k (by have := blk_lt hk; omega)).trans (h5 k cs t hk)
  refine ⟨by have := blk_lt h2; omega, fun k cs t hk hf => ⟨key k cs t hk, hf.1, fun b hb => ⟨(hf.2 b hb).1, fun v hv => ?_⟩⟩⟩
  obtain ⟨cs', t', hc⟩ := (h6 b hb).2
  rw [cell_of_heap ((key b cs' t' hc).trans hc.symm)] at hv
  exact (hf.2 b hb).2 v hv
theorem AsG.start {bs : List Nat} {act : Nat → S30 → Act} {I : List S30 → World → Prop} {pre : List S30} {x : S30} {W : World} (hI : I pre W) (hIB : ∀ W', Below W.heap.size W W' → I pre W')
    (hb : ∀ b ∈ bs, (∀ k, W.heap.size ≤ k → OffRow W b k) ∧ ∃ cs t, W.heap[b]? = some (.cells cs t (0, 0))) : AsG bs act I (act W.heap.size x) (pre, x, W) (W.alloc (.cells #[.string x.f0, .int .i64 x.f1] 30)) := by
  have hB := (Below.refl W.heap.size W).alloc (Nat.le_refl _) (.cells #[.string x.f0, .int .i64 x.f1] 30)
  refine ⟨W.heap.size, rfl, blk_new W _, hIB _ hB, rfl, fun k cs t hk => blk_below hk hB, fun b hbb => ⟨fun v hv => ?_, (hb b hbb).2⟩⟩
  obtain ⟨cs, t, hc⟩ := (hb b hbb).2
  rw [cell_of_heap ((blk_below hc hB).trans hc.symm)] at hv
  exact (hb b hbb).1 _ (Nat.le_refl _) v hv
end Go.Proofs.Yteglhbfhibfodaa.Pr
end
section
namespace Go.Proofs.Yteglhbfhibfodaa.Pr
open Go.RowKit Go.Proofs.YteglhbfhibfodaaW.PrintWords Go.Proofs.YteglhbfhibfodaaW.PrintLast Go.Proofs.YteglhbfhibfodaaW.PrintMore
attribute [local go_sem] max2_int min2_int max_two min_two max_three min_three max_four min_four
attribute [local go_sem] Go.Proofs.Yteglhbfhibfodaa.Hl.str_geq Go.Proofs.Yteglhbfhibfodaa.Hl.str_gtr Go.Proofs.Yteglhbfhibfodaa.Hl.str_leq
set_option linter.unusedVariables false
set_option linter.unusedSimpArgs false
open Go.Shelf Go.Proofs.Yteglhbfhibfodaa.Sq
theorem values_made (A0:Option Addr) (n c:Nat) (w:World):Calls Try.prog 21 #[.slice A0 n c] w fun e w' =>
  e=.returned (.func (.func 39) #[] #[.pointer (some ⟨w.heap.size,0,none⟩)])∧w'=w.alloc (.cells #[.slice A0 n c] 26):=by
 go_enter Try.func21,Try.ntmps21
 go_wp2;go_ret
 exact ⟨rfl,rfl⟩
set_option maxHeartbeats 8000000 in
set_option maxRecDepth 100000 in
theorem values_in (n:Nat) (hn:1≤n) (lp d:Nat) (bs:List Nat) (hbs:∀ b∈bs,b < d) (vb:Nat) (A:Option Addr) (c0:Nat) (l:List S30) (hl:l.length < 1000)
  (I:List S30→World→Prop) (R:World→Prop) (Rx:Code→World→Prop) (N:Nat) (hN:l.length≤N) (hC:∀ pre W,I pre W→Kd.C k30 W A l.length l)
  (hIB:∀ pre W W',I pre W→Below W.heap.size W W'→I pre W') (hRB:∀ W W',R W→Below W.heap.size W W'→R W') (hRd:∀ W,R W→d+1 < W.heap.size)
  (hY:∀ pre x W1,I pre W1→R W1→pre.length < N→YieldAt Fence.wide (n - 1) Try.prog lp #[.agg #[.string x.f0,.int .i64 x.f1]] W1 fun e W' =>
    (e=.returned (.bool true)∧I (pre++[x]) W'∧R W'∧KpF d bs W1 W')∨(e=.returned (.bool false)∧∃ c:Code,False∧Rx c W'))
  (W:World) (hv:Own1 d bs W vb #[.slice A l.length c0] 26) (h0:I [] W) (hr0:R W) :
  CallsIn Fence.wide n Try.prog 39 #[.func (.yield lp) #[] #[],.pointer (some ⟨vb,0,none⟩)] W fun e W'=>(∃ v,e=.returned v)∧I l W'∧R W':=by
 refine callsIn_of_wp Try.func39 rfl trivial ?_ rfl
 simp only [Try.ntmps39,List.size_toArray,List.length_cons,List.length_nil,Nat.reduceAdd,Nat.reduceSub,Array.replicate_succ,Array.replicate_zero,List.push_toArray,List.append_toArray,List.nil_append,List.cons_append]
 refine wpIn_wide.2 ?_
 have HV:=am hv
 have H0:=am h0
 have HR0:=am hr0
 have HL:=am hl
 have HN:=am hN
 have hcv:=(blk_cell hv.at_ 0).trans rfl
 clear hv h0 hr0 hl hN;go_wp2
 go_loopg [7] l.length (fun kq v7 w'=>∃ (j:Nat),v7=.int .i64 (j:Int)∧Aside0 (j+kq=l.length)∧Aside0 (I (l.take j) w')∧Aside0 (R w'))
 case atStart=>exact ⟨0,rfl,⟨Nat.zero_add _⟩,H0,HR0⟩
 case round =>
  obtain ⟨j,rfl,HJ,HI,HR⟩:=hrel
  clear hcv
  cases gk with
  | zero =>
   have hge:¬ (j < l.length):=by have:=HJ.out;omega
   have HI2:=am (show I l wr by have:=HI.out;rwa [List.take_of_length_le (by omega)] at this)
   go_wp2
   go_end0
   exact ⟨⟨_,rfl⟩,HI2.out,HR.out⟩
  | succ g =>
   have hlt:j < l.length:=by have:=HJ.out;omega
   have HLT:=am hlt
   obtain ⟨ad,ead,hcm,hci⟩:=at_T30 (hC _ _ HI.out) (j:Int) (by omega) (by omega)
   cases ead
   rw [Int.toNat_natCast,Lf.rdT_get hlt] at hcm hci
   obtain ⟨x,hx⟩:∃ x,l[j]=x:=⟨_,rfl⟩
   rw [hx] at hcm hci
   have HS:=am (show l.take (j+1)=l.take j++[x] by rw [List.take_succ_eq_append_getElem hlt,hx])
   have hbv:Below wr.heap.size wr (wr.alloc (.cells #[.string x.f0,.int .i64 x.f1] 30)):=(Below.refl _ _).alloc (Nat.le_refl _) _
   obtain ⟨fn,tmps,assign,body,hy,hRd4⟩:=hY (l.take j) x _ (hIB _ _ _ HI.out hbv) (hRB _ _ HR.out hbv) (by rw [List.length_take];have:=HN.out;omega)
   have HW:=am (show wrap64 ((j:Int)+1)=((j+1:Nat):Int) by have:=HL.out;unfold wrap64;omega)
   clear hbv hx HI HR
   refine (wpIn_wide (n:=n)).1 ?_
   gi_wp2
   refine hRd4.mono ?_
   clear hcm hci
   intro r w4 h9
   obtain ⟨rfl,hI4,hR4,hK4⟩:=h9.elim id (fun h=>by obtain ⟨_,c,hF,_⟩:=h;exact hF.elim)
   have HI4:=am hI4
   have HR4:=am hR4
   clear hI4 hR4 hK4 hy hRd4
   gi_wp2
   go_wp2
   go_roundg g
   case measure=>omega
   case rel=>exact ⟨j+1,by rw [HW.out],⟨by have:=HJ.out;omega⟩,⟨by rw [HS.out];exact HI4.out⟩,HR4⟩
def CoI (n0 w0:Nat) (w:World) (pre:List S30) (W:World):Prop:=(∃ v,LB 30 2 26 Rw.cells2 (n0+1) n0 pre v W)∧Below w0 w W∧n0+1≤W.heap.size
theorem CoI.own (n0 w0:Nat) (hw0:w0≤n0) (w:World):OwnFrom (n0+1) (CoI n0 w0 w):=by
 rintro s A B row ⟨⟨v,h⟩,hb,hs⟩ hg hr
 exact ⟨⟨v,h.grown hg (fun r e=>(hr r e).2)⟩,hb.grown hg (by omega) (fun k e=>by have:=(hr k e).1;omega),Nat.le_trans hs hg.size⟩
theorem CoI.below {n0 w0:Nat} (hw0:w0≤n0) {w:World} {pre:List S30} {W W':World} (h:CoI n0 w0 w pre W) (hb:Below W.heap.size W W'):CoI n0 w0 w pre W':=by
 obtain ⟨⟨v,h1⟩,h2,h3⟩:=h
 exact ⟨⟨v,h1.below hb⟩,h2.trans (hb.mono (by omega)),Nat.le_trans h3 hb.size⟩
abbrev seqV (vb:Nat):Value:=.func (.func 39) #[] #[.pointer (some ⟨vb,0,none⟩)]
abbrev actA (vb n0 eb:Nat) (x:S30):Act:={ tmps:=#[.slice none 0 0,seqV vb,.pointer (some ⟨n0,0,none⟩),undef,.slice none 0 0,.pointer (some ⟨eb,0,none⟩),seqV vb,.agg #[.string x.f0,.int .i64 x.f1],undef,undef,undef,undef,undef],defers:=[] }
attribute [local go_sem] Go.Oper.semAt_some
set_option maxHeartbeats 8000000 in
set_option maxRecDepth 100000 in
theorem appendSeq_calls (w:World) (vb:Nat) (A:Option Addr) (c0:Nat) (l:List S30) (hv:w.heap[vb]? = some (.cells #[.slice A l.length c0] 26 (0,0))) (hC:Kd.C k30 w A l.length l) (hl:l.length < 100) :
  Calls Try.prog 63 #[.slice none 0 0,seqV vb] w fun e w'=>∃ v,e=.returned v∧Kd.R k30 30 w' w.heap.size (fun _=>True) v l∧Below w.heap.size w w':=by
 have HC:=am hC
 have HL:=am hl
 have HV:=am hv
 clear hC hl hv
 refine (callsIn_wide (n:=6)).1 ?_
 refine callsIn_of_wp_marks Try.func63 rfl trivial ?_ rfl
 simp only [Try.ntmps63,List.size_toArray,List.length_cons,List.length_nil,Nat.reduceAdd,Nat.reduceSub,Array.replicate_succ,Array.replicate_zero,List.push_toArray,List.append_toArray,List.nil_append,List.cons_append]
 gi_wp2
 have hbx0:=blk_new w (.cells #[.slice none 0 0] 26)
 have hb3:=(Below.refl w.heap.size w).alloc (Nat.le_refl _) (.cells #[.slice none 0 0] 26)
 have hsz:(w.alloc (.cells #[.slice none 0 0] 26)).heap.size=w.heap.size+1:=by simp
 generalize (w.alloc (.cells #[.slice none 0 0] 26))=w3 at hbx0 hb3 hsz ⊢
 have HVW:=am (blk_below HV.out hb3)
 have HVL:=am (show vb < w.heap.size from blk_lt HV.out)
 have HB3:=am hb3
 obtain ⟨n0,hn0⟩:∃ n0,w.heap.size=n0:=⟨_,rfl⟩
 have HW0:=am (show w.heap.size≤n0 by omega)
 have HN0:=am hn0
 have hI0:CoI n0 w.heap.size w [] w3:=⟨⟨_,by rw [← hn0];exact hbx0,World.ownsRow_nil _ _ _ _⟩,hb3,by omega⟩
 have hoff:∀ k,OffRow w3 n0 k:=fun k v hv=>by
  rw [← hn0,blk_cell hbx0 0] at hv
  have:v=.slice none 0 0:=(Option.some.inj hv).symm
  rw [this];simp [Value.ownBlock]
 have hsz2:w3.heap.size=n0+1:=by omega
 have HBX0:=am (show w3.heap[n0]? = some (.cells #[.slice none 0 0] 26 (0,0)) from hn0 ▸ hbx0)
 have HI0:=am hI0
 have HOFF:=am hoff
 obtain ⟨i0,hi0,hz3⟩:=Option.map_eq_some_iff.1 info30
 simp only [Prod.mk.injEq] at hz3
 have HZ:=am hz3
 have HI:=am hi0
 rw [hn0]
 clear hbx0 hb3 hsz hI0 hoff hz3 hi0 hn0
 refine range_state (α:=S30) rfl (by decide) (gf:=39) (lb:=#[.pointer (some ⟨vb,0,none⟩)]) rfl trivial (enters_of Try.func39 (by kernel_rfl) rfl)
  (fun x=>#[.agg #[.string x.f0,.int .i64 x.f1]]) (fun _=>rfl) (KpF (n0+1) [n0]) (fun xs=>xs=l) (fun _=>False) 180 KpF.trans (fun W o=>by rw [hsz2];exact KpF.put (by intro b hb;simp at hb;omega) W o)
  (CoI n0 w.heap.size w) (fun _ _ _=>False) (by rw [hsz2];exact CoI.own n0 w.heap.size HW0.out w) (fun c=>by rintro s A B row h _ _;exact h) HI0.out
  (AsG [n0] (actA vb n0) (CoI n0 w.heap.size w)) (fun a'=>by rw [hsz2];exact AsG.own (CoI.own n0 w.heap.size HW0.out w) a') ?hit ?assign ?body ?done ?stop
 case hit =>
  intro lp R Rx W hRk hRxk hRs hBW hY hI0 hR0
  have ow:∀ {k cs t},k≠n0→w3.heap[k]? = some (.cells cs t (0,0))→Own1 (n0+1) [n0] W k cs t:=fun {k cs t} hk hh=>⟨(hBW.block k (blk_lt hh)).trans hh,by have:=blk_lt hh;rw [hsz2] at this;omega,fun b hb=>by
   obtain rfl:b=n0:=by simpa using hb
   refine ⟨hk,fun v hv=>?_⟩
   rw [cell_of_heap (hBW.block b (blk_lt HBX0.out))] at hv
   exact HOFF.out k v hv⟩
  refine (values_in 5 (by decide) lp (n0+1) [n0] (by intro b hb;simp at hb;omega) vb A c0 l (by have:=HL.out;omega) (CoI n0 w.heap.size w) R Rx 180 (by have:=HL.out;omega)
   (fun pre W h=>Kd.C_below HC.out h.2.1) (fun pre W W' h hb=>h.below HW0.out hb)
   (fun W W' h hb=>hRk _ _ ⟨hb.size,fun k o _ hk _=>(hb.block k (Array.getElem?_eq_some_iff.1 hk).1).trans hk⟩ h) (fun W h=>by have:=hRs W h;rw [hsz2] at this;exact this) hY W (ow (by have:=HVL.out;have:=HN0.out;omega) HVW.out) hI0 hR0).mono ?_
  rintro e W' ⟨⟨v,rfl⟩,hI9,hR9⟩
  exact ⟨⟨v,rfl⟩,.inl ⟨_,rfl,hI9,hR9⟩⟩
 case assign =>
  intro lp pre x W K hIp hlen hszW hK
  have hq:=AsG.start (bs:=[n0]) (act:=actA vb n0) (x:=x) hIp (fun W' hb=>hIp.below HW0.out hb) (fun b hb=>(List.mem_singleton.1 hb) ▸ ⟨fun k hk=>hIp.1.choose_spec.off hk,_,_,hIp.1.choose_spec.box⟩)
  gi_wp2
  exact hK _ _ ((KeepsOthers.alloc W _).from _) hq
 case body =>
  rintro lp pre x a' W0 W has hlen
  have has2:=has
  obtain ⟨eb,rfl,hE,⟨⟨v,hLB⟩,hBel,hszW⟩,heb,hkeep,hbb⟩:=has2
  dsimp only at hE hLB heb hkeep hbb
  obtain ⟨M,hM⟩:∃ M,M=pre:=⟨_,rfl⟩
  have HM2:=am hM
  have HLEN:=am (show M.length≤180 by rw [hM];omega)
  rw [← hM] at hLB
  clear hM
  obtain ⟨A,c,rfl⟩:=hLB.slice
  have HLB1:=am hLB
  have HAS:=am has
  have HBEL1:=am hBel
  have hv:=hLB.cell
  have hfv:=blk_frozen hLB.box 0
  have hce0:=(blk_cell hE 0).trans rfl
  have hce1:=(blk_cell hE 1).trans rfl
  have HNEW:=am (show ∀ (j:Nat) (q:Value),(Rw.cells2 x)[j]? = some q→(W.alloc (.cells #[.string x.f0,.int .i64 x.f1] 30)).cell? ((⟨W.heap.size,0,none⟩:Addr).add j)=some q by
   intro j q hq
   rw [Go.Proofs.YteglhbfhibfodaaW.PrintWords.add_plain,blk_cell (blk_new W _) j,← hq];simp [Rw.cells2])
  have HONE:=am (show ∀ q∈Rw.cells2 x,q.oneCell'=true by intro q hq;simp only [Rw.cells2,List.mem_cons,List.not_mem_nil,or_false] at hq;rcases hq with rfl|rfl<;>rfl)
  clear has hLB hE hbb hkeep hBel
  gi_wp2_with (gi_at_builtin;refine wpListIn_append_own_at _ rfl _ _ 26 rfl (n0+1) 30 i0 (.agg #[.string ⟨#[]⟩,.int .i64 0]) 2 24 Try.underlying26 HI.out HZ.out.1 HZ.out.2.1 HZ.out.2.2 rfl (by decide) _ _ _ rfl (HLB1.out.row.alloc _) ⟨W.heap.size,0,none⟩ 1 1 (Rw.cells2 x) rfl rfl HNEW.out HONE.out (by have:=HLEN.out;unfold maxLen;omega) (by have:=HLEN.out;omega) (by simp;omega) ?_;intro v' w1 hown' hgrow _ hat;obtain ⟨g',cap',rfl⟩:=ownsRow_succ hown';obtain ⟨hq1,hLBq⟩:=HLB1.out.app (by omega) hgrow hown';have hqc:=blk_cell hq1 0;have hqf:=blk_frozen hq1 0;have HGROW:=am hgrow;have HAT:=am hat;have HLBQ:=am hLBq;have HQ1:=am hq1;clear hgrow hat hLBq hq1 hown')
  obtain ⟨hbel9,hsz9⟩:=HLB1.out.bel (by omega) HW0.out HBEL1.out (.slice (some ⟨g',0,none⟩) (M.length+1) cap') HGROW.out
  refine ⟨(HLB1.out.keeps (.slice (some ⟨g',0,none⟩) (M.length+1) cap') HGROW.out).from _,(HAS.out.kp (Nat.le_refl _) (fun k hk=>rfl)).trans (KpF.app HLB1.out (by simp) (by intro q hq;simp at hq;omega) HGROW.out HAT.out HQ1.out),⟨_,by rw [← HM2.out];exact HLBQ.out⟩,hbel9,Nat.le_trans hszW hsz9⟩
 case done =>
  rintro D xs W hD rfl ⟨⟨v,hLB⟩,hBel,hszW⟩ hK
  obtain ⟨A2,c,rfl⟩:=hLB.slice
  have HR:=am (Rw.flat_R (ok:=fun _=>True) hLB.row (fun _ _=>trivial))
  have HBEL:=am hBel
  have HKD:=am hK
  have hv:=hLB.cell
  have hDw:w.heap.size≤D:=by have:=HW0.out;omega
  clear hLB hBel hK
  gi_wp2
  have hneD:(some D)≠(Value.slice A2 xs.length c).ownBlock:=fun ee=>by
   obtain ⟨cs,hh⟩:=Kd.R_typed HR.out D ee.symm
   rw [HKD.out] at hh;cases hh
  refine ⟨by simp,.inl ⟨_,_,rfl,run_takeDeferred HKD.out,?_⟩⟩
  exact ⟨_,by simp [results,Try.results63,go_sem],_,rfl,Kd.R_grown1 (Kd.R_lower HR.out (by have:=HN0.out;omega)) rfl (grownBy_putObj' W D _) hneD,HBEL.out.grown (grownBy_putObj' W D _) HBEL.out.size (fun k ek=>by have:=Option.some.inj ek;omega)⟩
 case stop =>
  intro D c pre W _ _ h _
  exact h.elim
set_option maxHeartbeats 8000000 in
set_option maxRecDepth 100000 in
theorem collect_calls (w:World) (vb:Nat) (A:Option Addr) (c0:Nat) (l:List S30) (hv:w.heap[vb]? = some (.cells #[.slice A l.length c0] 26 (0,0))) (hC:Kd.C k30 w A l.length l) (hl:l.length < 100) :
  Calls Try.prog 37 #[seqV vb] w fun e w'=>∃ v,e=.returned v∧Kd.R k30 30 w' w.heap.size (fun _=>True) v l∧Below w.heap.size w w':=by
 have HA:=am (appendSeq_calls w vb A c0 l hv hC hl)
 clear hC hl hv
 go_enter Try.func37,Try.ntmps37
 go_wp2_with (go_at_call 63;refine HA.out.mono ?_;rintro e w2 ⟨v,rfl,hr,hb⟩;obtain ⟨A2,c2,rfl⟩:=Kd.R_slice hr;have HR2:=am hr;have HB2:=am hb;clear hr hb)
 go_ret
 exact ⟨_,rfl,HR2.out,HB2.out⟩
theorem sort_none (w:World) (A:Option Addr) (c:Nat) (fv:Value):Calls Try.prog 38 #[.slice A 0 c,fv] w fun e w'=>e=.returned (.tuple #[])∧w'=w:=by
 have h:=AnyF.slices_SortFunc_none (P:=Try.prog) Try.sortNm A c fv w
 change Calls Try.prog 38 _ _ _ at h
 exact h
theorem sortV_calls (w:World) (base c:Nat) (A:Option Addr) (xs:List S30) (hR:Kd.R k30 30 w base (fun _=>True) (.slice A xs.length c) xs) (hz:∀ x∈xs,x.f0.size < 512) (hap:Ht.Apart Ht.ltE xs) (hl:xs.length < 4611686018427387904) :
  Calls Try.prog 38 #[.slice A xs.length c,.func (.func 22) #[] #[]] w fun e w'=>e=.returned (.tuple #[])∧Kd.R k30 30 w' base (fun _=>True) (.slice A xs.length c) (Ht.isort Ht.ltE xs)∧Below (min base w.heap.size) w w':=by
 match xs,hR,hz,hap,hl with
 | [],hR,_,_,_ =>
  refine (sort_none w A c _).mono ?_
  rintro e w' ⟨rfl,rfl⟩
  exact ⟨rfl,hR,Below.refl _ _⟩
 | x::xs,hR,hz,hap,hl =>
  obtain ⟨g,cap,he,hb,hg,_⟩:=Kd.R_form hR (by simp)
  cases he
  refine (sortO_calls w base g _ _ (x::xs) hR hz hap hl).mono ?_
  rintro e w' hs
  exact ⟨hs.1,hs.2.1,hs.below hb⟩
set_option maxHeartbeats 8000000 in
set_option maxRecDepth 100000 in
theorem sorted_calls (w:World) (vb:Nat) (A:Option Addr) (c0:Nat) (l:List S30) (hv:w.heap[vb]? = some (.cells #[.slice A l.length c0] 26 (0,0))) (hC:Kd.C k30 w A l.length l) (hl:l.length < 100) (hz:∀ x∈l,x.f0.size < 512) (hap:Ht.Apart Ht.ltE l) :
  Calls Try.prog 20 #[seqV vb,.func (.func 22) #[] #[]] w fun e w'=>∃ v,e=.returned v∧Kd.R k30 30 w' w.heap.size (fun _=>True) v (Ht.isort Ht.ltE l)∧Below w.heap.size w w':=by
 have HC:=am (collect_calls w vb A c0 l hv hC hl)
 have HL:=am (show l.length < 4611686018427387904 by omega)
 have HZ:=am hz
 have HP:=am hap
 clear hC hl hv hz hap
 go_enter Try.func20,Try.ntmps20
 go_wp2_with (first|(go_at_call 38;refine (sortV_calls w2 w.heap.size c2 A2 l HR2.out HZ.out HP.out HL.out).mono ?_;rintro e w3 ⟨rfl,hr,hb⟩;have HR3:=am hr;have HB3:=am hb;clear hr hb)|(go_at_call 37;refine HC.out.mono ?_;rintro e w2 ⟨v,rfl,hr,hb⟩;obtain ⟨A2,c2,rfl⟩:=Kd.R_slice hr;have HR2:=am hr;have HB2:=am hb;clear hr hb))
 go_ret
 exact ⟨_,rfl,HR3.out,HB2.out.trans (HB3.out.mono (by rw [Nat.min_eq_left HB2.out.size];exact Nat.le_refl _))⟩
end Go.Proofs.Yteglhbfhibfodaa.Pr
end
section
namespace Go.Proofs.Yteglhbfhibfodaa.Pr
open Go.RowKit Go.Proofs.YteglhbfhibfodaaW.PrintWords Go.Proofs.YteglhbfhibfodaaW.PrintLast Go.Proofs.YteglhbfhibfodaaW.PrintMore
attribute [local go_sem] max2_int min2_int max_two min_two max_three min_three max_four min_four
attribute [local go_sem] Go.Proofs.Yteglhbfhibfodaa.Hl.str_geq Go.Proofs.Yteglhbfhibfodaa.Hl.str_gtr Go.Proofs.Yteglhbfhibfodaa.Hl.str_leq
set_option linter.unusedVariables false
set_option linter.unusedSimpArgs false
theorem aft_stop {α:Type} {P:α→Bool} {all done rest out:List α} {n:Int} (h1:all=done++rest) (h2:out=done.filter P) (h3:out.length≤n.toNat) (h4:n≤(out.length:Int)):(all.filter P).take n.toNat=out:=by
 rw [h1,List.filter_append,← h2,List.take_append_of_le_length (by omega),List.take_of_length_le h3]
theorem aft_end {α:Type} {P:α→Bool} {all out:List α} {n:Int} (h2:out=all.filter P) (h3:out.length≤n.toNat):(all.filter P).take n.toNat=out:=by
 rw [← h2,List.take_of_length_le h3]
theorem aft_next {α β:Type} (g:α→List β) (ms:List α) (j:Nat) (hj:j < ms.length):(ms.take (j+1)).flatMap g=(ms.take j).flatMap g++g ms[j]:=by
 rw [List.take_succ_eq_append_getElem hj,List.flatMap_append];simp
theorem aft_split {α β:Type} (g:α→List β) (ms:List α) (j:Nat) (hj:j < ms.length):ms.flatMap g=(ms.take j).flatMap g++(g ms[j]++(ms.drop (j+1)).flatMap g):=by
 conv=>lhs;rw [← List.take_append_drop j ms,List.flatMap_append,List.drop_eq_getElem_cons hj,List.flatMap_cons]
theorem add_add (ad:Addr) (i j:Nat):(ad.add i).add j=ad.add (i+j):=by
 by_cases hi:i=0<;>by_cases hj:j=0<;>simp [Addr.add,hi,hj,Nat.add_assoc]
theorem aft_len (xs:List (List S30)) (h:∀ l∈xs,l.length≤41):(xs.flatMap (Ht.isort Ht.ltE)).length≤41*xs.length:=by
 induction xs with
 | nil=>simp
 | cons l r ih =>
  have h1:=h l (by simp)
  have h2:=ih (fun x hx=>h x (by simp [hx]))
  have h3:=(Ht.isort_perm Ht.ltE l).length_eq
  rw [List.flatMap_cons,List.length_append,List.length_cons]
  omega
def aftP (nm:ByteArray) (x:S30):Bool:=decide (nm.size=0)||Ht.ltE ⟨nm,0⟩ x
def htree_After.f (l0:List (List Int)) (a1:ByteArray) (a2:Int):Option (List S30×Int):=if dirB l0=true∧a1.size < 512 then some (Ht.afterP l0 a1 a2) else none
set_option maxHeartbeats 8000000 in
set_option maxRecDepth 100000 in
theorem htree_After.calls (A0:Option Addr) (c0:Nat) (l0:List (List Int)) (a1:ByteArray) (a2:Int) (r1:List (S30)) (r2:Int) (w:World) (hr0:Kd.C (Kd.slice 5 (Kd.int .u8)) w A0 l0.length l0) (hc0:l0.length≤c0) (h:htree_After.f l0 a1 a2=some (r1,r2)) :
  Calls Try.prog 9 #[.slice A0 l0.length c0,.string a1,.int .i64 a2] w fun e w'=>∃ v0_:Value,e=.returned (.tuple #[v0_,.int .i64 r2])∧Kd.R k30 30 w' w.heap.size (fun _=>True) v0_ r1∧Below w.heap.size w w':=by
 unfold htree_After.f at h
 by_cases hd:dirB l0=true∧a1.size < 512
 ·rw [if_pos hd] at h
  have h:=Option.some.inj h
  obtain ⟨hd,hz⟩:=hd
  obtain ⟨hd1,hd2⟩:=dirB_iff hd
  have HR0:=am hr0
  have HC0:=am hc0
  have HD:=am hd1
  have HL:=am hd2
  have HZ:=am hz
  unfold Ht.afterP at h
  clear hd hr0 hc0 hd1 hd2 hz
  cases hx:Ht.readP l0 with
  | none =>
   rw [hx] at h
   obtain ⟨rfl,rfl⟩:=Prod.mk.inj h
   have HX:=am hx
   clear hx h
   go_enter Try.func9,Try.ntmps9
   go_wp2_with (go_at_call 18;refine (read_calls A0 c0 l0 w HR0.out HC0.out HD.out HL.out).mono ?_;rintro e w2 ⟨hb2,hm⟩;rw [HX.out] at hm;subst hm;have HB2:=am hb2;clear hb2)
   go_ret2
   exact ⟨_,rfl,Kd.R_nil _ _ _ _ _,HB2.out⟩
  | some p =>
   obtain ⟨rs,ls⟩:=p
   rw [hx] at h
   dsimp only at h
   have HOKR:=am (Ht.readP_ok HD.out hx).1
   have HLV:=am (Ht.readP_ok HD.out hx).2
   have HX:=am hx
   clear hx
   obtain ⟨rfl,rfl⟩:=Prod.mk.inj h
   clear h
   by_cases hne:a1.size=0
   ·have hnm:a1=⟨#[]⟩:=Od.str_ext (by
     have:a1.data.toList.length=0:=hne
     rw [List.eq_nil_of_length_eq_zero this])
    have hnmb:a1.toList.isEmpty=true:=by rw [hnm,ByteArray.toList_eq];rfl
    have HNE:=am hne
    clear hnm hne
    rw [if_pos HNE.out,show (ls.drop 0)=ls from rfl]
    obtain ⟨ans,hans⟩:∃ ans,List.take a2.toNat (List.filter (aftP a1) (List.flatMap (Ht.isort Ht.ltE) ls))=ans:=⟨_,rfl⟩
    have HAN:=am hans
    change Calls _ _ _ _ (fun e w'=>∃ v0_,e=_∧Kd.R _ _ _ _ _ v0_ (List.take a2.toNat (List.filter (aftP a1) (List.flatMap (Ht.isort Ht.ltE) ls)))∧_)
    rw [hans]
    clear hans
    go_enter Try.func9,Try.ntmps9
    go_wp2_with (go_at_call 18;refine (read_calls A0 c0 l0 w HR0.out HC0.out HD.out HL.out).mono ?_;rintro e w2 ⟨hb2,hm⟩;rw [HX.out] at hm;obtain ⟨B,rfl,A1,c1,A2,c2,hT1,hT2,hT3,hT4,hT5⟩:=hm;have hcB:w2.cell? ⟨B,2,none⟩=some (.slice A2 ls.length c2):=(blk_cell hT1 2).trans rfl;have HT1:=am hT1;have HT2:=am hT2;have HT3:=am hT3;have HT4:=am hT4;have HT5:=am hT5;have HB2:=am hb2;clear hb2 hT1 hT2 hT3 hT4 hT5)
    have HLM:=am (show ∀ (W:World),Below w2.heap.size w2 W→∀ (j:Nat) (hj:j < ls.length),∃ ad A5 c5,A2=some ad∧W.cell? (ad.add j)=some (.slice A5 (ls[j]).length c5)∧(ls[j]).length≤c5∧k30.C W A5 (ls[j]).length (ls[j]) from fun W hb j hj=>by
     have h:=leaf_at (Kd.C_below HT4.out hb) (j:Int) (by omega) (by omega)
     rwa [Int.toNat_natCast,Ht.getD_at hj] at h)
    have HML:=am (show ls.length≤ls.length from Nat.le_refl _)
    have HMM:=am (show ∀ l∈ls,l∈ls from fun l h=>h)
    clear HT1 HT2 HT3 HT4 HT5
    have HMSZ:=am (show ls.length≤30 by have:=HML.out;have:=HLV.out.len;have:=HOKR.out.high;omega)
    have HMR:=am (show ∀ l∈ls,Lf.right none l=true∧Lf.sumL l≤248 from fun l hl=>HLV.out.leaf l (HMM.out l hl))
    clear hcB
    go_loopw [9,31] (fun o i wr=>∃ (j:Nat) (out:List S30),i=.int .i64 (j:Int)∧Aside0 (j≤ls.length)∧Aside0 (Kd.R k30 30 wr w2.heap.size (fun _=>True) o out)∧Aside0 (out=((ls.take j).flatMap (Ht.isort Ht.ltE)).filter (aftP a1))∧Aside0 (out.length≤a2.toNat)∧Aside0 (Below w2.heap.size w2 wr)) (fun _ i _=>ls.length - (intOf i).toNat)
    case atStart=>exact ⟨0,[],rfl,⟨Nat.zero_le _⟩,⟨Kd.R_nil _ _ _ _ _⟩,⟨rfl⟩,⟨Nat.zero_le _⟩,⟨Below.refl _ _⟩⟩
    case round =>
     obtain ⟨j,out,rfl,HJ,HO,HOF,HOL,HB⟩:=hrel
     obtain ⟨Ao,co,rfl⟩:=Kd.R_slice HO.out
     by_cases hj:j < ls.length
     ·have hjb:decide (j < ls.length)=true:=decide_eq_true hj
      have HJN:=am hj
      obtain ⟨ad,A5,c5,ead,hcl,hl5,hr5⟩:=HLM.out wr HB.out j hj
      cases ead
      have HRL:=am (HMR.out _ (List.getElem_mem hj))
      have HSP:=am (aft_split (Ht.isort Ht.ltE) ls j hj)
      have HNX:=am (aft_next (Ht.isort Ht.ltE) ls j hj)
      obtain ⟨l,hl⟩:∃ l,ls[j]=l:=⟨_,rfl⟩
      rw [hl] at hcl hl5 hr5 HRL HSP HNX
      have HLJ:=am hl
      have HLL:=am (Ht.leaf_len HRL.out)
      have HR5:=am hr5
      have HL5:=am hl5
      have HLZ:=am (show ∀ x∈l,x.f0.size < 512 from fun x hx=>by have:=Lf.okE_size ((Ht.right_iff.1 HRL.out.1).1 x hx);omega)
      have HLA:=am (show Ht.Apart Ht.ltE l from (Ht.right_iff.1 HRL.out.1).2.imp (fun {a b} h=>Ht.ltE_or (fun e=>by rw [e,Od.less_irrefl] at h;cases h)))
      have HDN:=am (show ∃ dn:List S30,(ls.take j).flatMap (Ht.isort Ht.ltE)=dn from ⟨_,rfl⟩)
      obtain ⟨dn,hdn⟩:=HDN.out
      have HDNL:=am (show dn.length≤1230 by have h1:=aft_len (ls.take j) (fun l hl=>Ht.leaf_len (HMR.out l (List.mem_of_mem_take hl)));rw [hdn,List.length_take] at h1;have:=HMSZ.out;omega)
      rw [hdn] at HOF HSP HNX
      have HRT:=am (show ∃ rt:List S30,(ls.drop (j+1)).flatMap (Ht.isort Ht.ltE)=rt from ⟨_,rfl⟩)
      obtain ⟨rt,hrt⟩:=HRT.out
      rw [hrt] at HSP
      clear hl hl5 hr5 HDN HRT hdn hrt
      obtain ⟨s,hs⟩:∃ s,Ht.isort Ht.ltE l=s:=⟨_,rfl⟩
      have HSL:=am (show s.length=l.length by rw [← hs];exact (Ht.isort_perm Ht.ltE l).length_eq)
      have HSZ:=am (show ∀ x∈s,x.f0.size < 512 from fun x hx=>HLZ.out x ((Ht.isort_perm Ht.ltE l).mem_iff.1 (hs ▸ hx)))
      rw [hs] at HSP HNX
      have HSS:=am hs
      clear hs
      have HBV:=am (show Below wr.heap.size wr (wr.alloc (.cells #[.slice A5 l.length c5] 26)) from (Below.refl _ _).alloc (Nat.le_refl _) _)
      have HBS:=am (show (wr.alloc (.cells #[.slice A5 l.length c5] 26)).heap.size=wr.heap.size+1 by simp)
      go_wp2_with (first|(go_at_call 20;refine (sorted_calls (wr.alloc (.cells #[.slice A5 l.length c5] 26)) wr.heap.size A5 c5 l (blk_new _ _) (Kd.C_below HR5.out HBV.out) (by have:=HLL.out;omega) HLZ.out HLA.out).mono ?_;rintro e w4 ⟨vs,rfl,hr,hb⟩;rw [HSS.out] at hr;obtain ⟨A6,c6,rfl⟩:=Kd.R_slice hr;have HVS:=am hr;have HB4:=am hb;clear hr hb)|(go_at_call 21;refine (values_made A5 l.length c5 wr).mono ?_;rintro e w3 ⟨rfl,rfl⟩))
      clear hjb hcl
      have HB4w:=am (HBV.out.trans (HB4.out.mono (by rw [HBS.out];omega)))
      have HOB:=am (show ∀ k,(Value.slice A6 s.length c6).ownBlock=some k→wr.heap.size < k∧k < w4.heap.size from fun k hk=>by have h1:=Kd.R_base HVS.out k hk;have h2:=Kd.R_lt HVS.out k hk;rw [HBS.out] at h1;omega)
      have HVS4:=am (Kd.R_tight rfl (Kd.R_lower HVS.out (show w2.heap.size≤_ by rw [HBS.out];have:=HB.out.size;omega)))
      have HO4:=am (Kd.R_mono (ok':=fun k=>some k≠(Value.slice A6 s.length c6).ownBlock) (Kd.R_bound (Kd.R_mono (ok':=fun k=>k < wr.heap.size) (Kd.R_bound HO.out) (fun k hk=>hk.2.2.1))) (fun k hk e=>by have:=HOB.out k e.symm;have:=hk.1;omega))
      have HO4:=am (Kd.R_below HO4.out HB4w.out)
      have HBW4:=am (HB.out.trans (HB4w.out.mono HB.out.size))
      have HWJ:=am (show wrap64 ((j:Int)+1)=((j+1:Nat):Int) by have:=HMSZ.out;have:=HJN.out;unfold wrap64;omega)
      clear HVS HO HB HB4 HB4w HBV HBS HR5 HL5
      go_loopw [9,40] (fun o i w'=>∃ (q:Nat) (out:List S30),i=.int .i64 (q:Int)∧Aside0 (q≤s.length)∧Aside0 (Kd.R k30 30 w' w2.heap.size (fun k=>some k≠(Value.slice A6 s.length c6).ownBlock) o out)∧Aside0 (Kd.R k30 30 w' w2.heap.size (fun k=>some k=(Value.slice A6 s.length c6).ownBlock) (.slice A6 s.length c6) s)∧Aside0 (out=(dn++s.take q).filter (aftP a1))∧Aside0 (out.length≤a2.toNat)∧Aside0 (Below w2.heap.size w2 w')∧Aside0 (w4.heap.size≤w'.heap.size)) (fun _ i _=>s.length - (intOf i).toNat)
      case atStart=>exact ⟨0,out,rfl,⟨Nat.zero_le _⟩,HO4,HVS4,⟨by rw [HOF.out];simp⟩,HOL,HBW4,⟨Nat.le_refl _⟩⟩
      case round =>
       clear HO4 HVS4 HOF HOL HBW4
       obtain ⟨q,out,rfl,HQ,HO,HS,HOF,HOL,HB,HWZ⟩:=hrel
       obtain ⟨Ao,co,rfl⟩:=Kd.R_slice HO.out
       by_cases hq:q < s.length
       ·have hqb:decide (q < s.length)=true:=decide_eq_true hq
        have HQN:=am hq
        obtain ⟨ad6,ead,hcm,hci⟩:=at_T30 (Kd.R_reads' HS.out).2.2 (q:Int) (by omega) (by omega)
        cases ead
        rw [Int.toNat_natCast,Lf.rdT_get hq] at hcm hci
        have HTS:=am (show s.take (q+1)=s.take q++[s[q]] from List.take_succ_eq_append_getElem hq)
        have HZX:=am (HSZ.out _ (List.getElem_mem hq))
        have HXE:=am (show ∃ x,s[q]=x from ⟨_,rfl⟩)
        obtain ⟨⟨nm,no⟩,hx⟩:=HXE.out
        rw [hx] at hcm hci HTS HZX
        dsimp only at hcm hci
        clear hx HXE
        have HWQ:=am (show wrap64 ((q:Int)+1)=((q+1:Nat):Int) by have:=HSL.out;have:=HLL.out;have:=HQN.out;unfold wrap64;omega)
        have HBA:=am (show Below wr.heap.size wr (wr.alloc (.cells #[.string nm,.int .i64 no] 30)) from (Below.refl _ _).alloc (Nat.le_refl _) _)
        have HXB:=am (blk_new wr (.cells #[.string nm,.int .i64 no] 30))
        by_cases hn:a2≤(out.length:Int)
        ·have hnb:decide (a2≤(out.length:Int))=true:=decide_eq_true hn
         have HEQ:=am (show out=ans by rw [← HAN.out];exact (aft_stop (rest:=s.drop q++rt) (by rw [HSP.out,List.append_assoc,← List.append_assoc (s.take q),List.take_append_drop]) HOF.out HOL.out hn).symm)
         clear hn;go_wp2
         go_ret2
         exact ⟨_,rfl,HEQ.out ▸ Kd.R_lower (Kd.R_mono (Kd.R_below HO.out HBA.out) (fun _ _=>trivial)) HB2.out.size,HB2.out.trans ((HB.out.trans (HBA.out.mono HB.out.size)).mono HB2.out.size)⟩
        ·have hnb:decide (a2≤(out.length:Int))=false:=decide_eq_false hn
         have HNL:=am (show out.length+1≤a2.toNat by omega)
         clear hn
         have HO7:=am (Kd.R_below HO.out HBA.out)
         have HS7:=am (Kd.R_below HS.out HBA.out)
         have HB7:=am (HB.out.trans (HBA.out.mono HB.out.size))
         have HLN:=am (show out.length≤2000 by have h1:=HDNL.out;have h2:=HSL.out;have h3:=HLL.out;have h4:=HOF.out;have h5:=List.length_filter_le (aftP a1) (dn++s.take q);have h6:=List.length_take_le' q s;rw [← h4,List.length_append] at h5;omega)
         go_wp2_with ((with_reducible refine gate_builtin (b:=.append) (xs:=#[.tmp 58,.tmp 60]) rfl ?_);at_builtin;refine Kd.R_append k30 (w0:=w2) w2.heap.size rfl (.tmp 58) (.tmp 60) 26 30 (.agg #[.string ⟨#[]⟩,.int .i64 0]) 24 rfl Try.underlying26 info30 rfl (by decide) (by omega) _ out (⟨nm,no⟩:S30) [.string nm,.int .i64 no] (fun k=>some k≠(Value.slice (some ad6) s.length c6).ownBlock) (fun _=>False) rfl (by rw [World.size_alloc];rfl) (k30_mkM _ _ _ (⟨nm,no⟩:S30)) (fun _ hk=>hk.elim) (fun k hk e=>by have h1:=HOB.out k e.symm;have h2:=HWZ.out;have h3:=HBA.out.size;omega) HO7.out HB7.out HB7.out.size (by have:=HLN.out;omega) ?_;intro v8 w8 ho8 hb8 hg8 hat8;obtain ⟨A8,c8,ev8⟩:=Kd.R_slice ho8;rw [List.length_append,List.length_singleton] at ev8;subst ev8;have HS8:=am (Kd.R_grown HS7.out hg8 (fun k hk ek=>HO7.out.1 k ek.symm hk));have HO8:=am ho8;have HB8:=am hb8;have HG8:=am hg8.size;clear ho8 hb8 hg8 hat8)
         go_roundw
         case rel=>exact ⟨q+1,out++[⟨nm,no⟩],by rw [HWQ.out],⟨HQN.out⟩,HO8,HS8,⟨by rw [HTS.out,← List.append_assoc,List.filter_append,← HOF.out];simp [aftP,HNE.out]⟩,⟨by rw [List.length_append];exact HNL.out⟩,HB8,⟨by have:=HG8.out;have:=HWZ.out;have:=HBA.out.size;omega⟩⟩
         case measure=>rw [HWQ.out];show s.length - (((q+1:Nat):Int)).toNat < s.length - ((q:Int)).toNat;have:=HQN.out;omega
       ·obtain rfl:q=s.length:=by have:=HQ.out;omega
        have hqb:decide (s.length < s.length)=false:=decide_eq_false (by omega)
        clear hq;go_wp2
        go_roundw
        case rel=>exact ⟨j+1,out,by rw [HWJ.out],⟨HJN.out⟩,⟨Kd.R_mono HO.out (fun _ _=>trivial)⟩,⟨by rw [HNX.out,HOF.out,List.take_length]⟩,HOL,HB⟩
        case measure=>rw [HWJ.out];show ls.length - (((j+1:Nat):Int)).toNat < ls.length - ((j:Int)).toNat;have:=HJN.out;omega
     ·obtain rfl:j=ls.length:=by have:=HJ.out;omega
      have hjb:decide (ls.length < ls.length)=false:=decide_eq_false (by omega)
      have HEQ:=am (show out=ans by rw [← HAN.out];exact (aft_end (by have:=HOF.out;rwa [List.take_length] at this) HOL.out).symm)
      clear hj;go_wp2
      go_ret2
      exact ⟨_,rfl,HEQ.out ▸ Kd.R_lower (Kd.R_mono HO.out (fun _ _=>trivial)) HB2.out.size,HB2.out.trans (HB.out.mono HB2.out.size)⟩
   ·have hnmb:a1.toList.isEmpty=false:=by
     cases he:a1.toList.isEmpty with
     | false=>rfl
     | true =>
      rw [ByteArray.toList_eq,List.isEmpty_iff] at he
      exact absurd (show a1.size=0 by have:a1.size=a1.data.toList.length:=rfl;rw [this,he];rfl) hne
    have HNE:=am hne
    clear hne
    rw [if_neg HNE.out]
    obtain ⟨k,hk⟩:=(Ht.at_ev HOKR.out a1 HZ.out).rounds
    obtain ⟨an,han⟩:∃ an,Ht.atP rs (Ht.sumN a1)=an:=⟨_,rfl⟩
    have hanl:an < rs.length:=han ▸ Ht.atP_lt HOKR.out _
    have hanls:an < ls.length:=by rw [HLV.out.len];exact hanl
    have HAN2:=am hanls
    rw [han] at hk ⊢
    have HKA:=am hk
    obtain ⟨ms,hms⟩:∃ ms,ls.drop an=ms:=⟨_,rfl⟩
    have HMS:=am hms
    rw [hms]
    obtain ⟨ans,hans⟩:∃ ans,List.take a2.toNat (List.filter (aftP a1) (List.flatMap (Ht.isort Ht.ltE) ms))=ans:=⟨_,rfl⟩
    have HAN:=am hans
    change Calls _ _ _ _ (fun e w'=>∃ v0_,e=_∧Kd.R _ _ _ _ _ v0_ (List.take a2.toNat (List.filter (aftP a1) (List.flatMap (Ht.isort Ht.ltE) ms)))∧_)
    rw [hans]
    have hal:an≤ls.length:=by omega
    clear hans hk han hanl hanls hms
    go_enter Try.func9,Try.ntmps9
    go_wp2_with (first|(go_at_call 19;refine (at_calls k B _ _ _ A1 c1 rs a1 _ _ HT1.out HT2.out HT3.out (by have:=HOKR.out.high;omega) HKA.out).mono ?_;rintro e w3 ⟨rfl,hb3⟩;have HT43:=am (Kd.C_below HT4.out hb3);have hcB:w3.cell? ⟨B,2,none⟩=some (.slice A2 ls.length c2):=(blk_cell (blk_below HT1.out hb3) 2).trans rfl;obtain ⟨ad2,A5,c5,ead,-,-,-⟩:=leaf_at HT43.out (an:Int) (by omega) (by have:=HAN2.out;omega);cases ead;have HB3:=am (HB2.out.trans (hb3.mono HB2.out.size));have hc2:=HT5.out;clear hb3)|(go_at_call 18;refine (read_calls A0 c0 l0 w HR0.out HC0.out HD.out HL.out).mono ?_;rintro e w2 ⟨hb2,hm⟩;rw [HX.out] at hm;obtain ⟨B,rfl,A1,c1,A2,c2,hT1,hT2,hT3,hT4,hT5⟩:=hm;have HT1:=am hT1;have HT2:=am hT2;have HT3:=am hT3;have HT4:=am hT4;have HT5:=am hT5;have HB2:=am hb2;clear hb2 hT1 hT2 hT3 hT4 hT5))
    ·exfalso;have h1:=HT5.out;have h2:=HAN2.out;omega
    refine slot_abs 29 (.slice (some (ad2.add an)) (ls.length - an) (c2 - an)) rfl (fun V29 h29=>?_)
    refine slot_abs 30 (.int .i64 ((ls.length - an:Nat):Int)) rfl (fun V30 h30=>?_)
    simp only [List.setIfInBounds_toArray,List.set_cons_succ,List.set_cons_zero]
    have hmsl:ms.length=ls.length - an:=by rw [← HMS.out,List.length_drop]
    rw [← hmsl] at h29 h30
    have HLM:=am (show ∀ (W:World),Below w3.heap.size w3 W→∀ (j:Nat) (hj:j < ms.length),∃ ad A5 c5,some (ad2.add an)=some ad∧W.cell? (ad.add j)=some (.slice A5 (ms[j]).length c5)∧(ms[j]).length≤c5∧k30.C W A5 (ms[j]).length (ms[j]) from fun W hb j hj=>by
     obtain ⟨ad,A5,c5,ead,h1,h2,h3⟩:=leaf_at (Kd.C_below HT43.out hb) ((an+j:Nat):Int) (by omega) (by omega)
     cases ead
     rw [Int.toNat_natCast,Ht.getD_at (show an+j < ls.length by omega)] at h1 h2 h3
     have hg:ls[an+j]'(by omega)=ms[j]:=by simp only [← HMS.out,List.getElem_drop]
     rw [hg] at h1 h2 h3
     exact ⟨_,A5,c5,rfl,by rw [add_add];exact h1,h2,h3⟩)
    obtain ⟨A9,hA9⟩:∃ A9,(some (ad2.add an):Option Addr)=A9:=⟨_,rfl⟩
    obtain ⟨c9,hc9⟩:∃ c9,c2 - an=c9:=⟨_,rfl⟩
    rw [hA9] at HLM h29
    rw [hc9] at h29
    subst h29
    subst h30
    have HML:=am (show ms.length≤ls.length by omega)
    have HMM:=am (show ∀ l∈ms,l∈ls from fun l h=>List.mem_of_mem_drop (HMS.out ▸ h))
    clear HT1 HT2 HT3 HT4 HT5 HT43 hA9 hc9 hmsl hal hc2
    have HMSZ:=am (show ms.length≤30 by have:=HML.out;have:=HLV.out.len;have:=HOKR.out.high;omega)
    have HMR:=am (show ∀ l∈ms,Lf.right none l=true∧Lf.sumL l≤248 from fun l hl=>HLV.out.leaf l (HMM.out l hl))
    clear hcB
    go_loopw [9,31] (fun o i wr=>∃ (j:Nat) (out:List S30),i=.int .i64 (j:Int)∧Aside0 (j≤ms.length)∧Aside0 (Kd.R k30 30 wr w3.heap.size (fun _=>True) o out)∧Aside0 (out=((ms.take j).flatMap (Ht.isort Ht.ltE)).filter (aftP a1))∧Aside0 (out.length≤a2.toNat)∧Aside0 (Below w3.heap.size w3 wr)) (fun _ i _=>ms.length - (intOf i).toNat)
    case atStart=>exact ⟨0,[],rfl,⟨Nat.zero_le _⟩,⟨Kd.R_nil _ _ _ _ _⟩,⟨rfl⟩,⟨Nat.zero_le _⟩,⟨Below.refl _ _⟩⟩
    case round =>
     obtain ⟨j,out,rfl,HJ,HO,HOF,HOL,HB⟩:=hrel
     obtain ⟨Ao,co,rfl⟩:=Kd.R_slice HO.out
     by_cases hj:j < ms.length
     ·have hjb:decide (j < ms.length)=true:=decide_eq_true hj
      have HJN:=am hj
      obtain ⟨ad,A5,c5,ead,hcl,hl5,hr5⟩:=HLM.out wr HB.out j hj
      cases ead
      have HRL:=am (HMR.out _ (List.getElem_mem hj))
      have HSP:=am (aft_split (Ht.isort Ht.ltE) ms j hj)
      have HNX:=am (aft_next (Ht.isort Ht.ltE) ms j hj)
      obtain ⟨l,hl⟩:∃ l,ms[j]=l:=⟨_,rfl⟩
      rw [hl] at hcl hl5 hr5 HRL HSP HNX
      have HLJ:=am hl
      have HLL:=am (Ht.leaf_len HRL.out)
      have HR5:=am hr5
      have HL5:=am hl5
      have HLZ:=am (show ∀ x∈l,x.f0.size < 512 from fun x hx=>by have:=Lf.okE_size ((Ht.right_iff.1 HRL.out.1).1 x hx);omega)
      have HLA:=am (show Ht.Apart Ht.ltE l from (Ht.right_iff.1 HRL.out.1).2.imp (fun {a b} h=>Ht.ltE_or (fun e=>by rw [e,Od.less_irrefl] at h;cases h)))
      have HDN:=am (show ∃ dn:List S30,(ms.take j).flatMap (Ht.isort Ht.ltE)=dn from ⟨_,rfl⟩)
      obtain ⟨dn,hdn⟩:=HDN.out
      have HDNL:=am (show dn.length≤1230 by have h1:=aft_len (ms.take j) (fun l hl=>Ht.leaf_len (HMR.out l (List.mem_of_mem_take hl)));rw [hdn,List.length_take] at h1;have:=HMSZ.out;omega)
      rw [hdn] at HOF HSP HNX
      have HRT:=am (show ∃ rt:List S30,(ms.drop (j+1)).flatMap (Ht.isort Ht.ltE)=rt from ⟨_,rfl⟩)
      obtain ⟨rt,hrt⟩:=HRT.out
      rw [hrt] at HSP
      clear hl hl5 hr5 HDN HRT hdn hrt
      obtain ⟨s,hs⟩:∃ s,Ht.isort Ht.ltE l=s:=⟨_,rfl⟩
      have HSL:=am (show s.length=l.length by rw [← hs];exact (Ht.isort_perm Ht.ltE l).length_eq)
      have HSZ:=am (show ∀ x∈s,x.f0.size < 512 from fun x hx=>HLZ.out x ((Ht.isort_perm Ht.ltE l).mem_iff.1 (hs ▸ hx)))
      rw [hs] at HSP HNX
      have HSS:=am hs
      clear hs
      have HBV:=am (show Below wr.heap.size wr (wr.alloc (.cells #[.slice A5 l.length c5] 26)) from (Below.refl _ _).alloc (Nat.le_refl _) _)
      have HBS:=am (show (wr.alloc (.cells #[.slice A5 l.length c5] 26)).heap.size=wr.heap.size+1 by simp)
      go_wp2_with (first|(go_at_call 20;refine (sorted_calls (wr.alloc (.cells #[.slice A5 l.length c5] 26)) wr.heap.size A5 c5 l (blk_new _ _) (Kd.C_below HR5.out HBV.out) (by have:=HLL.out;omega) HLZ.out HLA.out).mono ?_;rintro e w4 ⟨vs,rfl,hr,hb⟩;rw [HSS.out] at hr;obtain ⟨A6,c6,rfl⟩:=Kd.R_slice hr;have HVS:=am hr;have HB4:=am hb;clear hr hb)|(go_at_call 21;refine (values_made A5 l.length c5 wr).mono ?_;rintro e w3 ⟨rfl,rfl⟩))
      clear hjb hcl
      have HB4w:=am (HBV.out.trans (HB4.out.mono (by rw [HBS.out];omega)))
      have HOB:=am (show ∀ k,(Value.slice A6 s.length c6).ownBlock=some k→wr.heap.size < k∧k < w4.heap.size from fun k hk=>by have h1:=Kd.R_base HVS.out k hk;have h2:=Kd.R_lt HVS.out k hk;rw [HBS.out] at h1;omega)
      have HVS4:=am (Kd.R_tight rfl (Kd.R_lower HVS.out (show w3.heap.size≤_ by rw [HBS.out];have:=HB.out.size;omega)))
      have HO4:=am (Kd.R_mono (ok':=fun k=>some k≠(Value.slice A6 s.length c6).ownBlock) (Kd.R_bound (Kd.R_mono (ok':=fun k=>k < wr.heap.size) (Kd.R_bound HO.out) (fun k hk=>hk.2.2.1))) (fun k hk e=>by have:=HOB.out k e.symm;have:=hk.1;omega))
      have HO4:=am (Kd.R_below HO4.out HB4w.out)
      have HBW4:=am (HB.out.trans (HB4w.out.mono HB.out.size))
      have HWJ:=am (show wrap64 ((j:Int)+1)=((j+1:Nat):Int) by have:=HMSZ.out;have:=HJN.out;unfold wrap64;omega)
      clear HVS HO HB HB4 HB4w HBV HBS HR5 HL5
      go_loopw [9,40] (fun o i w'=>∃ (q:Nat) (out:List S30),i=.int .i64 (q:Int)∧Aside0 (q≤s.length)∧Aside0 (Kd.R k30 30 w' w3.heap.size (fun k=>some k≠(Value.slice A6 s.length c6).ownBlock) o out)∧Aside0 (Kd.R k30 30 w' w3.heap.size (fun k=>some k=(Value.slice A6 s.length c6).ownBlock) (.slice A6 s.length c6) s)∧Aside0 (out=(dn++s.take q).filter (aftP a1))∧Aside0 (out.length≤a2.toNat)∧Aside0 (Below w3.heap.size w3 w')∧Aside0 (w4.heap.size≤w'.heap.size)) (fun _ i _=>s.length - (intOf i).toNat)
      case atStart=>exact ⟨0,out,rfl,⟨Nat.zero_le _⟩,HO4,HVS4,⟨by rw [HOF.out];simp⟩,HOL,HBW4,⟨Nat.le_refl _⟩⟩
      case round =>
       clear HO4 HVS4 HOF HOL HBW4
       obtain ⟨q,out,rfl,HQ,HO,HS,HOF,HOL,HB,HWZ⟩:=hrel
       obtain ⟨Ao,co,rfl⟩:=Kd.R_slice HO.out
       by_cases hq:q < s.length
       ·have hqb:decide (q < s.length)=true:=decide_eq_true hq
        have HQN:=am hq
        obtain ⟨ad6,ead,hcm,hci⟩:=at_T30 (Kd.R_reads' HS.out).2.2 (q:Int) (by omega) (by omega)
        cases ead
        rw [Int.toNat_natCast,Lf.rdT_get hq] at hcm hci
        have HTS:=am (show s.take (q+1)=s.take q++[s[q]] from List.take_succ_eq_append_getElem hq)
        have HZX:=am (HSZ.out _ (List.getElem_mem hq))
        have HXE:=am (show ∃ x,s[q]=x from ⟨_,rfl⟩)
        obtain ⟨⟨nm,no⟩,hx⟩:=HXE.out
        rw [hx] at hcm hci HTS HZX
        dsimp only at hcm hci
        clear hx HXE
        have HWQ:=am (show wrap64 ((q:Int)+1)=((q+1:Nat):Int) by have:=HSL.out;have:=HLL.out;have:=HQN.out;unfold wrap64;omega)
        have HBA:=am (show Below wr.heap.size wr (wr.alloc (.cells #[.string nm,.int .i64 no] 30)) from (Below.refl _ _).alloc (Nat.le_refl _) _)
        have HXB:=am (blk_new wr (.cells #[.string nm,.int .i64 no] 30))
        by_cases hn:a2≤(out.length:Int)
        ·have hnb:decide (a2≤(out.length:Int))=true:=decide_eq_true hn
         have HEQ:=am (show out=ans by rw [← HAN.out];exact (aft_stop (rest:=s.drop q++rt) (by rw [HSP.out,List.append_assoc,← List.append_assoc (s.take q),List.take_append_drop]) HOF.out HOL.out hn).symm)
         clear hn;go_wp2
         go_ret2
         exact ⟨_,rfl,HEQ.out ▸ Kd.R_lower (Kd.R_mono (Kd.R_below HO.out HBA.out) (fun _ _=>trivial)) HB3.out.size,HB3.out.trans ((HB.out.trans (HBA.out.mono HB.out.size)).mono HB3.out.size)⟩
        ·have hnb:decide (a2≤(out.length:Int))=false:=decide_eq_false hn
         have HNL:=am (show out.length+1≤a2.toNat by omega)
         clear hn
         obtain ⟨kk,hkk⟩:=(Ht.ord_ev a1 nm 0 no HZ.out HZX.out).rounds
         obtain ⟨r,hr⟩:∃ r,Ht.ordI a1 nm=r:=⟨_,rfl⟩
         rw [hr] at hkk
         have HKK:=am hkk
         have HRI:=am (show (r < 0)↔Ht.ltE ⟨a1,0⟩ ⟨nm,no⟩=true from hr ▸ Ht.ordI_neg ⟨a1,0⟩ ⟨nm,no⟩)
         have HLN:=am (show out.length≤2000 by have h1:=HDNL.out;have h2:=HSL.out;have h3:=HLL.out;have h4:=HOF.out;have h5:=List.length_filter_le (aftP a1) (dn++s.take q);have h6:=List.length_take_le' q s;rw [← h4,List.length_append] at h5;omega)
         clear hr hkk
         by_cases hr0:r < 0
         ·have hrb:decide (r < 0)=true:=decide_eq_true hr0
          have HAP:=am (show aftP a1 ⟨nm,no⟩=true by unfold aftP;rw [HRI.out.1 hr0,Bool.or_true])
          clear hr0
          go_wp2_with (first|((with_reducible refine gate_builtin (b:=.append) (xs:=#[.tmp 58,.tmp 60]) rfl ?_);at_builtin;refine Kd.R_append k30 (w0:=w3) w3.heap.size rfl (.tmp 58) (.tmp 60) 26 30 (.agg #[.string ⟨#[]⟩,.int .i64 0]) 24 rfl Try.underlying26 info30 rfl (by decide) (by omega) _ out (⟨nm,no⟩:S30) [.string nm,.int .i64 no] (fun k=>some k≠(Value.slice (some ad6) s.length c6).ownBlock) (fun _=>False) rfl rfl (k30_mkM _ _ _ (⟨nm,no⟩:S30)) (fun _ hk=>hk.elim) (fun k hk e=>by have h1:=HOB.out k e.symm;have h2:=HWZ.out;have h3:=HBA.out.size;have h4:=HW7.out.size;omega) HO7.out HB7.out HB7.out.size (by have:=HLN.out;omega) ?_;intro v8 w8 ho8 hb8 hg8 hat8;obtain ⟨A8,c8,ev8⟩:=Kd.R_slice ho8;rw [List.length_append,List.length_singleton] at ev8;subst ev8;have HS8:=am (Kd.R_grown HS7.out hg8 (fun k hk ek=>HO7.out.1 k ek.symm hk));have HO8:=am ho8;have HB8:=am hb8;have HG8:=am hg8.size;clear ho8 hb8 hg8 hat8)|(go_at_call 22;refine (htree_inOrder.calls kk a1 0 nm no r _ HKK.out).mono ?_;rintro e w7 ⟨rfl,hb7⟩;have hx0:=(blk_cell (blk_below HXB.out hb7) 0).trans rfl;have hx1:=(blk_cell (blk_below HXB.out hb7) 1).trans rfl;have HW7:=am (HBA.out.trans (hb7.mono HBA.out.size));have HO7:=am (Kd.R_below HO.out HW7.out);have HS7:=am (Kd.R_below HS.out HW7.out);have HB7:=am (HB.out.trans (HW7.out.mono HB.out.size));clear hb7))
          go_roundw
          case rel=>exact ⟨q+1,out++[⟨nm,no⟩],by rw [HWQ.out],⟨HQN.out⟩,HO8,HS8,⟨by rw [HTS.out,← List.append_assoc,List.filter_append,← HOF.out,List.filter_cons_of_pos HAP.out,List.filter_nil]⟩,⟨by rw [List.length_append];exact HNL.out⟩,HB8,⟨by have:=HG8.out;have:=HWZ.out;have:=HW7.out.size;omega⟩⟩
          case measure=>rw [HWQ.out];show s.length - (((q+1:Nat):Int)).toNat < s.length - ((q:Int)).toNat;have:=HQN.out;omega
         ·have hrb:decide (r < 0)=false:=decide_eq_false hr0
          have HAP:=am (show ¬ aftP a1 ⟨nm,no⟩=true by
           unfold aftP
           rw [decide_eq_false HNE.out,Bool.false_or]
           exact fun h=>hr0 (HRI.out.2 h))
          clear hr0
          go_wp2_with (go_at_call 22;refine (htree_inOrder.calls kk a1 0 nm no r _ HKK.out).mono ?_;rintro e w7 ⟨rfl,hb7⟩;have hx0:=(blk_cell (blk_below HXB.out hb7) 0).trans rfl;have hx1:=(blk_cell (blk_below HXB.out hb7) 1).trans rfl;have HW7:=am (HBA.out.trans (hb7.mono HBA.out.size));have HO7:=am (Kd.R_below HO.out HW7.out);have HS7:=am (Kd.R_below HS.out HW7.out);have HB7:=am (HB.out.trans (HW7.out.mono HB.out.size));clear hb7)
          go_roundw
          case rel=>exact ⟨q+1,out,by rw [HWQ.out],⟨HQN.out⟩,HO7,HS7,⟨by rw [HTS.out,← List.append_assoc,List.filter_append,← HOF.out,List.filter_cons_of_neg HAP.out,List.filter_nil,List.append_nil]⟩,HOL,HB7,⟨by have:=HWZ.out;have:=HW7.out.size;omega⟩⟩
          case measure=>rw [HWQ.out];show s.length - (((q+1:Nat):Int)).toNat < s.length - ((q:Int)).toNat;have:=HQN.out;omega
       ·obtain rfl:q=s.length:=by have:=HQ.out;omega
        have hqb:decide (s.length < s.length)=false:=decide_eq_false (by omega)
        clear hq;go_wp2
        go_roundw
        case rel=>exact ⟨j+1,out,by rw [HWJ.out],⟨HJN.out⟩,⟨Kd.R_mono HO.out (fun _ _=>trivial)⟩,⟨by rw [HNX.out,HOF.out,List.take_length]⟩,HOL,HB⟩
        case measure=>rw [HWJ.out];show ms.length - (((j+1:Nat):Int)).toNat < ms.length - ((j:Int)).toNat;have:=HJN.out;omega
     ·obtain rfl:j=ms.length:=by have:=HJ.out;omega
      have hjb:decide (ms.length < ms.length)=false:=decide_eq_false (by omega)
      have HEQ:=am (show out=ans by rw [← HAN.out];exact (aft_end (by have:=HOF.out;rwa [List.take_length] at this) HOL.out).symm)
      clear hj;go_wp2
      go_ret2
      exact ⟨_,rfl,HEQ.out ▸ Kd.R_lower (Kd.R_mono HO.out (fun _ _=>trivial)) HB3.out.size,HB3.out.trans (HB.out.mono HB3.out.size)⟩
 ·rw [if_neg hd] at h
  cases h
theorem eqA30 (d:Nat) (w:World) (x0 y0:ByteArray) (x1 y1:Int) :
  (Op.equalIn (d+2) 30 (.agg #[.string x0,.int .i64 x1]) (.agg #[.string y0,.int .i64 y1])).run Try.prog w=.ok (x0.toList==y0.toList&&(x1==y1)) w:=by
 refine eqA_of Try.underlying30 (by kernel_rfl) ?_
 refine eqf_cons (by rfl) (by go_simp;rfl) (by go_simp;rfl) (by go_simp) ?_
 exact eqf_last (by rfl) (by go_simp;rfl) (by go_simp;rfl) (by go_simp)
end Go.Proofs.Yteglhbfhibfodaa.Pr
end
section
namespace Go.Proofs.Yteglhbfhibfodaa.Pr
open Go.RowKit Go.Proofs.YteglhbfhibfodaaW.PrintWords Go.Proofs.YteglhbfhibfodaaW.PrintLast Go.Proofs.YteglhbfhibfodaaW.PrintMore
attribute [local go_sem] max2_int min2_int max_two min_two max_three min_three max_four min_four
attribute [local go_sem] Go.Proofs.Yteglhbfhibfodaa.Hl.str_geq Go.Proofs.Yteglhbfhibfodaa.Hl.str_gtr Go.Proofs.Yteglhbfhibfodaa.Hl.str_leq
set_option linter.unusedVariables false
set_option linter.unusedSimpArgs false
attribute [local go_sem high] eqA30
def r_11_Same.l0:Nat→List (S30)→List (S30)→Int→Option (Bool)
 | 0,_,_,_=>none
 | k+1,x0,x1,x5=>if x5 < (x0.length:Int) then (if 0≤x5 then (if x5 < (x1.length:Int) then (if (!((((rd_T30 x0 x5).f0).toList)==(((rd_T30 x1 x5).f0).toList))||(!(((rd_T30 x0 x5).f1)==((rd_T30 x1 x5).f1))))=true then (some false) else (r_11_Same.l0 k x0 x1 (wrap64 (x5+1)))) else (none)) else (none)) else (some true)
def r_11_Same.f (k:Nat) (l0:List (S30)) (l1:List (S30)):Option (Bool):=if (l0.length:Int)=(l1.length:Int) then (r_11_Same.l0 k l0 l1 0) else (some false)
set_option maxHeartbeats 8000000 in
set_option maxRecDepth 100000 in
theorem r_11_Same.calls (k:Nat) (A0:Option Addr) (c0:Nat) (l0:List (S30)) (A1:Option Addr) (c1:Nat) (l1:List (S30)) (r:Bool) (w:World) (hr0:Kd.C k30 w A0 l0.length l0) (hc0:l0.length≤c0) (hr1:Kd.C k30 w A1 l1.length l1) (hc1:l1.length≤c1) (h:r_11_Same.f k l0 l1=some r) :
  Calls Try.prog 11 #[.slice A0 l0.length c0,.slice A1 l1.length c1] w fun e w'=>e=.returned (.bool r)∧Drawn0 w w':=by
 have hu30:=Try.underlying30
 have HR0:=am hr0
 have HC0:=am hc0
 clear hr0 hc0
 have HR1:=am hr1
 have HC1:=am hc1
 clear hr1 hc1
 have H:(if (l0.length:Int)=(l1.length:Int) then (r_11_Same.l0 k l0 l1 0) else (some false))=some r:=h
 clear h
 by_cases c3:(l0.length:Int)=(l1.length:Int)
 ·rw [if_pos c3] at H
  have c3b0:((l0.length:Int)==(l1.length:Int))=true:=beq_iff_eq.mpr c3
  have c3b1:((l0.length:Int) != (l1.length:Int))=false:=bne_eq_false_iff_eq.mpr c3
  have c3b2:(l0.length==l1.length)=true:=by first|simpa using c3|(simp at c3 ⊢;omega)
  clear c3
  have H':=am H
  clear H
  go_enter Try.func11,Try.ntmps11
  go_wp2
  repeat (go_quiet (fail);try go_wp2)
  go_loopg [5] k (fun kq v5 w'=>∃ (x5_1:Int),v5=.int .i64 x5_1∧Aside0 (r_11_Same.l0 kq l0 l1 x5_1=some r)∧Aside0 (kq≤k)∧Drawn0 w w')
  case atStart=>exact ⟨(0),(by first|rfl|(simp;done)|(simp [*];done)),H',⟨Nat.le_refl _⟩,by repeat (first|exact Drawn0.refl _|apply Drawn0.step)⟩
  case round =>
   clear H'
   try clear c1
   try clear p2
   try clear c3
   try clear c3b0
   try clear c3b1
   try clear c3b2
   obtain ⟨x5_1,rfl,HA,HK1,⟨m1,rfl⟩⟩:=hrel
   cases gk with
   | zero=>exact absurd HA.out (by intro h_;cases h_)
   | succ k1 =>
    have H:=HA.out
    clear HA
    simp only [r_11_Same.l0] at H
    by_cases c4:x5_1 < (l0.length:Int)
    ·rw [if_pos c4] at H
     have c4b0:decide (x5_1 < (l0.length:Int))=true:=decide_eq_true c4
     clear c4
     by_cases c5:0≤x5_1
     ·rw [if_pos c5] at H
      have c5b0:decide (0≤x5_1)=true:=decide_eq_true c5
      clear c5
      by_cases c6:x5_1 < (l1.length:Int)
      ·rw [if_pos c6] at H
       have c6b0:decide (x5_1 < (l1.length:Int))=true:=decide_eq_true c6
       clear c6
       by_cases c7:(!((((rd_T30 l0 x5_1).f0).toList)==(((rd_T30 l1 x5_1).f0).toList))||(!(((rd_T30 l0 x5_1).f1)==((rd_T30 l1 x5_1).f1))))=true
       ·rw [if_pos c7] at H
        have c7b0:(!((((rd_T30 l0 x5_1).f0).toList)==(((rd_T30 l1 x5_1).f0).toList))||(!(((rd_T30 l0 x5_1).f1)==((rd_T30 l1 x5_1).f1))))=true:=c7
        clear c7;obtain rfl:=Option.some.inj H
        have p219:0≤(x5_1:Int):=od
        have q219:x5_1 < (l0.length:Int):=od
        obtain ⟨ad219,e219,hx219_0,hx219_1⟩:=at_T30 HR0.out x5_1 p219 q219
        cases e219
        replace p219:=eq_true p219;replace q219:=eq_true q219
        have p220:0≤(x5_1:Int):=od
        have q220:x5_1 < (l1.length:Int):=od
        obtain ⟨ad220,e220,hx220_0,hx220_1⟩:=at_T30 HR1.out x5_1 p220 q220
        cases e220
        replace p220:=eq_true p220;replace q220:=eq_true q220;go_wp2
        repeat (go_quiet (fail);try go_wp2)
        go_ret
        exact ⟨by first|rfl|(simp;done)|(simp [*];done),by repeat (first|exact Drawn0.refl _|apply Drawn0.step)⟩
       ·rw [if_neg c7] at H
        have c7b0:(!((((rd_T30 l0 x5_1).f0).toList)==(((rd_T30 l1 x5_1).f0).toList))||(!(((rd_T30 l0 x5_1).f1)==((rd_T30 l1 x5_1).f1))))=false:=by simpa using c7
        clear c7
        have H':=am H
        clear H
        have p219:0≤(x5_1:Int):=od
        have q219:x5_1 < (l0.length:Int):=od
        obtain ⟨ad219,e219,hx219_0,hx219_1⟩:=at_T30 HR0.out x5_1 p219 q219
        cases e219
        replace p219:=eq_true p219;replace q219:=eq_true q219
        have p220:0≤(x5_1:Int):=od
        have q220:x5_1 < (l1.length:Int):=od
        obtain ⟨ad220,e220,hx220_0,hx220_1⟩:=at_T30 HR1.out x5_1 p220 q220
        cases e220
        replace p220:=eq_true p220;replace q220:=eq_true q220;go_wp2
        repeat (go_quiet (fail);try go_wp2)
        go_roundg k1
        case measure=>have:=HK1.out;omega
        case rel=>exact ⟨(wrap64 (x5_1+1)),(by first|rfl|(simp;done)|(simp [*];done)),H',⟨by have:=HK1.out;omega⟩,by repeat (first|exact Drawn0.refl _|apply Drawn0.step)⟩
      ·rw [if_neg c6] at H
       exact absurd H (by simp)
     ·rw [if_neg c5] at H
      exact absurd H (by simp)
    ·rw [if_neg c4] at H
     have c4b0:decide (x5_1 < (l0.length:Int))=false:=decide_eq_false c4
     clear c4;obtain rfl:=Option.some.inj H;go_wp2
     repeat (go_quiet (fail);try go_wp2)
     go_ret
     exact ⟨by first|rfl|(simp;done)|(simp [*];done),by repeat (first|exact Drawn0.refl _|apply Drawn0.step)⟩
 ·rw [if_neg c3] at H
  have c3b0:((l0.length:Int)==(l1.length:Int))=false:=beq_eq_false_iff_ne.mpr c3
  have c3b1:((l0.length:Int) != (l1.length:Int))=true:=bne_iff_ne.mpr c3
  have c3b2:(l0.length==l1.length)=false:=by first|simpa using c3|(simp at c3 ⊢;omega)
  obtain rfl:=Option.some.inj H
  go_enter Try.func11,Try.ntmps11
  go_wp2
  repeat (go_quiet (fail);try go_wp2)
  go_ret
  exact ⟨by first|rfl|(simp;done)|(simp [*];done),by repeat (first|exact Drawn0.refl _|apply Drawn0.step)⟩
end Go.Proofs.Yteglhbfhibfodaa.Pr
end
section
namespace Go.Proofs.Yteglhbfhibfodaa.Ht
open Go.RowKit Go.Proofs.YteglhbfhibfodaaW.PrintWords Go.Proofs.YteglhbfhibfodaaW.PrintMore Go.Proofs.Yteglhbfhibfodaa.Pr Go.Proofs.Yteglhbfhibfodaa.Od Go.Proofs.Yteglhbfhibfodaa.Cr Go.Proofs.Yteglhbfhibfodaa.Lf
set_option linter.unusedVariables false
set_option linter.unusedSimpArgs false
theorem dirB_of {d : List (List Int)} (hb : bytesD d) (hl : d.length < 5864062014805) : dirB d = true := by
  unfold dirB
  rw [Bool.and_eq_true, decide_eq_true_eq, List.all_eq_true]
  exact ⟨hl, fun r hr => List.all_eq_true.2 fun x hx => by
    have := hb r hr x hx
    rw [Bool.and_eq_true, decide_eq_true_eq, decide_eq_true_eq]
    exact this⟩
theorem Dir.len {d : List (List Int)} (h : Dir d) : d.length ≤ 31 := by
  obtain ⟨rs, ls, hr⟩ := h.read
  exact (readP_len h.byte hr).1
theorem Dir.b {d : List (List Int)} (h : Dir d) : dirB d = true := dirB_of h.byte (by have := h.len; omega)
theorem f_check {d : List (List Int)} (h : dirB d = true) : htree_Check.f d = some (checkP d) := by unfold htree_Check.f; rw [if_pos h]
theorem f_add {d : List (List Int)} (h : dirB d = true) (s : ByteArray) (n : Int) : htree_Add.f d s n = some (addP d ⟨s, n⟩) := by unfold htree_Add.f; rw [if_pos h]
theorem f_find {d : List (List Int)} (h : dirB d = true) (s : ByteArray) : htree_Find.f d s = some (findP d s) := by unfold htree_Find.f; rw [if_pos h]
theorem f_after {d : List (List Int)} (h : dirB d = true) (s : ByteArray) (hs : s.size < 512) (n : Int) : htree_After.f d s n = some (afterP d s n) := by unfold htree_After.f; rw [if_pos ⟨h, hs⟩]
theorem new_ev : Ev (fun k => htree_New.f k) newD := by
  unfold htree_New.f
  refine Ev.bind (enc_ev [] (by decide)) ?_
  exact Ev.now _
theorem after0 {d : List (List Int)} (h : Dir d) (n : Int) : afterP d ⟨#[]⟩ n = ((entsD d).take n.toNat, 0) := by
  obtain ⟨rs, ls, hr⟩ := h.read
  exact after_all h.byte hr rfl n
def aN : ByteArray := ⟨#[97]⟩
theorem may_a : mayB aN = true := by decide
theorem alive_ev : Ev (fun k => l_12_alive.f k) true := by
  unfold l_12_alive.f
  refine Ev.bind new_ev ?_
  have hm7 : mayX (⟨aN, 7⟩ : E) = true := by decide
  have hm0 : mayX (⟨aN, 0⟩ : E) = true := by decide
  obtain ⟨d1, h1⟩ := add_new hm7
  have hna : ¬ ∃ y ∈ entsD newD, y.f0 = aN := by rw [ents_new]; rintro ⟨y, hy, _⟩; cases hy
  obtain ⟨d1', e1, hd1, he1⟩ : ∃ d', addP newD ⟨aN, 7⟩ = (d', 0) ∧ Dir d' ∧ entsD d' = ins ltE ⟨aN, 7⟩ (entsD newD) := by
    rcases (add_law dir_new ⟨aN, 7⟩).2.2 hm7 hna with h | h
    · rw [h1] at h; exact absurd (show (0 : Int) = 9 from congrArg Prod.snd h) (by decide)
    · exact h
  rw [ents_new, show ins ltE (⟨aN, 7⟩ : E) [] = [⟨aN, 7⟩] from rfl] at he1
  have e2 : findP d1' aN = (7, 0) := by
    rw [find_law hd1, he1, if_neg (by rw [may_a]; decide)]
    rfl
  have e3 : addP d1' ⟨aN, 0⟩ = ([], 4) := (add_law hd1 ⟨aN, 0⟩).2.1 hm0 (by rw [he1]; exact ⟨_, List.mem_singleton.2 rfl, rfl⟩)
  change Ev (fun k => (htree_Add.f newD aN 7).bind _) true
  rw [f_add dir_new.b, e1]
  simp only [bs]
  change Ev (fun k => (htree_Find.f d1' aN).bind _) true
  rw [f_find hd1.b, e2]
  simp only [bs]
  change Ev (fun k => (htree_Add.f d1' aN 0).bind _) true
  rw [f_add hd1.b, e3]
  simp only [bs, if_true]
  rw [f_check (dirB_of (d := []) (fun _ h => by cases h) (by decide))]
  simp only [bs]
  exact Ev.now _
theorem same_ev (l : List E) (hl : l.length < 5864062014805) : Ev (fun k => r_11_Same.f k l l) true := by
  unfold r_11_Same.f
  simp only [if_true]
  have key : ∀ (n i : Nat), i + n = l.length → Ev (fun k => r_11_Same.l0 k l l (i : Int)) true := by
    intro n
    induction n with
    | zero =>
      intro i hi
      refine Ev.succ ?_
      simp only [r_11_Same.l0, if_neg (show ¬((i : Int) < (l.length : Int)) by omega)]
      exact Ev.now _
    | succ n ih =>
      intro i hi
      refine Ev.succ ?_
      have hil : i < l.length := by omega
      simp only [r_11_Same.l0, if_pos (show ((i : Int) < (l.length : Int)) by omega), if_pos (show (0 : Int) ≤ (i : Int) by omega), beq_self_eq_true, Bool.not_true, Bool.or_self, Bool.false_eq_true, if_false, w64 (show -9223372036854775808 ≤ (i : Int) + 1 by omega) (by omega)]
      exact ih (i + 1) (by omega)
  exact key l.length 0 (by omega)
end Go.Proofs.Yteglhbfhibfodaa.Ht
end
section
namespace Go.Proofs.Yteglhbfhibfodaa.Pr
open Go.RowKit Go.Proofs.YteglhbfhibfodaaW.PrintWords Go.Proofs.YteglhbfhibfodaaW.PrintLast Go.Proofs.YteglhbfhibfodaaW.PrintMore
attribute [local go_sem] max2_int min2_int max_two min_two max_three min_three max_four min_four
attribute [local go_sem] Go.Proofs.Yteglhbfhibfodaa.Hl.str_geq Go.Proofs.Yteglhbfhibfodaa.Hl.str_gtr Go.Proofs.Yteglhbfhibfodaa.Hl.str_leq
set_option linter.unusedVariables false
set_option linter.unusedSimpArgs false
mutual
def l_12_HtreeSame.j0:Nat→List ByteArray→Int→List (List Int)→List (List Int)→Int→Option (Bool)
 | 0,_,_,_,_,_=>none
 | k+1,x0,x1,x5,x6,x7=>l_12_HtreeSame.l0 k x0 x1 x5 x6 x7 0
def l_12_HtreeSame.l0:Nat→List ByteArray→Int→List (List Int)→List (List Int)→Int→Int→Option (Bool)
 | 0,_,_,_,_,_,_=>none
 | k+1,x0,x1,x5,x6,x7,x8=>if x8 < x7 then (if (IntKind.u64.wrap (x7))=0 then (none) else (if 0≤x8 then (if x8 < (x0.length:Int) then ((htree_Add.f x5 (rdOf ByteArray.empty x0 x8) ((rdOf ByteArray.empty x0 x8).size:Int)).bind fun bt265=>(if bt265.2=0 then (l_12_HtreeSame.j2 k x0 x1 bt265.1 x6 x7 x8 (wrap64 (Int.tmod (IntKind.u64.wrap ((Int.tmod (IntKind.u64.wrap (x1)) (IntKind.u64.wrap (x7)))+(IntKind.u64.wrap (x8)))) (IntKind.u64.wrap (x7)))) bt265.2) else (l_12_HtreeSame.j2 k x0 x1 x5 x6 x7 x8 (wrap64 (Int.tmod (IntKind.u64.wrap ((Int.tmod (IntKind.u64.wrap (x1)) (IntKind.u64.wrap (x7)))+(IntKind.u64.wrap (x8)))) (IntKind.u64.wrap (x7)))) bt265.2))) else (none)) else (none))) else ((htree_After.f x5 (⟨#[]⟩:ByteArray) 999).bind fun bt254=>((htree_After.f x6 (⟨#[]⟩:ByteArray) 999).bind fun bt258=>(if bt254.2=0 then (if bt258.2=0 then ((r_11_Same.f k bt254.1 bt258.1).bind fun t262=>(some t262)) else (some false)) else (some false))))
def l_12_HtreeSame.j2:Nat→List ByteArray→Int→List (List Int)→List (List Int)→Int→Int→Int→Int→Option (Bool)
 | 0,_,_,_,_,_,_,_,_=>none
 | k+1,x0,x1,x5,x6,x7,x8,x9,x11=>if 0≤x9 then (if x9 < (x0.length:Int) then ((htree_Add.f x6 (rdOf ByteArray.empty x0 x9) ((rdOf ByteArray.empty x0 x9).size:Int)).bind fun bt271=>(if bt271.2=0 then (if x11=9 then (some true) else (if bt271.2=9 then (some true) else (l_12_HtreeSame.l0 k x0 x1 x5 bt271.1 x7 (wrap64 (x8+1))))) else (if x11=9 then (some true) else (if bt271.2=9 then (some true) else (l_12_HtreeSame.l0 k x0 x1 x5 x6 x7 (wrap64 (x8+1))))))) else (none)) else (none)
end
def l_12_HtreeSame.f (k:Nat) (l0:List ByteArray) (a1:Int):Option (Bool):=(l_12_alive.f k).bind fun t247=>(if t247=true then ((htree_New.f k).bind fun t248=>((htree_New.f k).bind fun t251=>(if (l0.length:Int) > 60 then (l_12_HtreeSame.j0 k l0 a1 t248 t251 60) else (l_12_HtreeSame.j0 k l0 a1 t248 t251 (l0.length:Int))))) else (some false))
def l_12_HtreeSame.T11:Bool×List (List Nat×List Nat):=(true,[([],[]),([],[]),([],[]),([1,2],[1,2]),([3],[3]),([],[]),([],[]),([5,6],[5,6]),([7],[7]),([8],[8]),([4,9],[4,9]),([0,10],[0,10]),([11],[11]),([12],[12]),([12],[12]),([13,11,0,1,2,3,4,5,6,7,8,9,10,11,12,13],[13]),([14,15,0,1,2,3,4,5,6,7,8,9,10,11,12,13,14,15],[14])])
def l_12_HtreeSame.B11:List Nat:=[0,0,0,6,14,0,0,96,224,480,1022,2047,4095,8191,8191,16383,65535]
theorem l_12_HtreeSame.tab11:rtab .any (opsOf Try.f4 11)=l_12_HtreeSame.T11:=by kernel_rfl
theorem l_12_HtreeSame.bits11:waitsOk l_12_HtreeSame.T11.2 l_12_HtreeSame.B11=true:=by kernel_rfl
def l_12_HtreeSame.T14:Bool×List (List Nat×List Nat):=(true,[([],[]),([],[]),([],[]),([1,2],[1,2]),([3],[3]),([],[]),([],[]),([5,6],[5,6]),([7],[7]),([8],[8]),([4,9],[4,9]),([0,10],[0,10]),([11],[11]),([12],[12]),([12],[12]),([13,11,0,1,2,3,4,5,6,7,8,9,10,11,12,13],[13]),([14,15,0,1,2,3,4,5,6,7,8,9,10,11,12,13,14,15],[14])])
def l_12_HtreeSame.B14:List Nat:=[0,0,0,6,14,0,0,96,224,480,1022,2047,4095,8191,8191,16383,65535]
theorem l_12_HtreeSame.tab14:rtab .any (opsOf Try.f4 14)=l_12_HtreeSame.T14:=by kernel_rfl
theorem l_12_HtreeSame.bits14:waitsOk l_12_HtreeSame.T14.2 l_12_HtreeSame.B14=true:=by kernel_rfl
set_option maxHeartbeats 8000000 in
set_option maxRecDepth 100000 in
theorem l_12_HtreeSame.calls (k:Nat) (A0:Option Addr) (c0:Nat) (l0:List ByteArray) (a1:Int) (r:Bool) (w:World) (hr0:Kd.C Kd.string w A0 l0.length l0) (hc0:l0.length≤c0) (h:l_12_HtreeSame.f k l0 a1=some r) :
  Calls Try.prog 4 #[.slice A0 l0.length c0,.int .i64 a1] w fun e w'=>e=.returned (.bool r)∧Below w.heap.size w w':=by
 have hu30:=Try.underlying30
 have HR0:=am hr0
 have HC0:=am hc0
 clear hr0 hc0
 have HB:=am (Below.refl w.heap.size w)
 have H:((l_12_alive.f k).bind fun t247=>(if t247=true then ((htree_New.f k).bind fun t248=>((htree_New.f k).bind fun t251=>(if (l0.length:Int) > 60 then (l_12_HtreeSame.j0 k l0 a1 t248 t251 60) else (l_12_HtreeSame.j0 k l0 a1 t248 t251 (l0.length:Int))))) else (some false)))=some r:=h
 clear h
 replace H:=Option.bind_eq_some_iff.mp H
 obtain ⟨t247,A30,H⟩:=H
 replace H:(if t247=true then ((htree_New.f k).bind fun t248=>((htree_New.f k).bind fun t251=>(if (l0.length:Int) > 60 then (l_12_HtreeSame.j0 k l0 a1 t248 t251 60) else (l_12_HtreeSame.j0 k l0 a1 t248 t251 (l0.length:Int))))) else (some false))=some r:=H
 have A3:=am A30
 clear A30
 by_cases c4:t247=true
 ·subst c4
  have H1:((htree_New.f k).bind fun t248=>((htree_New.f k).bind fun t251=>(if (l0.length:Int) > 60 then (l_12_HtreeSame.j0 k l0 a1 t248 t251 60) else (l_12_HtreeSame.j0 k l0 a1 t248 t251 (l0.length:Int)))))=some r:=by rw [if_pos rfl] at H;exact H
  clear H;have H:=H1;clear H1
  replace H:=Option.bind_eq_some_iff.mp H
  obtain ⟨t248,A50,H⟩:=H
  replace H:((htree_New.f k).bind fun t251=>(if (l0.length:Int) > 60 then (l_12_HtreeSame.j0 k l0 a1 t248 t251 60) else (l_12_HtreeSame.j0 k l0 a1 t248 t251 (l0.length:Int))))=some r:=H
  have A5:=am A50
  clear A50
  replace H:=Option.bind_eq_some_iff.mp H
  obtain ⟨t251,A60,H⟩:=H
  replace H:(if (l0.length:Int) > 60 then (l_12_HtreeSame.j0 k l0 a1 t248 t251 60) else (l_12_HtreeSame.j0 k l0 a1 t248 t251 (l0.length:Int)))=some r:=H
  have A6:=am A60
  clear A60
  have HC7:=am H
  clear H
  go_enter Try.func4,Try.ntmps4
  go_upto_if 25 with (first|((with_reducible refine gate_callee (f:=7) rfl ?_);refine goesL_ (some 18) rfl rfl Try.func7 (by kernel_rfl) rfl #[] rfl (by (try simp only [List.map_toArray,List.map_cons,List.map_nil]);first|done|rfl|(simp only [List.length_drop,List.length_take];rfl)) ?_;(with_reducible refine (l_12_alive.calls k  true _ A3.out).mono ?_);rintro e w8 ⟨rfl,hb⟩;refine ⟨_,rfl,?_⟩;have n0_:=bst HB hb;clear HB;have HB:=n0_;clear n0_;(try clear hb);(try clear hb2);(try clear hk);(try clear hi))|((with_reducible refine gate_callee (f:=12) rfl ?_);refine goesL_ (some 20) rfl rfl Try.func12 (by kernel_rfl) rfl #[] rfl (by (try simp only [List.map_toArray,List.map_cons,List.map_nil]);first|done|rfl|(simp only [List.length_drop,List.length_take];rfl)) ?_;(with_reducible refine (htree_New.calls k  t248 _ A5.out).mono ?_);rintro e w9 ⟨v249,rfl,ho0,hb⟩;refine ⟨_,rfl,?_⟩;have n0_:=am (Kd.N_lower (Kd.N_mono (ok':=fun k_=>True) ho0 (fun k_ hk_=>trivial)) (bz HB));have n1_:=bst HB hb;clear HB;have HO250:=n0_;have HB:=n1_;clear n0_ n1_;(try clear hb);(try clear hb2);(try clear hk);(try clear hi);(try clear ho0))|((with_reducible refine gate_callee (f:=12) rfl ?_);refine goesL_ (some 21) rfl rfl Try.func12 (by kernel_rfl) rfl #[] rfl (by (try simp only [List.map_toArray,List.map_cons,List.map_nil]);first|done|rfl|(simp only [List.length_drop,List.length_take];rfl)) ?_;(with_reducible refine (htree_New.calls k  t251 _ A6.out).mono ?_);rintro e w10 ⟨v252,rfl,ho0,hb⟩;refine ⟨_,rfl,?_⟩;have n0_:=am (Kd.N_elder' (by (with_reducible repeat (first|apply Kd.N_alloc|apply Kd.N_drewN|apply Kd.N_drew));exact HO250.out) (by first|exact Kd.N_base ho0|exact Kd.S_base ho0) hb);have n1_:=am (Kd.N_lower (Kd.N_mono (ok':=fun k_=>some k_≠(v249:Value).ownBlock) ho0 (fun k_ hk_=>(Kd.fresh' (Kd.N_lt (by (with_reducible repeat (first|apply Kd.N_alloc|apply Kd.N_drewN|apply Kd.N_drew));exact HO250.out)) k_ hk_))) (bz HB));have n2_:=bst HB hb;clear HO250;clear HB;have HO250:=n0_;have HO253:=n1_;have HB:=n2_;clear n0_ n1_ n2_;(try clear hb);(try clear hb2);(try clear hk);(try clear hi);(try clear ho0)))
  (try simp only [Act.put,List.setIfInBounds_toArray,List.set_cons_zero,List.set_cons_succ])
  go_cut [7] (fun v7 wc=>∃ (kq:Nat) (x7_6:Int),v7=.int .i64 x7_6∧Aside0 (l_12_HtreeSame.j0 kq l0 a1 t248 t251 x7_6=some r)∧Aside0 (kq≤k)∧Aside0 (Kd.N (Kd.slice 5 (Kd.int .u8)) 66 wc w.heap.size (fun k_=>some k_≠(v252:Value).ownBlock) v249 t248)∧Aside0 (Kd.N (Kd.slice 5 (Kd.int .u8)) 66 wc w.heap.size (fun k_=>some k_≠(v249:Value).ownBlock) v252 t251)∧Aside0 (Below w.heap.size w wc))
  case first =>
   have H:=HC7.out
   clear HC7
   by_cases c11:(l0.length:Int) > 60
   ·rw [if_pos c11] at H
    have c11b0:decide (60 < (l0.length:Int))=true:=decide_eq_true c11
    have c11b1:decide (60 < l0.length)=true:=decide_eq_true (by omega)
    clear c11
    (first|rw [c11b0]|(simp only [i64_w,i32_w];rw [c11b0])|skip)
    have H':=am H
    clear H;go_wp2
    go_meet
    case rel=>exact ⟨_,(60),(by first|rfl|(simp;done)|(simp [*];done)),H',⟨by first|omega|exact Nat.le_refl _⟩,⟨by (with_reducible repeat (first|apply Kd.N_alloc|apply Kd.N_drewN|apply Kd.N_drew));exact Kd.N_mono HO250.out (fun _ hk=>hk.2)⟩,⟨by (with_reducible repeat (first|apply Kd.N_alloc|apply Kd.N_drewN|apply Kd.N_drew));exact HO253.out⟩,⟨bb HB⟩⟩
   ·rw [if_neg c11] at H
    have c11b0:decide (60 < (l0.length:Int))=false:=decide_eq_false c11
    have c11b1:decide (60 < l0.length)=false:=decide_eq_false (by omega)
    clear c11
    (first|rw [c11b0]|(simp only [i64_w,i32_w];rw [c11b0])|skip)
    have H':=am H
    clear H;go_wp2
    go_meet
    case rel=>exact ⟨_,((l0.length:Int)),(by first|rfl|(simp;done)|(simp [*];done)),H',⟨by first|omega|exact Nat.le_refl _⟩,⟨by (with_reducible repeat (first|apply Kd.N_alloc|apply Kd.N_drewN|apply Kd.N_drew));exact Kd.N_mono HO250.out (fun _ hk=>hk.2)⟩,⟨by (with_reducible repeat (first|apply Kd.N_alloc|apply Kd.N_drewN|apply Kd.N_drew));exact HO253.out⟩,⟨bb HB⟩⟩
  case rest =>
   clear HC7
   try clear c1
   try clear p2
   try clear c4
   try clear c7
   try clear c11
   try clear c11b0
   try clear c11b1
   obtain ⟨kq,x7_6,rfl,HA,HJ6,HO_5,HO_6,HB⟩:=hcut
   cases kq with
   | zero=>exact absurd HA.out (by intro h_;cases h_)
   | succ kj6 =>
    have H:=HA.out
    clear HA
    simp only [l_12_HtreeSame.j0] at H
    have H':=am H
    clear H;go_wp2
    go_loopg [5,6,8] kj6 (fun kq v5 v6 v8 w'=>∃ (x5_2:List (List Int)) (x6_2:List (List Int)) (x8_2:Int),v8=.int .i64 x8_2∧Aside0 (l_12_HtreeSame.l0 kq l0 a1 x5_2 x6_2 x7_6 x8_2=some r)∧Aside0 (kq≤kj6)∧Aside0 (Kd.N (Kd.slice 5 (Kd.int .u8)) 66 w' w.heap.size (fun k_=>some k_≠(v6:Value).ownBlock) v5 x5_2)∧Aside0 (Kd.N (Kd.slice 5 (Kd.int .u8)) 66 w' w.heap.size (fun k_=>some k_≠(v5:Value).ownBlock) v6 x6_2)∧Aside0 (Below w.heap.size w w'))
    case atStart=>exact ⟨(t248),(t251),(0),(by first|rfl|(simp;done)|(simp [*];done)),H',⟨Nat.le_refl _⟩,⟨by (with_reducible repeat (first|apply Kd.N_alloc|apply Kd.N_drewN|apply Kd.N_drew));exact HO_5.out⟩,⟨by (with_reducible repeat (first|apply Kd.N_alloc|apply Kd.N_drewN|apply Kd.N_drew));exact HO_6.out⟩,⟨bb HB⟩⟩
    case round =>
     clear H'
     try clear c1
     try clear p2
     try clear c4
     try clear c7
     try clear c11
     try clear c11b0
     try clear c11b1
     try clear p2
     obtain ⟨x5_2,x6_2,x8_2,rfl,HA,HK2,HO_5,HO_6,HB⟩:=hrel
     cases gk with
     | zero=>exact absurd HA.out (by intro h_;cases h_)
     | succ k2 =>
      have H:=HA.out
      clear HA
      simp only [l_12_HtreeSame.l0] at H
      by_cases c12:x8_2 < x7_6
      ·rw [if_pos c12] at H
       have c12b0:decide (x8_2 < x7_6)=true:=decide_eq_true c12
       clear c12
       by_cases c13:(IntKind.u64.wrap (x7_6))=0
       ·rw [if_pos c13] at H
        exact absurd H (by simp)
       ·rw [if_neg c13] at H
        have c13b0:((IntKind.u64.wrap (x7_6))==0)=false:=beq_eq_false_iff_ne.mpr c13
        have c13b1:((IntKind.u64.wrap (x7_6)) != 0)=true:=bne_iff_ne.mpr c13
        by_cases c14:0≤x8_2
        ·rw [if_pos c14] at H
         have c14b0:decide (0≤x8_2)=true:=decide_eq_true c14
         clear c14
         by_cases c15:x8_2 < (l0.length:Int)
         ·rw [if_pos c15] at H
          have c15b0:decide (x8_2 < (l0.length:Int))=true:=decide_eq_true c15
          clear c15
          replace H:=Option.bind_eq_some_iff.mp H
          obtain ⟨⟨t265,t268⟩,A160,H⟩:=H
          replace H:(if t268=0 then (l_12_HtreeSame.j2 k2 l0 a1 t265 x6_2 x7_6 x8_2 (wrap64 (Int.tmod (IntKind.u64.wrap ((Int.tmod (IntKind.u64.wrap (a1)) (IntKind.u64.wrap (x7_6)))+(IntKind.u64.wrap (x8_2)))) (IntKind.u64.wrap (x7_6)))) t268) else (l_12_HtreeSame.j2 k2 l0 a1 x5_2 x6_2 x7_6 x8_2 (wrap64 (Int.tmod (IntKind.u64.wrap ((Int.tmod (IntKind.u64.wrap (a1)) (IntKind.u64.wrap (x7_6)))+(IntKind.u64.wrap (x8_2)))) (IntKind.u64.wrap (x7_6)))) t268))=some r:=H
          have A16:=am A160
          clear A160
          have HC17:=am H
          clear H
          try go_wp2
          have n0_:=am (Kd.N_drew HO_5.out)
          have n1_:=am (Kd.N_drew HO_6.out)
          have n2_:=am (below_drew1 HB.out)
          clear HO_5;clear HO_6;clear HB;have HO_5:=n0_;have HO_6:=n1_;have HB:=n2_;clear n0_ n1_ n2_
          have p263:0≤(x8_2:Int):=od
          have q263:x8_2 < (l0.length:Int):=od
          obtain ⟨ad263,e263,hx263_0⟩:=Kd.at_string HR0.out x8_2 p263 q263
          have hw263_0:=hx263_0
          cases e263
          replace hx263_0:=hB HB hx263_0
          replace p263:=eq_true p263;replace q263:=eq_true q263
          have p264:0≤(x8_2:Int):=od
          have q264:x8_2 < (l0.length:Int):=od
          obtain ⟨ad264,e264,hx264_0⟩:=Kd.at_string HR0.out x8_2 p264 q264
          have hw264_0:=hx264_0
          obtain rfl:ad263=ad264:=(by injection e264)
          replace hx264_0:=hB HB hx264_0
          replace p264:=eq_true p264;replace q264:=eq_true q264
          obtain ⟨Ao19,co19,eo19⟩:=Kd.N_slice HO_5.out
          (first|subst eo19|(injection eo19 with f1_ f2_ f3_;have f4_:=f1_.symm;have f5_:=f3_.symm;clear f1_ f2_ f3_;subst f4_;subst f5_))
          refine start_ (n:=17) (S:=fun w'=>w'.cell? (ad263.add (x8_2).toNat)=some (.string (rdOf ByteArray.empty l0 x8_2))∧w'.cell? (ad263.add (x8_2).toNat)=some (.string (rdOf ByteArray.empty l0 x8_2))) (ds:=[]) _ (by kernel_rfl) rfl rfl ⟨(hB HB hw263_0),(hB HB hw264_0)⟩ (fun hHeld=>?_);refine with_tabW l_12_HtreeSame.tab11 l_12_HtreeSame.bits11 (fun HT_ HW_=>?_)
          generalize wr.drew=w18 at HO_5 HO_6 HB hx263_0 hx264_0 hHeld ⊢
          refine pS 0 44 HT_ ?_;refine pS 1 45 HT_ ?_;refine pS 2 46 HT_ ?_;refine pS 3 47 HT_ ?_;refine pS 5 49 HT_ ?_;refine pS 6 50 HT_ ?_;refine pS 7 51 HT_ ?_;refine tS 4 48 HT_ HW_ hHeld ?_ (hy:=by rintro w' ⟨s0,s1⟩;go_simp;with_reducible rfl);refine tS 8 52 HT_ HW_ hHeld ?_ (hy:=by rintro w' ⟨s0,s1⟩;go_simp;with_reducible rfl);refine pS 9 53 HT_ ?_;refine pS 10 54 HT_ ?_
          refine oS 11 (some 55) HT_ (fun K hK=>?_)
          refine gS Try.func13 #[.slice Ao19 x5_2.length co19,.agg #[.string (rdOf ByteArray.empty l0 x8_2),.int .i64 ((rdOf ByteArray.empty l0 x8_2).size:Int)]] ?_
          with_reducible refine (htree_Add.calls _ _ x5_2 (rdOf ByteArray.empty l0 x8_2) ((rdOf ByteArray.empty l0 x8_2).size:Int) t265 t268 _ ?side1 ?side2 A16.out).mono ?_
          (case side1=>exact cc (Kd.N_reads' HO_5.out).2.2)
          (case side2=>exact (Kd.N_reads' HO_5.out).2.1)
          rintro e w20 ⟨v266,rfl,ho0,hb⟩
          refine ⟨_,rfl,?_⟩
          have n0_:=am (Kd.N_elder' (by (with_reducible repeat (first|apply Kd.N_alloc|apply Kd.N_drewN|apply Kd.N_drew));exact HO_5.out) (by first|exact Kd.N_base ho0|exact Kd.S_base ho0) hb)
          have n1_:=am (Kd.N_elder' (by (with_reducible repeat (first|apply Kd.N_alloc|apply Kd.N_drewN|apply Kd.N_drew));exact HO_6.out) (by first|exact Kd.N_base ho0|exact Kd.S_base ho0) hb)
          have n2_:=am (Kd.N_lower (Kd.N_mono (ok':=fun k_=>some k_≠(.slice Ao19 x5_2.length co19:Value).ownBlock∧some k_≠(u6:Value).ownBlock) (Kd.S_N (Kd.S_bound ho0)) (fun k_ hk_=>⟨(Kd.fresh' (Kd.N_lt (by (with_reducible repeat (first|apply Kd.N_alloc|apply Kd.N_drewN|apply Kd.N_drew));exact HO_5.out)) k_ hk_.2.1),(Kd.fresh' (Kd.N_lt (by (with_reducible repeat (first|apply Kd.N_alloc|apply Kd.N_drewN|apply Kd.N_drew));exact HO_6.out)) k_ hk_.2.1)⟩)) (bz HB))
          have n3_:=bst HB hb
          clear HO_5;clear HO_6;clear HB;have HO_5:=n0_;have HO_6:=n1_;have HO267:=n2_;have HB:=n3_;clear n0_ n1_ n2_ n3_
          (try clear hb)
          (try clear hb2)
          (try clear hk)
          (try clear hi)
          (try clear ho0)
          refine hK.out _ _ ⟨(hB HB hw263_0),(hB HB hw264_0)⟩ (fun hHeld=>?_)
          clear hK K;refine norm_ (a':=?_) ?_ ?_;rotate_left
          ·show Act.put _ (some 55) _=_
           simp only [Act.put,sIb,sC0,sCs,i64_w,i32_w];rfl
          refine pS 12 43 HT_ ?_;refine pS 13 56 HT_ ?_;refine pS 14 57 HT_ ?_;refine pS 15 10 HT_ ?_;refine pS 16 11 HT_ ?_
          refine done_ (done_of HT_.out (by kernel_rfl)) ?_
          go_upto_if 59 with (fail)
          go_cut [5] (fun v5 wc=>∃ (kq:Nat) (x5_16:List (List Int)),Aside0 (l_12_HtreeSame.j2 kq l0 a1 x5_16 x6_2 x7_6 x8_2 (wrap64 (Int.tmod (IntKind.u64.wrap ((Int.tmod (IntKind.u64.wrap (a1)) (IntKind.u64.wrap (x7_6)))+(IntKind.u64.wrap (x8_2)))) (IntKind.u64.wrap (x7_6)))) t268=some r)∧Aside0 (kq≤k2)∧Aside0 (Kd.N (Kd.slice 5 (Kd.int .u8)) 66 wc w.heap.size (fun k_=>some k_≠(u6:Value).ownBlock) v5 x5_16)∧Aside0 (Kd.N (Kd.slice 5 (Kd.int .u8)) 66 wc w.heap.size (fun k_=>some k_≠(v5:Value).ownBlock) u6 x6_2)∧Aside0 (Below w.heap.size w wc))
          case first =>
           have H:=HC17.out
           clear HC17
           by_cases c21:t268=0
           ·rw [if_pos c21] at H
            have c21b0:(t268==0)=true:=beq_iff_eq.mpr c21
            have c21b1:(t268 != 0)=false:=bne_eq_false_iff_eq.mpr c21
            clear c21
            (first|rw [c21b0]|(simp only [i64_w,i32_w];rw [c21b0])|skip)
            have H':=am H
            clear H;go_wp2
            go_meet
            case rel=>exact ⟨_,(t265),H',⟨by have:=HJ6.out;have:=HK2.out;first|omega|exact Nat.le_refl _⟩,⟨by (with_reducible repeat (first|apply Kd.N_alloc|apply Kd.N_drewN|apply Kd.N_drew));exact Kd.N_mono HO267.out (fun _ hk=>hk.2)⟩,⟨by (with_reducible repeat (first|apply Kd.N_alloc|apply Kd.N_drewN|apply Kd.N_drew));exact Kd.N_mono HO_6.out (fun _ hk=>hk.2)⟩,⟨bb HB⟩⟩
           ·rw [if_neg c21] at H
            have c21b0:(t268==0)=false:=beq_eq_false_iff_ne.mpr c21
            have c21b1:(t268 != 0)=true:=bne_iff_ne.mpr c21
            (first|rw [c21b0]|(simp only [i64_w,i32_w];rw [c21b0])|skip)
            have H':=am H
            clear H;go_wp2
            go_meet
            case rel=>exact ⟨_,(x5_2),H',⟨by have:=HJ6.out;have:=HK2.out;first|omega|exact Nat.le_refl _⟩,⟨by (with_reducible repeat (first|apply Kd.N_alloc|apply Kd.N_drewN|apply Kd.N_drew));exact Kd.N_mono HO_5.out (fun _ hk=>hk.1)⟩,⟨by (with_reducible repeat (first|apply Kd.N_alloc|apply Kd.N_drewN|apply Kd.N_drew));exact Kd.N_mono HO_6.out (fun _ hk=>hk.1)⟩,⟨bb HB⟩⟩
          case rest =>
           clear HC17
           try clear c1
           try clear c2
           try clear p2
           try clear q2
           try clear hx2
           try clear c4
           try clear p6
           try clear c7
           try clear c11
           try clear c11b0
           try clear c11b1
           try clear c12
           try clear c12b0
           try clear c13
           try clear c13b0
           try clear c13b1
           try clear c14
           try clear c14b0
           try clear c15
           try clear c15b0
           try clear c21
           try clear c21b0
           try clear c21b1
           try clear hx263_0
           try clear hx264_0
           try clear p2
           try clear p263
           try clear p264
           try clear q263
           try clear q264
           obtain ⟨kq,x5_16,HA,HJ16,HO_5,HO_6,HB⟩:=hcut
           cases kq with
           | zero=>exact absurd HA.out (by intro h_;cases h_)
           | succ kj16 =>
            have H:=HA.out
            clear HA
            simp only [l_12_HtreeSame.j2] at H
            obtain ⟨ji22,hji22⟩:∃ j_:Int,(wrap64 (Int.tmod (IntKind.u64.wrap ((Int.tmod (IntKind.u64.wrap (a1)) (IntKind.u64.wrap (x7_6)))+(IntKind.u64.wrap (x8_2)))) (IntKind.u64.wrap (x7_6))))=j_:=⟨_,rfl⟩
            replace H:(if 0≤(ji22) then (if (ji22) < (l0.length:Int) then ((htree_Add.f x6_2 (rdOf ByteArray.empty l0 (ji22)) ((rdOf ByteArray.empty l0 (ji22)).size:Int)).bind fun bt271=>(if bt271.2=0 then (if t268=9 then (some true) else (if bt271.2=9 then (some true) else (l_12_HtreeSame.l0 kj16 l0 a1 x5_16 bt271.1 x7_6 (wrap64 (x8_2+1))))) else (if t268=9 then (some true) else (if bt271.2=9 then (some true) else (l_12_HtreeSame.l0 kj16 l0 a1 x5_16 x6_2 x7_6 (wrap64 (x8_2+1))))))) else (none)) else (none))=some r:=by first|(rw [hji22] at H;exact H)|(simp only [hji22] at H ⊢;exact H)
            have hji22w:(IntKind.i64.wrap (Int.tmod (IntKind.u64.wrap ((Int.tmod (IntKind.u64.wrap (a1)) (IntKind.u64.wrap (x7_6)))+(IntKind.u64.wrap (x8_2)))) (IntKind.u64.wrap (x7_6))))=ji22:=(i64_w _).trans hji22
            (try rw [hji22] at c12b0)
            (try rw [hji22] at c13b0)
            (try rw [hji22] at c13b1)
            (try rw [hji22] at c14b0)
            (try rw [hji22] at c15b0)
            by_cases c23:0≤(ji22)
            ·rw [if_pos c23] at H
             have c23b0:decide (0≤(ji22))=true:=decide_eq_true c23
             clear c23
             by_cases c24:(ji22) < (l0.length:Int)
             ·rw [if_pos c24] at H
              have c24b0:decide ((ji22) < (l0.length:Int))=true:=decide_eq_true c24
              clear c24
              replace H:=Option.bind_eq_some_iff.mp H
              obtain ⟨⟨t271,t274⟩,A250,H⟩:=H
              replace H:(if t274=0 then (if t268=9 then (some true) else (if t274=9 then (some true) else (l_12_HtreeSame.l0 kj16 l0 a1 x5_16 t271 x7_6 (wrap64 (x8_2+1))))) else (if t268=9 then (some true) else (if t274=9 then (some true) else (l_12_HtreeSame.l0 kj16 l0 a1 x5_16 x6_2 x7_6 (wrap64 (x8_2+1))))))=some r:=H
              have A25:=am A250
              clear A250
              by_cases c26:t274=0
              ·rw [if_pos c26] at H
               have c26b0:(t274==0)=true:=beq_iff_eq.mpr c26
               have c26b1:(t274 != 0)=false:=bne_eq_false_iff_eq.mpr c26
               clear c26
               by_cases c27:t268=9
               ·rw [if_pos c27] at H
                have c27b0:(t268==9)=true:=beq_iff_eq.mpr c27
                have c27b1:(t268 != 9)=false:=bne_eq_false_iff_eq.mpr c27
                clear c27;obtain rfl:=Option.some.inj H
                try go_wp2
                have n0_:=am (Kd.N_drew HO_5.out)
                have n1_:=am (Kd.N_drew HO_6.out)
                have n2_:=am (below_drew1 HB.out)
                clear HO_5;clear HO_6;clear HB;have HO_5:=n0_;have HO_6:=n1_;have HB:=n2_;clear n0_ n1_ n2_
                have p269:0≤((ji22):Int):=od
                have q269:(ji22) < (l0.length:Int):=od
                obtain ⟨ad269,e269,hx269_0⟩:=Kd.at_string HR0.out (ji22) p269 q269
                have hw269_0:=hx269_0
                obtain rfl:ad263=ad269:=(by injection e269)
                replace hx269_0:=hB HB hx269_0
                replace p269:=eq_true p269;replace q269:=eq_true q269
                have p270:0≤((ji22):Int):=od
                have q270:(ji22) < (l0.length:Int):=od
                obtain ⟨ad270,e270,hx270_0⟩:=Kd.at_string HR0.out (ji22) p270 q270
                have hw270_0:=hx270_0
                obtain rfl:ad263=ad270:=(by injection e270)
                replace hx270_0:=hB HB hx270_0
                replace p270:=eq_true p270;replace q270:=eq_true q270
                obtain ⟨Ao29,co29,eo29⟩:=Kd.N_slice HO_6.out
                (first|subst eo29|(injection eo29 with f1_ f2_ f3_;have f4_:=f1_.symm;have f5_:=f3_.symm;clear f1_ f2_ f3_;subst f4_;subst f5_))
                refine start_ (n:=17) (S:=fun w'=>w'.cell? (ad263.add ((ji22)).toNat)=some (.string (rdOf ByteArray.empty l0 (ji22)))∧w'.cell? (ad263.add ((ji22)).toNat)=some (.string (rdOf ByteArray.empty l0 (ji22)))) (ds:=[]) _ (by kernel_rfl) rfl rfl ⟨(hB HB hw269_0),(hB HB hw270_0)⟩ (fun hHeld=>?_);refine with_tabW l_12_HtreeSame.tab14 l_12_HtreeSame.bits14 (fun HT_ HW_=>?_)
                generalize wc.drew=w28 at HO_5 HO_6 HB hx269_0 hx270_0 hHeld ⊢
                refine pS 0 62 HT_ ?_;refine pS 1 63 HT_ ?_;refine pS 2 64 HT_ ?_;refine pS 3 65 HT_ ?_;refine pS 5 67 HT_ ?_;refine pS 6 68 HT_ ?_;refine pS 7 69 HT_ ?_;refine tS 4 66 HT_ HW_ hHeld ?_ (hy:=by rintro w' ⟨s0,s1⟩;go_simp;with_reducible rfl);refine tS 8 70 HT_ HW_ hHeld ?_ (hy:=by rintro w' ⟨s0,s1⟩;go_simp;with_reducible rfl);refine pS 9 71 HT_ ?_;refine pS 10 72 HT_ ?_
                refine oS 11 (some 73) HT_ (fun K hK=>?_)
                refine goes_ Try.func13 (by kernel_rfl) rfl #[.slice Ao29 x6_2.length co29,.agg #[.string (rdOf ByteArray.empty l0 (ji22)),.int .i64 ((rdOf ByteArray.empty l0 (ji22)).size:Int)]] (by rfl) rfl rfl (by (try simp only [List.map_toArray,List.map_cons,List.map_nil]);first|done|(simp only [hji22];rfl)|rfl|(simp only [List.length_drop,List.length_take];rfl)) ?_
                with_reducible refine (htree_Add.calls _ _ x6_2 (rdOf ByteArray.empty l0 (ji22)) ((rdOf ByteArray.empty l0 (ji22)).size:Int) t271 t274 _ ?side1 ?side2 A25.out).mono ?_
                (case side1=>exact cc (Kd.N_reads' HO_6.out).2.2)
                (case side2=>exact (Kd.N_reads' HO_6.out).2.1)
                rintro e w30 ⟨v272,rfl,ho0,hb⟩
                refine ⟨_,rfl,?_⟩
                have n0_:=am (Kd.N_elder' (by (with_reducible repeat (first|apply Kd.N_alloc|apply Kd.N_drewN|apply Kd.N_drew));exact HO_5.out) (by first|exact Kd.N_base ho0|exact Kd.S_base ho0) hb)
                have n1_:=am (Kd.N_elder' (by (with_reducible repeat (first|apply Kd.N_alloc|apply Kd.N_drewN|apply Kd.N_drew));exact HO_6.out) (by first|exact Kd.N_base ho0|exact Kd.S_base ho0) hb)
                have n2_:=am (Kd.N_lower (Kd.N_mono (ok':=fun k_=>some k_≠(u5:Value).ownBlock∧some k_≠(.slice Ao29 x6_2.length co29:Value).ownBlock) (Kd.S_N (Kd.S_bound ho0)) (fun k_ hk_=>⟨(Kd.fresh' (Kd.N_lt (by (with_reducible repeat (first|apply Kd.N_alloc|apply Kd.N_drewN|apply Kd.N_drew));exact HO_5.out)) k_ hk_.2.1),(Kd.fresh' (Kd.N_lt (by (with_reducible repeat (first|apply Kd.N_alloc|apply Kd.N_drewN|apply Kd.N_drew));exact HO_6.out)) k_ hk_.2.1)⟩)) (bz HB))
                have n3_:=bst HB hb
                clear HO_5;clear HO_6;clear HB;have HO_5:=n0_;have HO_6:=n1_;have HO273:=n2_;have HB:=n3_;clear n0_ n1_ n2_ n3_
                (try clear hb)
                (try clear hb2)
                (try clear hk)
                (try clear hi)
                (try clear ho0)
                refine hK.out _ _ ⟨(hB HB hw269_0),(hB HB hw270_0)⟩ (fun hHeld=>?_)
                clear hK K;refine norm_ (a':=?_) ?_ ?_;rotate_left
                ·show Act.put _ (some 73) _=_
                 simp only [Act.put,sIb,sC0,sCs,i64_w,i32_w];rfl
                refine pS 12 61 HT_ ?_;refine pS 13 74 HT_ ?_;refine pS 14 75 HT_ ?_;refine pS 15 12 HT_ ?_;refine pS 16 13 HT_ ?_
                refine done_ (done_of HT_.out (by kernel_rfl)) ?_
                try go_wp2
                go_ret
                exact ⟨by first|rfl|(simp [errW_none,errW_some]<;>rfl)|(simp only [← hji22];first|rfl|(simp [errW_none,errW_some]<;>rfl))|(simp [*,errW_none,errW_some]<;>rfl),bb HB⟩
               ·rw [if_neg c27] at H
                have c27b0:(t268==9)=false:=beq_eq_false_iff_ne.mpr c27
                have c27b1:(t268 != 9)=true:=bne_iff_ne.mpr c27
                by_cases c31:t274=9
                ·rw [if_pos c31] at H
                 have c31b0:(t274==9)=true:=beq_iff_eq.mpr c31
                 have c31b1:(t274 != 9)=false:=bne_eq_false_iff_eq.mpr c31
                 clear c31;obtain rfl:=Option.some.inj H
                 try go_wp2
                 have n0_:=am (Kd.N_drew HO_5.out)
                 have n1_:=am (Kd.N_drew HO_6.out)
                 have n2_:=am (below_drew1 HB.out)
                 clear HO_5;clear HO_6;clear HB;have HO_5:=n0_;have HO_6:=n1_;have HB:=n2_;clear n0_ n1_ n2_
                 have p269:0≤((ji22):Int):=od
                 have q269:(ji22) < (l0.length:Int):=od
                 obtain ⟨ad269,e269,hx269_0⟩:=Kd.at_string HR0.out (ji22) p269 q269
                 have hw269_0:=hx269_0
                 obtain rfl:ad263=ad269:=(by injection e269)
                 replace hx269_0:=hB HB hx269_0
                 replace p269:=eq_true p269;replace q269:=eq_true q269
                 have p270:0≤((ji22):Int):=od
                 have q270:(ji22) < (l0.length:Int):=od
                 obtain ⟨ad270,e270,hx270_0⟩:=Kd.at_string HR0.out (ji22) p270 q270
                 have hw270_0:=hx270_0
                 obtain rfl:ad263=ad270:=(by injection e270)
                 replace hx270_0:=hB HB hx270_0
                 replace p270:=eq_true p270;replace q270:=eq_true q270
                 obtain ⟨Ao33,co33,eo33⟩:=Kd.N_slice HO_6.out
                 (first|subst eo33|(injection eo33 with f1_ f2_ f3_;have f4_:=f1_.symm;have f5_:=f3_.symm;clear f1_ f2_ f3_;subst f4_;subst f5_))
                 refine start_ (n:=17) (S:=fun w'=>w'.cell? (ad263.add ((ji22)).toNat)=some (.string (rdOf ByteArray.empty l0 (ji22)))∧w'.cell? (ad263.add ((ji22)).toNat)=some (.string (rdOf ByteArray.empty l0 (ji22)))) (ds:=[]) _ (by kernel_rfl) rfl rfl ⟨(hB HB hw269_0),(hB HB hw270_0)⟩ (fun hHeld=>?_);refine with_tabW l_12_HtreeSame.tab14 l_12_HtreeSame.bits14 (fun HT_ HW_=>?_)
                 generalize wc.drew=w32 at HO_5 HO_6 HB hx269_0 hx270_0 hHeld ⊢
                 refine pS 0 62 HT_ ?_;refine pS 1 63 HT_ ?_;refine pS 2 64 HT_ ?_;refine pS 3 65 HT_ ?_;refine pS 5 67 HT_ ?_;refine pS 6 68 HT_ ?_;refine pS 7 69 HT_ ?_;refine tS 4 66 HT_ HW_ hHeld ?_ (hy:=by rintro w' ⟨s0,s1⟩;go_simp;with_reducible rfl);refine tS 8 70 HT_ HW_ hHeld ?_ (hy:=by rintro w' ⟨s0,s1⟩;go_simp;with_reducible rfl);refine pS 9 71 HT_ ?_;refine pS 10 72 HT_ ?_
                 refine oS 11 (some 73) HT_ (fun K hK=>?_)
                 refine goes_ Try.func13 (by kernel_rfl) rfl #[.slice Ao33 x6_2.length co33,.agg #[.string (rdOf ByteArray.empty l0 (ji22)),.int .i64 ((rdOf ByteArray.empty l0 (ji22)).size:Int)]] (by rfl) rfl rfl (by (try simp only [List.map_toArray,List.map_cons,List.map_nil]);first|done|(simp only [hji22];rfl)|rfl|(simp only [List.length_drop,List.length_take];rfl)) ?_
                 with_reducible refine (htree_Add.calls _ _ x6_2 (rdOf ByteArray.empty l0 (ji22)) ((rdOf ByteArray.empty l0 (ji22)).size:Int) t271 t274 _ ?side1 ?side2 A25.out).mono ?_
                 (case side1=>exact cc (Kd.N_reads' HO_6.out).2.2)
                 (case side2=>exact (Kd.N_reads' HO_6.out).2.1)
                 rintro e w34 ⟨v272,rfl,ho0,hb⟩
                 refine ⟨_,rfl,?_⟩
                 have n0_:=am (Kd.N_elder' (by (with_reducible repeat (first|apply Kd.N_alloc|apply Kd.N_drewN|apply Kd.N_drew));exact HO_5.out) (by first|exact Kd.N_base ho0|exact Kd.S_base ho0) hb)
                 have n1_:=am (Kd.N_elder' (by (with_reducible repeat (first|apply Kd.N_alloc|apply Kd.N_drewN|apply Kd.N_drew));exact HO_6.out) (by first|exact Kd.N_base ho0|exact Kd.S_base ho0) hb)
                 have n2_:=am (Kd.N_lower (Kd.N_mono (ok':=fun k_=>some k_≠(u5:Value).ownBlock∧some k_≠(.slice Ao33 x6_2.length co33:Value).ownBlock) (Kd.S_N (Kd.S_bound ho0)) (fun k_ hk_=>⟨(Kd.fresh' (Kd.N_lt (by (with_reducible repeat (first|apply Kd.N_alloc|apply Kd.N_drewN|apply Kd.N_drew));exact HO_5.out)) k_ hk_.2.1),(Kd.fresh' (Kd.N_lt (by (with_reducible repeat (first|apply Kd.N_alloc|apply Kd.N_drewN|apply Kd.N_drew));exact HO_6.out)) k_ hk_.2.1)⟩)) (bz HB))
                 have n3_:=bst HB hb
                 clear HO_5;clear HO_6;clear HB;have HO_5:=n0_;have HO_6:=n1_;have HO273:=n2_;have HB:=n3_;clear n0_ n1_ n2_ n3_
                 (try clear hb)
                 (try clear hb2)
                 (try clear hk)
                 (try clear hi)
                 (try clear ho0)
                 refine hK.out _ _ ⟨(hB HB hw269_0),(hB HB hw270_0)⟩ (fun hHeld=>?_)
                 clear hK K;refine norm_ (a':=?_) ?_ ?_;rotate_left
                 ·show Act.put _ (some 73) _=_
                  simp only [Act.put,sIb,sC0,sCs,i64_w,i32_w];rfl
                 refine pS 12 61 HT_ ?_;refine pS 13 74 HT_ ?_;refine pS 14 75 HT_ ?_;refine pS 15 12 HT_ ?_;refine pS 16 13 HT_ ?_
                 refine done_ (done_of HT_.out (by kernel_rfl)) ?_
                 try go_wp2
                 go_ret
                 exact ⟨by first|rfl|(simp [errW_none,errW_some]<;>rfl)|(simp only [← hji22];first|rfl|(simp [errW_none,errW_some]<;>rfl))|(simp [*,errW_none,errW_some]<;>rfl),bb HB⟩
                ·rw [if_neg c31] at H
                 have c31b0:(t274==9)=false:=beq_eq_false_iff_ne.mpr c31
                 have c31b1:(t274 != 9)=true:=bne_iff_ne.mpr c31
                 have H':=am H
                 clear H
                 try go_wp2
                 have n0_:=am (Kd.N_drew HO_5.out)
                 have n1_:=am (Kd.N_drew HO_6.out)
                 have n2_:=am (below_drew1 HB.out)
                 clear HO_5;clear HO_6;clear HB;have HO_5:=n0_;have HO_6:=n1_;have HB:=n2_;clear n0_ n1_ n2_
                 have p269:0≤((ji22):Int):=od
                 have q269:(ji22) < (l0.length:Int):=od
                 obtain ⟨ad269,e269,hx269_0⟩:=Kd.at_string HR0.out (ji22) p269 q269
                 have hw269_0:=hx269_0
                 obtain rfl:ad263=ad269:=(by injection e269)
                 replace hx269_0:=hB HB hx269_0
                 replace p269:=eq_true p269;replace q269:=eq_true q269
                 have p270:0≤((ji22):Int):=od
                 have q270:(ji22) < (l0.length:Int):=od
                 obtain ⟨ad270,e270,hx270_0⟩:=Kd.at_string HR0.out (ji22) p270 q270
                 have hw270_0:=hx270_0
                 obtain rfl:ad263=ad270:=(by injection e270)
                 replace hx270_0:=hB HB hx270_0
                 replace p270:=eq_true p270;replace q270:=eq_true q270
                 obtain ⟨Ao36,co36,eo36⟩:=Kd.N_slice HO_6.out
                 (first|subst eo36|(injection eo36 with f1_ f2_ f3_;have f4_:=f1_.symm;have f5_:=f3_.symm;clear f1_ f2_ f3_;subst f4_;subst f5_))
                 refine start_ (n:=17) (S:=fun w'=>w'.cell? (ad263.add ((ji22)).toNat)=some (.string (rdOf ByteArray.empty l0 (ji22)))∧w'.cell? (ad263.add ((ji22)).toNat)=some (.string (rdOf ByteArray.empty l0 (ji22)))) (ds:=[]) _ (by kernel_rfl) rfl rfl ⟨(hB HB hw269_0),(hB HB hw270_0)⟩ (fun hHeld=>?_);refine with_tabW l_12_HtreeSame.tab14 l_12_HtreeSame.bits14 (fun HT_ HW_=>?_)
                 generalize wc.drew=w35 at HO_5 HO_6 HB hx269_0 hx270_0 hHeld ⊢
                 refine pS 0 62 HT_ ?_;refine pS 1 63 HT_ ?_;refine pS 2 64 HT_ ?_;refine pS 3 65 HT_ ?_;refine pS 5 67 HT_ ?_;refine pS 6 68 HT_ ?_;refine pS 7 69 HT_ ?_;refine tS 4 66 HT_ HW_ hHeld ?_ (hy:=by rintro w' ⟨s0,s1⟩;go_simp;with_reducible rfl);refine tS 8 70 HT_ HW_ hHeld ?_ (hy:=by rintro w' ⟨s0,s1⟩;go_simp;with_reducible rfl);refine pS 9 71 HT_ ?_;refine pS 10 72 HT_ ?_
                 refine oS 11 (some 73) HT_ (fun K hK=>?_)
                 refine goes_ Try.func13 (by kernel_rfl) rfl #[.slice Ao36 x6_2.length co36,.agg #[.string (rdOf ByteArray.empty l0 (ji22)),.int .i64 ((rdOf ByteArray.empty l0 (ji22)).size:Int)]] (by rfl) rfl rfl (by (try simp only [List.map_toArray,List.map_cons,List.map_nil]);first|done|(simp only [hji22];rfl)|rfl|(simp only [List.length_drop,List.length_take];rfl)) ?_
                 with_reducible refine (htree_Add.calls _ _ x6_2 (rdOf ByteArray.empty l0 (ji22)) ((rdOf ByteArray.empty l0 (ji22)).size:Int) t271 t274 _ ?side1 ?side2 A25.out).mono ?_
                 (case side1=>exact cc (Kd.N_reads' HO_6.out).2.2)
                 (case side2=>exact (Kd.N_reads' HO_6.out).2.1)
                 rintro e w37 ⟨v272,rfl,ho0,hb⟩
                 refine ⟨_,rfl,?_⟩
                 have n0_:=am (Kd.N_elder' (by (with_reducible repeat (first|apply Kd.N_alloc|apply Kd.N_drewN|apply Kd.N_drew));exact HO_5.out) (by first|exact Kd.N_base ho0|exact Kd.S_base ho0) hb)
                 have n1_:=am (Kd.N_elder' (by (with_reducible repeat (first|apply Kd.N_alloc|apply Kd.N_drewN|apply Kd.N_drew));exact HO_6.out) (by first|exact Kd.N_base ho0|exact Kd.S_base ho0) hb)
                 have n2_:=am (Kd.N_lower (Kd.N_mono (ok':=fun k_=>some k_≠(u5:Value).ownBlock∧some k_≠(.slice Ao36 x6_2.length co36:Value).ownBlock) (Kd.S_N (Kd.S_bound ho0)) (fun k_ hk_=>⟨(Kd.fresh' (Kd.N_lt (by (with_reducible repeat (first|apply Kd.N_alloc|apply Kd.N_drewN|apply Kd.N_drew));exact HO_5.out)) k_ hk_.2.1),(Kd.fresh' (Kd.N_lt (by (with_reducible repeat (first|apply Kd.N_alloc|apply Kd.N_drewN|apply Kd.N_drew));exact HO_6.out)) k_ hk_.2.1)⟩)) (bz HB))
                 have n3_:=bst HB hb
                 clear HO_5;clear HO_6;clear HB;have HO_5:=n0_;have HO_6:=n1_;have HO273:=n2_;have HB:=n3_;clear n0_ n1_ n2_ n3_
                 (try clear hb)
                 (try clear hb2)
                 (try clear hk)
                 (try clear hi)
                 (try clear ho0)
                 refine hK.out _ _ ⟨(hB HB hw269_0),(hB HB hw270_0)⟩ (fun hHeld=>?_)
                 clear hK K;refine norm_ (a':=?_) ?_ ?_;rotate_left
                 ·show Act.put _ (some 73) _=_
                  simp only [Act.put,sIb,sC0,sCs,i64_w,i32_w];rfl
                 refine pS 12 61 HT_ ?_;refine pS 13 74 HT_ ?_;refine pS 14 75 HT_ ?_;refine pS 15 12 HT_ ?_;refine pS 16 13 HT_ ?_
                 refine done_ (done_of HT_.out (by kernel_rfl)) ?_
                 try go_wp2
                 go_roundg kj16
                 case measure=>have:=HJ6.out;have:=HK2.out;have:=HJ16.out;omega
                 case rel=>exact ⟨(x5_16),(t271),(wrap64 (x8_2+1)),(by first|rfl|(simp;done)|(simp [*];done)),H',⟨by have:=HJ6.out;have:=HK2.out;have:=HJ16.out;omega⟩,⟨by (with_reducible repeat (first|apply Kd.N_alloc|apply Kd.N_drewN|apply Kd.N_drew));exact Kd.N_mono HO_5.out (fun _ hk=>hk.2)⟩,⟨by (with_reducible repeat (first|apply Kd.N_alloc|apply Kd.N_drewN|apply Kd.N_drew));exact Kd.N_mono HO273.out (fun _ hk=>hk.1)⟩,⟨bb HB⟩⟩
              ·rw [if_neg c26] at H
               have c26b0:(t274==0)=false:=beq_eq_false_iff_ne.mpr c26
               have c26b1:(t274 != 0)=true:=bne_iff_ne.mpr c26
               by_cases c38:t268=9
               ·rw [if_pos c38] at H
                have c38b0:(t268==9)=true:=beq_iff_eq.mpr c38
                have c38b1:(t268 != 9)=false:=bne_eq_false_iff_eq.mpr c38
                clear c38;obtain rfl:=Option.some.inj H
                try go_wp2
                have n0_:=am (Kd.N_drew HO_5.out)
                have n1_:=am (Kd.N_drew HO_6.out)
                have n2_:=am (below_drew1 HB.out)
                clear HO_5;clear HO_6;clear HB;have HO_5:=n0_;have HO_6:=n1_;have HB:=n2_;clear n0_ n1_ n2_
                have p269:0≤((ji22):Int):=od
                have q269:(ji22) < (l0.length:Int):=od
                obtain ⟨ad269,e269,hx269_0⟩:=Kd.at_string HR0.out (ji22) p269 q269
                have hw269_0:=hx269_0
                obtain rfl:ad263=ad269:=(by injection e269)
                replace hx269_0:=hB HB hx269_0
                replace p269:=eq_true p269;replace q269:=eq_true q269
                have p270:0≤((ji22):Int):=od
                have q270:(ji22) < (l0.length:Int):=od
                obtain ⟨ad270,e270,hx270_0⟩:=Kd.at_string HR0.out (ji22) p270 q270
                have hw270_0:=hx270_0
                obtain rfl:ad263=ad270:=(by injection e270)
                replace hx270_0:=hB HB hx270_0
                replace p270:=eq_true p270;replace q270:=eq_true q270
                obtain ⟨Ao40,co40,eo40⟩:=Kd.N_slice HO_6.out
                (first|subst eo40|(injection eo40 with f1_ f2_ f3_;have f4_:=f1_.symm;have f5_:=f3_.symm;clear f1_ f2_ f3_;subst f4_;subst f5_))
                refine start_ (n:=17) (S:=fun w'=>w'.cell? (ad263.add ((ji22)).toNat)=some (.string (rdOf ByteArray.empty l0 (ji22)))∧w'.cell? (ad263.add ((ji22)).toNat)=some (.string (rdOf ByteArray.empty l0 (ji22)))) (ds:=[]) _ (by kernel_rfl) rfl rfl ⟨(hB HB hw269_0),(hB HB hw270_0)⟩ (fun hHeld=>?_);refine with_tabW l_12_HtreeSame.tab14 l_12_HtreeSame.bits14 (fun HT_ HW_=>?_)
                generalize wc.drew=w39 at HO_5 HO_6 HB hx269_0 hx270_0 hHeld ⊢
                refine pS 0 62 HT_ ?_;refine pS 1 63 HT_ ?_;refine pS 2 64 HT_ ?_;refine pS 3 65 HT_ ?_;refine pS 5 67 HT_ ?_;refine pS 6 68 HT_ ?_;refine pS 7 69 HT_ ?_;refine tS 4 66 HT_ HW_ hHeld ?_ (hy:=by rintro w' ⟨s0,s1⟩;go_simp;with_reducible rfl);refine tS 8 70 HT_ HW_ hHeld ?_ (hy:=by rintro w' ⟨s0,s1⟩;go_simp;with_reducible rfl);refine pS 9 71 HT_ ?_;refine pS 10 72 HT_ ?_
                refine oS 11 (some 73) HT_ (fun K hK=>?_)
                refine goes_ Try.func13 (by kernel_rfl) rfl #[.slice Ao40 x6_2.length co40,.agg #[.string (rdOf ByteArray.empty l0 (ji22)),.int .i64 ((rdOf ByteArray.empty l0 (ji22)).size:Int)]] (by rfl) rfl rfl (by (try simp only [List.map_toArray,List.map_cons,List.map_nil]);first|done|(simp only [hji22];rfl)|rfl|(simp only [List.length_drop,List.length_take];rfl)) ?_
                with_reducible refine (htree_Add.calls _ _ x6_2 (rdOf ByteArray.empty l0 (ji22)) ((rdOf ByteArray.empty l0 (ji22)).size:Int) t271 t274 _ ?side1 ?side2 A25.out).mono ?_
                (case side1=>exact cc (Kd.N_reads' HO_6.out).2.2)
                (case side2=>exact (Kd.N_reads' HO_6.out).2.1)
                rintro e w41 ⟨v272,rfl,ho0,hb⟩
                refine ⟨_,rfl,?_⟩
                have n0_:=am (Kd.N_elder' (by (with_reducible repeat (first|apply Kd.N_alloc|apply Kd.N_drewN|apply Kd.N_drew));exact HO_5.out) (by first|exact Kd.N_base ho0|exact Kd.S_base ho0) hb)
                have n1_:=am (Kd.N_elder' (by (with_reducible repeat (first|apply Kd.N_alloc|apply Kd.N_drewN|apply Kd.N_drew));exact HO_6.out) (by first|exact Kd.N_base ho0|exact Kd.S_base ho0) hb)
                have n2_:=am (Kd.N_lower (Kd.N_mono (ok':=fun k_=>some k_≠(u5:Value).ownBlock∧some k_≠(.slice Ao40 x6_2.length co40:Value).ownBlock) (Kd.S_N (Kd.S_bound ho0)) (fun k_ hk_=>⟨(Kd.fresh' (Kd.N_lt (by (with_reducible repeat (first|apply Kd.N_alloc|apply Kd.N_drewN|apply Kd.N_drew));exact HO_5.out)) k_ hk_.2.1),(Kd.fresh' (Kd.N_lt (by (with_reducible repeat (first|apply Kd.N_alloc|apply Kd.N_drewN|apply Kd.N_drew));exact HO_6.out)) k_ hk_.2.1)⟩)) (bz HB))
                have n3_:=bst HB hb
                clear HO_5;clear HO_6;clear HB;have HO_5:=n0_;have HO_6:=n1_;have HO273:=n2_;have HB:=n3_;clear n0_ n1_ n2_ n3_
                (try clear hb)
                (try clear hb2)
                (try clear hk)
                (try clear hi)
                (try clear ho0)
                refine hK.out _ _ ⟨(hB HB hw269_0),(hB HB hw270_0)⟩ (fun hHeld=>?_)
                clear hK K;refine norm_ (a':=?_) ?_ ?_;rotate_left
                ·show Act.put _ (some 73) _=_
                 simp only [Act.put,sIb,sC0,sCs,i64_w,i32_w];rfl
                refine pS 12 61 HT_ ?_;refine pS 13 74 HT_ ?_;refine pS 14 75 HT_ ?_;refine pS 15 12 HT_ ?_;refine pS 16 13 HT_ ?_
                refine done_ (done_of HT_.out (by kernel_rfl)) ?_
                try go_wp2
                go_ret
                exact ⟨by first|rfl|(simp [errW_none,errW_some]<;>rfl)|(simp only [← hji22];first|rfl|(simp [errW_none,errW_some]<;>rfl))|(simp [*,errW_none,errW_some]<;>rfl),bb HB⟩
               ·rw [if_neg c38] at H
                have c38b0:(t268==9)=false:=beq_eq_false_iff_ne.mpr c38
                have c38b1:(t268 != 9)=true:=bne_iff_ne.mpr c38
                by_cases c42:t274=9
                ·rw [if_pos c42] at H
                 have c42b0:(t274==9)=true:=beq_iff_eq.mpr c42
                 have c42b1:(t274 != 9)=false:=bne_eq_false_iff_eq.mpr c42
                 clear c42;obtain rfl:=Option.some.inj H
                 try go_wp2
                 have n0_:=am (Kd.N_drew HO_5.out)
                 have n1_:=am (Kd.N_drew HO_6.out)
                 have n2_:=am (below_drew1 HB.out)
                 clear HO_5;clear HO_6;clear HB;have HO_5:=n0_;have HO_6:=n1_;have HB:=n2_;clear n0_ n1_ n2_
                 have p269:0≤((ji22):Int):=od
                 have q269:(ji22) < (l0.length:Int):=od
                 obtain ⟨ad269,e269,hx269_0⟩:=Kd.at_string HR0.out (ji22) p269 q269
                 have hw269_0:=hx269_0
                 obtain rfl:ad263=ad269:=(by injection e269)
                 replace hx269_0:=hB HB hx269_0
                 replace p269:=eq_true p269;replace q269:=eq_true q269
                 have p270:0≤((ji22):Int):=od
                 have q270:(ji22) < (l0.length:Int):=od
                 obtain ⟨ad270,e270,hx270_0⟩:=Kd.at_string HR0.out (ji22) p270 q270
                 have hw270_0:=hx270_0
                 obtain rfl:ad263=ad270:=(by injection e270)
                 replace hx270_0:=hB HB hx270_0
                 replace p270:=eq_true p270;replace q270:=eq_true q270
                 obtain ⟨Ao44,co44,eo44⟩:=Kd.N_slice HO_6.out
                 (first|subst eo44|(injection eo44 with f1_ f2_ f3_;have f4_:=f1_.symm;have f5_:=f3_.symm;clear f1_ f2_ f3_;subst f4_;subst f5_))
                 refine start_ (n:=17) (S:=fun w'=>w'.cell? (ad263.add ((ji22)).toNat)=some (.string (rdOf ByteArray.empty l0 (ji22)))∧w'.cell? (ad263.add ((ji22)).toNat)=some (.string (rdOf ByteArray.empty l0 (ji22)))) (ds:=[]) _ (by kernel_rfl) rfl rfl ⟨(hB HB hw269_0),(hB HB hw270_0)⟩ (fun hHeld=>?_);refine with_tabW l_12_HtreeSame.tab14 l_12_HtreeSame.bits14 (fun HT_ HW_=>?_)
                 generalize wc.drew=w43 at HO_5 HO_6 HB hx269_0 hx270_0 hHeld ⊢
                 refine pS 0 62 HT_ ?_;refine pS 1 63 HT_ ?_;refine pS 2 64 HT_ ?_;refine pS 3 65 HT_ ?_;refine pS 5 67 HT_ ?_;refine pS 6 68 HT_ ?_;refine pS 7 69 HT_ ?_;refine tS 4 66 HT_ HW_ hHeld ?_ (hy:=by rintro w' ⟨s0,s1⟩;go_simp;with_reducible rfl);refine tS 8 70 HT_ HW_ hHeld ?_ (hy:=by rintro w' ⟨s0,s1⟩;go_simp;with_reducible rfl);refine pS 9 71 HT_ ?_;refine pS 10 72 HT_ ?_
                 refine oS 11 (some 73) HT_ (fun K hK=>?_)
                 refine goes_ Try.func13 (by kernel_rfl) rfl #[.slice Ao44 x6_2.length co44,.agg #[.string (rdOf ByteArray.empty l0 (ji22)),.int .i64 ((rdOf ByteArray.empty l0 (ji22)).size:Int)]] (by rfl) rfl rfl (by (try simp only [List.map_toArray,List.map_cons,List.map_nil]);first|done|(simp only [hji22];rfl)|rfl|(simp only [List.length_drop,List.length_take];rfl)) ?_
                 with_reducible refine (htree_Add.calls _ _ x6_2 (rdOf ByteArray.empty l0 (ji22)) ((rdOf ByteArray.empty l0 (ji22)).size:Int) t271 t274 _ ?side1 ?side2 A25.out).mono ?_
                 (case side1=>exact cc (Kd.N_reads' HO_6.out).2.2)
                 (case side2=>exact (Kd.N_reads' HO_6.out).2.1)
                 rintro e w45 ⟨v272,rfl,ho0,hb⟩
                 refine ⟨_,rfl,?_⟩
                 have n0_:=am (Kd.N_elder' (by (with_reducible repeat (first|apply Kd.N_alloc|apply Kd.N_drewN|apply Kd.N_drew));exact HO_5.out) (by first|exact Kd.N_base ho0|exact Kd.S_base ho0) hb)
                 have n1_:=am (Kd.N_elder' (by (with_reducible repeat (first|apply Kd.N_alloc|apply Kd.N_drewN|apply Kd.N_drew));exact HO_6.out) (by first|exact Kd.N_base ho0|exact Kd.S_base ho0) hb)
                 have n2_:=am (Kd.N_lower (Kd.N_mono (ok':=fun k_=>some k_≠(u5:Value).ownBlock∧some k_≠(.slice Ao44 x6_2.length co44:Value).ownBlock) (Kd.S_N (Kd.S_bound ho0)) (fun k_ hk_=>⟨(Kd.fresh' (Kd.N_lt (by (with_reducible repeat (first|apply Kd.N_alloc|apply Kd.N_drewN|apply Kd.N_drew));exact HO_5.out)) k_ hk_.2.1),(Kd.fresh' (Kd.N_lt (by (with_reducible repeat (first|apply Kd.N_alloc|apply Kd.N_drewN|apply Kd.N_drew));exact HO_6.out)) k_ hk_.2.1)⟩)) (bz HB))
                 have n3_:=bst HB hb
                 clear HO_5;clear HO_6;clear HB;have HO_5:=n0_;have HO_6:=n1_;have HO273:=n2_;have HB:=n3_;clear n0_ n1_ n2_ n3_
                 (try clear hb)
                 (try clear hb2)
                 (try clear hk)
                 (try clear hi)
                 (try clear ho0)
                 refine hK.out _ _ ⟨(hB HB hw269_0),(hB HB hw270_0)⟩ (fun hHeld=>?_)
                 clear hK K;refine norm_ (a':=?_) ?_ ?_;rotate_left
                 ·show Act.put _ (some 73) _=_
                  simp only [Act.put,sIb,sC0,sCs,i64_w,i32_w];rfl
                 refine pS 12 61 HT_ ?_;refine pS 13 74 HT_ ?_;refine pS 14 75 HT_ ?_;refine pS 15 12 HT_ ?_;refine pS 16 13 HT_ ?_
                 refine done_ (done_of HT_.out (by kernel_rfl)) ?_
                 try go_wp2
                 go_ret
                 exact ⟨by first|rfl|(simp [errW_none,errW_some]<;>rfl)|(simp only [← hji22];first|rfl|(simp [errW_none,errW_some]<;>rfl))|(simp [*,errW_none,errW_some]<;>rfl),bb HB⟩
                ·rw [if_neg c42] at H
                 have c42b0:(t274==9)=false:=beq_eq_false_iff_ne.mpr c42
                 have c42b1:(t274 != 9)=true:=bne_iff_ne.mpr c42
                 have H':=am H
                 clear H
                 try go_wp2
                 have n0_:=am (Kd.N_drew HO_5.out)
                 have n1_:=am (Kd.N_drew HO_6.out)
                 have n2_:=am (below_drew1 HB.out)
                 clear HO_5;clear HO_6;clear HB;have HO_5:=n0_;have HO_6:=n1_;have HB:=n2_;clear n0_ n1_ n2_
                 have p269:0≤((ji22):Int):=od
                 have q269:(ji22) < (l0.length:Int):=od
                 obtain ⟨ad269,e269,hx269_0⟩:=Kd.at_string HR0.out (ji22) p269 q269
                 have hw269_0:=hx269_0
                 obtain rfl:ad263=ad269:=(by injection e269)
                 replace hx269_0:=hB HB hx269_0
                 replace p269:=eq_true p269;replace q269:=eq_true q269
                 have p270:0≤((ji22):Int):=od
                 have q270:(ji22) < (l0.length:Int):=od
                 obtain ⟨ad270,e270,hx270_0⟩:=Kd.at_string HR0.out (ji22) p270 q270
                 have hw270_0:=hx270_0
                 obtain rfl:ad263=ad270:=(by injection e270)
                 replace hx270_0:=hB HB hx270_0
                 replace p270:=eq_true p270;replace q270:=eq_true q270
                 obtain ⟨Ao47,co47,eo47⟩:=Kd.N_slice HO_6.out
                 (first|subst eo47|(injection eo47 with f1_ f2_ f3_;have f4_:=f1_.symm;have f5_:=f3_.symm;clear f1_ f2_ f3_;subst f4_;subst f5_))
                 refine start_ (n:=17) (S:=fun w'=>w'.cell? (ad263.add ((ji22)).toNat)=some (.string (rdOf ByteArray.empty l0 (ji22)))∧w'.cell? (ad263.add ((ji22)).toNat)=some (.string (rdOf ByteArray.empty l0 (ji22)))) (ds:=[]) _ (by kernel_rfl) rfl rfl ⟨(hB HB hw269_0),(hB HB hw270_0)⟩ (fun hHeld=>?_);refine with_tabW l_12_HtreeSame.tab14 l_12_HtreeSame.bits14 (fun HT_ HW_=>?_)
                 generalize wc.drew=w46 at HO_5 HO_6 HB hx269_0 hx270_0 hHeld ⊢
                 refine pS 0 62 HT_ ?_;refine pS 1 63 HT_ ?_;refine pS 2 64 HT_ ?_;refine pS 3 65 HT_ ?_;refine pS 5 67 HT_ ?_;refine pS 6 68 HT_ ?_;refine pS 7 69 HT_ ?_;refine tS 4 66 HT_ HW_ hHeld ?_ (hy:=by rintro w' ⟨s0,s1⟩;go_simp;with_reducible rfl);refine tS 8 70 HT_ HW_ hHeld ?_ (hy:=by rintro w' ⟨s0,s1⟩;go_simp;with_reducible rfl);refine pS 9 71 HT_ ?_;refine pS 10 72 HT_ ?_
                 refine oS 11 (some 73) HT_ (fun K hK=>?_)
                 refine goes_ Try.func13 (by kernel_rfl) rfl #[.slice Ao47 x6_2.length co47,.agg #[.string (rdOf ByteArray.empty l0 (ji22)),.int .i64 ((rdOf ByteArray.empty l0 (ji22)).size:Int)]] (by rfl) rfl rfl (by (try simp only [List.map_toArray,List.map_cons,List.map_nil]);first|done|(simp only [hji22];rfl)|rfl|(simp only [List.length_drop,List.length_take];rfl)) ?_
                 with_reducible refine (htree_Add.calls _ _ x6_2 (rdOf ByteArray.empty l0 (ji22)) ((rdOf ByteArray.empty l0 (ji22)).size:Int) t271 t274 _ ?side1 ?side2 A25.out).mono ?_
                 (case side1=>exact cc (Kd.N_reads' HO_6.out).2.2)
                 (case side2=>exact (Kd.N_reads' HO_6.out).2.1)
                 rintro e w48 ⟨v272,rfl,ho0,hb⟩
                 refine ⟨_,rfl,?_⟩
                 have n0_:=am (Kd.N_elder' (by (with_reducible repeat (first|apply Kd.N_alloc|apply Kd.N_drewN|apply Kd.N_drew));exact HO_5.out) (by first|exact Kd.N_base ho0|exact Kd.S_base ho0) hb)
                 have n1_:=am (Kd.N_elder' (by (with_reducible repeat (first|apply Kd.N_alloc|apply Kd.N_drewN|apply Kd.N_drew));exact HO_6.out) (by first|exact Kd.N_base ho0|exact Kd.S_base ho0) hb)
                 have n2_:=am (Kd.N_lower (Kd.N_mono (ok':=fun k_=>some k_≠(u5:Value).ownBlock∧some k_≠(.slice Ao47 x6_2.length co47:Value).ownBlock) (Kd.S_N (Kd.S_bound ho0)) (fun k_ hk_=>⟨(Kd.fresh' (Kd.N_lt (by (with_reducible repeat (first|apply Kd.N_alloc|apply Kd.N_drewN|apply Kd.N_drew));exact HO_5.out)) k_ hk_.2.1),(Kd.fresh' (Kd.N_lt (by (with_reducible repeat (first|apply Kd.N_alloc|apply Kd.N_drewN|apply Kd.N_drew));exact HO_6.out)) k_ hk_.2.1)⟩)) (bz HB))
                 have n3_:=bst HB hb
                 clear HO_5;clear HO_6;clear HB;have HO_5:=n0_;have HO_6:=n1_;have HO273:=n2_;have HB:=n3_;clear n0_ n1_ n2_ n3_
                 (try clear hb)
                 (try clear hb2)
                 (try clear hk)
                 (try clear hi)
                 (try clear ho0)
                 refine hK.out _ _ ⟨(hB HB hw269_0),(hB HB hw270_0)⟩ (fun hHeld=>?_)
                 clear hK K;refine norm_ (a':=?_) ?_ ?_;rotate_left
                 ·show Act.put _ (some 73) _=_
                  simp only [Act.put,sIb,sC0,sCs,i64_w,i32_w];rfl
                 refine pS 12 61 HT_ ?_;refine pS 13 74 HT_ ?_;refine pS 14 75 HT_ ?_;refine pS 15 12 HT_ ?_;refine pS 16 13 HT_ ?_
                 refine done_ (done_of HT_.out (by kernel_rfl)) ?_
                 try go_wp2
                 go_roundg kj16
                 case measure=>have:=HJ6.out;have:=HK2.out;have:=HJ16.out;omega
                 case rel=>exact ⟨(x5_16),(x6_2),(wrap64 (x8_2+1)),(by first|rfl|(simp;done)|(simp [*];done)),H',⟨by have:=HJ6.out;have:=HK2.out;have:=HJ16.out;omega⟩,⟨by (with_reducible repeat (first|apply Kd.N_alloc|apply Kd.N_drewN|apply Kd.N_drew));exact Kd.N_mono HO_5.out (fun _ hk=>hk.1)⟩,⟨by (with_reducible repeat (first|apply Kd.N_alloc|apply Kd.N_drewN|apply Kd.N_drew));exact Kd.N_mono HO_6.out (fun _ hk=>hk.1)⟩,⟨bb HB⟩⟩
             ·rw [if_neg c24] at H
              exact absurd H (by simp)
            ·rw [if_neg c23] at H
             exact absurd H (by simp)
         ·rw [if_neg c15] at H
          exact absurd H (by simp)
        ·rw [if_neg c14] at H
         exact absurd H (by simp)
      ·rw [if_neg c12] at H
       have c12b0:decide (x8_2 < x7_6)=false:=decide_eq_false c12
       clear c12
       replace H:=Option.bind_eq_some_iff.mp H
       obtain ⟨⟨t254,t255⟩,A490,H⟩:=H
       replace H:((htree_After.f x6_2 (⟨#[]⟩:ByteArray) 999).bind fun bt258=>(if t255=0 then (if bt258.2=0 then ((r_11_Same.f k2 t254 bt258.1).bind fun t262=>(some t262)) else (some false)) else (some false)))=some r:=H
       have A49:=am A490
       clear A490
       replace H:=Option.bind_eq_some_iff.mp H
       obtain ⟨⟨t258,t259⟩,A500,H⟩:=H
       replace H:(if t255=0 then (if t259=0 then ((r_11_Same.f k2 t254 t258).bind fun t262=>(some t262)) else (some false)) else (some false))=some r:=H
       have A50:=am A500
       clear A500
       by_cases c51:t255=0
       ·rw [if_pos c51] at H
        have c51b0:(t255==0)=true:=beq_iff_eq.mpr c51
        have c51b1:(t255 != 0)=false:=bne_eq_false_iff_eq.mpr c51
        clear c51
        by_cases c52:t259=0
        ·rw [if_pos c52] at H
         have c52b0:(t259==0)=true:=beq_iff_eq.mpr c52
         have c52b1:(t259 != 0)=false:=bne_eq_false_iff_eq.mpr c52
         clear c52
         replace H:=Option.bind_eq_some_iff.mp H
         obtain ⟨t262,A530,H⟩:=H
         replace H:(some t262)=some r:=H
         have A53:=am A530
         clear A530;obtain rfl:=Option.some.inj H
         obtain ⟨Ao54,co54,eo54⟩:=Kd.N_slice HO_5.out
         subst eo54
         go_wp2_with (first|((with_reducible refine gate_callee (f:=9) rfl ?_);refine goesL_ (some 87) rfl rfl Try.func9 (by kernel_rfl) rfl #[.slice Ao54 x5_2.length co54,.string (⟨#[]⟩:ByteArray),.int .i64 999] rfl (by (try simp only [List.map_toArray,List.map_cons,List.map_nil]);first|done|rfl|(simp only [List.length_drop,List.length_take];rfl)) ?_;(with_reducible refine (htree_After.calls _ _ x5_2 (⟨#[]⟩:ByteArray) 999 t254 t255 _ ?side1 ?side2 A49.out).mono ?_);(case side1=>exact cc (Kd.N_reads' HO_5.out).2.2);(case side2=>exact (Kd.N_reads' HO_5.out).2.1);rintro e w55 ⟨v256,rfl,ho0,hb⟩;refine ⟨_,rfl,?_⟩;have n0_:=am (Kd.N_elder' (by (with_reducible repeat (first|apply Kd.N_alloc|apply Kd.N_drewN|apply Kd.N_drew));exact HO_5.out) (Kd.R_base ho0) hb);have n1_:=am (Kd.N_elder' (by (with_reducible repeat (first|apply Kd.N_alloc|apply Kd.N_drewN|apply Kd.N_drew));exact HO_6.out) (Kd.R_base ho0) hb);have n2_:=am (Kd.R_lower ho0 (bz HB));have n3_:=bst HB hb;clear HO_5;clear HO_6;clear HB;have HO_5:=n0_;have HO_6:=n1_;have HO257:=n2_;have HB:=n3_;clear n0_ n1_ n2_ n3_;(try clear hb);(try clear hb2);(try clear hk);(try clear hi);(try clear ho0);obtain ⟨Ao56,co56,eo56⟩:=Kd.N_slice HO_6.out;subst eo56)|((with_reducible refine gate_callee (f:=9) rfl ?_);refine goesL_ (some 92) rfl rfl Try.func9 (by kernel_rfl) rfl #[.slice Ao56 x6_2.length co56,.string (⟨#[]⟩:ByteArray),.int .i64 999] rfl (by (try simp only [List.map_toArray,List.map_cons,List.map_nil]);first|done|rfl|(simp only [List.length_drop,List.length_take];rfl)) ?_;(with_reducible refine (htree_After.calls _ _ x6_2 (⟨#[]⟩:ByteArray) 999 t258 t259 _ ?side1 ?side2 A50.out).mono ?_);(case side1=>exact cc (Kd.N_reads' HO_6.out).2.2);(case side2=>exact (Kd.N_reads' HO_6.out).2.1);rintro e w57 ⟨v260,rfl,ho0,hb⟩;refine ⟨_,rfl,?_⟩;have n0_:=am (Kd.N_elder' (by (with_reducible repeat (first|apply Kd.N_alloc|apply Kd.N_drewN|apply Kd.N_drew));exact HO_5.out) (Kd.R_base ho0) hb);have n1_:=am (Kd.N_elder' (by (with_reducible repeat (first|apply Kd.N_alloc|apply Kd.N_drewN|apply Kd.N_drew));exact HO_6.out) (Kd.R_base ho0) hb);have n2_:=am (Kd.R_elder' (rR HO257) (Kd.R_base ho0) hb);have n3_:=am (Kd.R_lower (Kd.R_new' ho0 (Kd.R_lt (rR HO257))) (bz HB));have n4_:=bst HB hb;clear HO_5;clear HO_6;clear HO257;clear HB;have HO_5:=n0_;have HO_6:=n1_;have HO257:=n2_;have HO261:=n3_;have HB:=n4_;clear n0_ n1_ n2_ n3_ n4_;(try clear hb);(try clear hb2);(try clear hk);(try clear hi);(try clear ho0);obtain ⟨Ao58,co58,eo58⟩:=Kd.R_slice HO257.out;subst eo58;obtain ⟨Ao59,co59,eo59⟩:=Kd.R_slice HO261.out;subst eo59)|(go_at_call 11;(with_reducible refine (r_11_Same.calls k2 _ _ t254 _ _ t258 t262 _ ?side1 ?side2 ?side3 ?side4 A53.out).mono ?_);(case side1=>exact cc (Kd.R_reads' HO257.out).2.2);(case side2=>exact (Kd.R_reads' HO257.out).2.1);(case side3=>exact cc (Kd.R_reads' HO261.out).2.2);(case side4=>exact (Kd.R_reads' HO261.out).2.1);rintro e w' ⟨rfl,⟨nd,rfl⟩⟩))
         go_ret
         exact ⟨by first|rfl|(simp [errW_none,errW_some]<;>rfl)|(simp [*,errW_none,errW_some]<;>rfl),bb HB⟩
        ·rw [if_neg c52] at H
         have c52b0:(t259==0)=false:=beq_eq_false_iff_ne.mpr c52
         have c52b1:(t259 != 0)=true:=bne_iff_ne.mpr c52
         obtain rfl:=Option.some.inj H
         obtain ⟨Ao60,co60,eo60⟩:=Kd.N_slice HO_5.out
         subst eo60
         go_wp2_with (first|((with_reducible refine gate_callee (f:=9) rfl ?_);refine goesL_ (some 87) rfl rfl Try.func9 (by kernel_rfl) rfl #[.slice Ao60 x5_2.length co60,.string (⟨#[]⟩:ByteArray),.int .i64 999] rfl (by (try simp only [List.map_toArray,List.map_cons,List.map_nil]);first|done|rfl|(simp only [List.length_drop,List.length_take];rfl)) ?_;(with_reducible refine (htree_After.calls _ _ x5_2 (⟨#[]⟩:ByteArray) 999 t254 t255 _ ?side1 ?side2 A49.out).mono ?_);(case side1=>exact cc (Kd.N_reads' HO_5.out).2.2);(case side2=>exact (Kd.N_reads' HO_5.out).2.1);rintro e w61 ⟨v256,rfl,ho0,hb⟩;refine ⟨_,rfl,?_⟩;have n0_:=am (Kd.N_elder' (by (with_reducible repeat (first|apply Kd.N_alloc|apply Kd.N_drewN|apply Kd.N_drew));exact HO_5.out) (Kd.R_base ho0) hb);have n1_:=am (Kd.N_elder' (by (with_reducible repeat (first|apply Kd.N_alloc|apply Kd.N_drewN|apply Kd.N_drew));exact HO_6.out) (Kd.R_base ho0) hb);have n2_:=am (Kd.R_lower ho0 (bz HB));have n3_:=bst HB hb;clear HO_5;clear HO_6;clear HB;have HO_5:=n0_;have HO_6:=n1_;have HO257:=n2_;have HB:=n3_;clear n0_ n1_ n2_ n3_;(try clear hb);(try clear hb2);(try clear hk);(try clear hi);(try clear ho0);obtain ⟨Ao62,co62,eo62⟩:=Kd.N_slice HO_6.out;subst eo62)|((with_reducible refine gate_callee (f:=9) rfl ?_);refine goesL_ (some 92) rfl rfl Try.func9 (by kernel_rfl) rfl #[.slice Ao62 x6_2.length co62,.string (⟨#[]⟩:ByteArray),.int .i64 999] rfl (by (try simp only [List.map_toArray,List.map_cons,List.map_nil]);first|done|rfl|(simp only [List.length_drop,List.length_take];rfl)) ?_;(with_reducible refine (htree_After.calls _ _ x6_2 (⟨#[]⟩:ByteArray) 999 t258 t259 _ ?side1 ?side2 A50.out).mono ?_);(case side1=>exact cc (Kd.N_reads' HO_6.out).2.2);(case side2=>exact (Kd.N_reads' HO_6.out).2.1);rintro e w63 ⟨v260,rfl,ho0,hb⟩;refine ⟨_,rfl,?_⟩;have n0_:=am (Kd.N_elder' (by (with_reducible repeat (first|apply Kd.N_alloc|apply Kd.N_drewN|apply Kd.N_drew));exact HO_5.out) (Kd.R_base ho0) hb);have n1_:=am (Kd.N_elder' (by (with_reducible repeat (first|apply Kd.N_alloc|apply Kd.N_drewN|apply Kd.N_drew));exact HO_6.out) (Kd.R_base ho0) hb);have n2_:=am (Kd.R_elder' (rR HO257) (Kd.R_base ho0) hb);have n3_:=am (Kd.R_lower (Kd.R_new' ho0 (Kd.R_lt (rR HO257))) (bz HB));have n4_:=bst HB hb;clear HO_5;clear HO_6;clear HO257;clear HB;have HO_5:=n0_;have HO_6:=n1_;have HO257:=n2_;have HO261:=n3_;have HB:=n4_;clear n0_ n1_ n2_ n3_ n4_;(try clear hb);(try clear hb2);(try clear hk);(try clear hi);(try clear ho0)))
         go_ret
         exact ⟨by first|rfl|(simp [errW_none,errW_some]<;>rfl)|(simp [*,errW_none,errW_some]<;>rfl),bb HB⟩
       ·rw [if_neg c51] at H
        have c51b0:(t255==0)=false:=beq_eq_false_iff_ne.mpr c51
        have c51b1:(t255 != 0)=true:=bne_iff_ne.mpr c51
        obtain rfl:=Option.some.inj H
        obtain ⟨Ao64,co64,eo64⟩:=Kd.N_slice HO_5.out
        subst eo64
        go_wp2_with (first|((with_reducible refine gate_callee (f:=9) rfl ?_);refine goesL_ (some 87) rfl rfl Try.func9 (by kernel_rfl) rfl #[.slice Ao64 x5_2.length co64,.string (⟨#[]⟩:ByteArray),.int .i64 999] rfl (by (try simp only [List.map_toArray,List.map_cons,List.map_nil]);first|done|rfl|(simp only [List.length_drop,List.length_take];rfl)) ?_;(with_reducible refine (htree_After.calls _ _ x5_2 (⟨#[]⟩:ByteArray) 999 t254 t255 _ ?side1 ?side2 A49.out).mono ?_);(case side1=>exact cc (Kd.N_reads' HO_5.out).2.2);(case side2=>exact (Kd.N_reads' HO_5.out).2.1);rintro e w65 ⟨v256,rfl,ho0,hb⟩;refine ⟨_,rfl,?_⟩;have n0_:=am (Kd.N_elder' (by (with_reducible repeat (first|apply Kd.N_alloc|apply Kd.N_drewN|apply Kd.N_drew));exact HO_5.out) (Kd.R_base ho0) hb);have n1_:=am (Kd.N_elder' (by (with_reducible repeat (first|apply Kd.N_alloc|apply Kd.N_drewN|apply Kd.N_drew));exact HO_6.out) (Kd.R_base ho0) hb);have n2_:=am (Kd.R_lower ho0 (bz HB));have n3_:=bst HB hb;clear HO_5;clear HO_6;clear HB;have HO_5:=n0_;have HO_6:=n1_;have HO257:=n2_;have HB:=n3_;clear n0_ n1_ n2_ n3_;(try clear hb);(try clear hb2);(try clear hk);(try clear hi);(try clear ho0);obtain ⟨Ao66,co66,eo66⟩:=Kd.N_slice HO_6.out;subst eo66)|((with_reducible refine gate_callee (f:=9) rfl ?_);refine goesL_ (some 92) rfl rfl Try.func9 (by kernel_rfl) rfl #[.slice Ao66 x6_2.length co66,.string (⟨#[]⟩:ByteArray),.int .i64 999] rfl (by (try simp only [List.map_toArray,List.map_cons,List.map_nil]);first|done|rfl|(simp only [List.length_drop,List.length_take];rfl)) ?_;(with_reducible refine (htree_After.calls _ _ x6_2 (⟨#[]⟩:ByteArray) 999 t258 t259 _ ?side1 ?side2 A50.out).mono ?_);(case side1=>exact cc (Kd.N_reads' HO_6.out).2.2);(case side2=>exact (Kd.N_reads' HO_6.out).2.1);rintro e w67 ⟨v260,rfl,ho0,hb⟩;refine ⟨_,rfl,?_⟩;have n0_:=am (Kd.N_elder' (by (with_reducible repeat (first|apply Kd.N_alloc|apply Kd.N_drewN|apply Kd.N_drew));exact HO_5.out) (Kd.R_base ho0) hb);have n1_:=am (Kd.N_elder' (by (with_reducible repeat (first|apply Kd.N_alloc|apply Kd.N_drewN|apply Kd.N_drew));exact HO_6.out) (Kd.R_base ho0) hb);have n2_:=am (Kd.R_elder' (rR HO257) (Kd.R_base ho0) hb);have n3_:=am (Kd.R_lower (Kd.R_new' ho0 (Kd.R_lt (rR HO257))) (bz HB));have n4_:=bst HB hb;clear HO_5;clear HO_6;clear HO257;clear HB;have HO_5:=n0_;have HO_6:=n1_;have HO257:=n2_;have HO261:=n3_;have HB:=n4_;clear n0_ n1_ n2_ n3_ n4_;(try clear hb);(try clear hb2);(try clear hk);(try clear hi);(try clear ho0)))
        go_ret
        exact ⟨by first|rfl|(simp [errW_none,errW_some]<;>rfl)|(simp [*,errW_none,errW_some]<;>rfl),bb HB⟩
 ·replace c4:=Bool.eq_false_iff.mpr c4
  subst c4
  have H1:(some false)=some r:=by rw [if_neg (show ¬ (false=true) by decide)] at H;exact H
  clear H;have H:=H1;clear H1;obtain rfl:=Option.some.inj H
  go_enter Try.func4,Try.ntmps4
  go_wp2_with (first|((with_reducible refine gate_callee (f:=7) rfl ?_);refine goesL_ (some 18) rfl rfl Try.func7 (by kernel_rfl) rfl #[] rfl (by (try simp only [List.map_toArray,List.map_cons,List.map_nil]);first|done|rfl|(simp only [List.length_drop,List.length_take];rfl)) ?_;(with_reducible refine (l_12_alive.calls k  false _ A3.out).mono ?_);rintro e w68 ⟨rfl,hb⟩;refine ⟨_,rfl,?_⟩;have n0_:=bst HB hb;clear HB;have HB:=n0_;clear n0_;(try clear hb);(try clear hb2);(try clear hk);(try clear hi)))
  go_ret
  exact ⟨by first|rfl|(simp [errW_none,errW_some]<;>rfl)|(simp [*,errW_none,errW_some]<;>rfl),bb HB⟩
end Go.Proofs.Yteglhbfhibfodaa.Pr
end
section
namespace Go.Proofs.Yteglhbfhibfodaa.Ht
open Go.RowKit Go.Proofs.YteglhbfhibfodaaW.PrintWords Go.Proofs.YteglhbfhibfodaaW.PrintMore Go.Proofs.Yteglhbfhibfodaa.Pr Go.Proofs.Yteglhbfhibfodaa.Od Go.Proofs.Yteglhbfhibfodaa.Cr Go.Proofs.Yteglhbfhibfodaa.Lf
set_option linter.unusedVariables false
set_option linter.unusedSimpArgs false
structure Just (d : List (List Int)) (L : List ByteArray) : Prop where
  dir : Dir d
  all : ∀ y : E, y ∈ entsD d ↔ ∃ nm ∈ L, y = ⟨nm, (nm.size : Int)⟩ ∧ mayX y = true
theorem Just.new : Just newD [] := ⟨dir_new, fun y => by rw [ents_new]; simp⟩
theorem Just.add {d : List (List Int)} {L : List ByteArray} (h : Just d L) (nm : ByteArray) : (addP d ⟨nm, (nm.size : Int)⟩).2 = 9 ∨ Just (if (addP d ⟨nm, (nm.size : Int)⟩).2 = 0 then (addP d ⟨nm, (nm.size : Int)⟩).1 else d) (L ++ [nm]) := by
  obtain ⟨g1, g2, g3⟩ := add_law h.dir ⟨nm, (nm.size : Int)⟩
  cases hm : mayX (⟨nm, (nm.size : Int)⟩ : E) with
  | false =>
    right
    rw [g1 hm, if_neg (by decide)]
    refine ⟨h.dir, fun y => ?_⟩
    rw [h.all]
    constructor
    · rintro ⟨m, h1, h2⟩; exact ⟨m, List.mem_append_left _ h1, h2⟩
    · rintro ⟨m, h1, rfl, h3⟩
      rcases List.mem_append.1 h1 with h1 | h1
      · exact ⟨m, h1, rfl, h3⟩
      · rw [List.mem_singleton.1 h1, hm] at h3; cases h3
  | true =>
    by_cases hn : ∃ y ∈ entsD d, y.f0 = nm
    · right
      rw [g2 hm hn, if_neg (by decide)]
      refine ⟨h.dir, fun y => ?_⟩
      rw [h.all]
      constructor
      · rintro ⟨m, h1, h2⟩; exact ⟨m, List.mem_append_left _ h1, h2⟩
      · rintro ⟨m, h1, rfl, h3⟩
        rcases List.mem_append.1 h1 with h1 | h1
        · exact ⟨m, h1, rfl, h3⟩
        · obtain ⟨z, hz, hzn⟩ := hn
          obtain ⟨m2, k1, rfl, k3⟩ := (h.all z).1 hz
          obtain rfl : m2 = nm := hzn
          rw [List.mem_singleton.1 h1]
          exact ⟨m2, k1, rfl, k3⟩
    · rcases g3 hm hn with e | ⟨d', e, k1, k2⟩
      · left; rw [e]
      · right
        rw [e, if_pos rfl]
        refine ⟨k1, fun y => ?_⟩
        show y ∈ entsD d' ↔ _
        rw [k2, mem_ins, h.all]
        constructor
        · rintro (rfl | ⟨m, h1, h2⟩)
          · exact ⟨nm, by simp, rfl, hm⟩
          · exact ⟨m, List.mem_append_left _ h1, h2⟩
        · rintro ⟨m, h1, rfl, h3⟩
          rcases List.mem_append.1 h1 with h1 | h1
          · exact .inr ⟨m, h1, rfl, h3⟩
          · rw [List.mem_singleton.1 h1]; exact .inl rfl
theorem Just.same {a b : List (List Int)} {L M : List ByteArray} (ha : Just a L) (hb : Just b M) (h : ∀ nm, nm ∈ L ↔ nm ∈ M) : entsD a = entsD b :=
  rises_ext byS (entsD_rises ha.dir.byte) (entsD_rises hb.dir.byte) (fun y => by rw [ha.all, hb.all]; simp only [h])
theorem rdS (l : List ByteArray) (i : Nat) : rdOf ByteArray.empty l (i : Int) = l.getD i ByteArray.empty := rfl
def turned (l : List ByteArray) (t n i : Nat) : List ByteArray := (List.range i).map (fun j => l.getD ((t + j) % n) ByteArray.empty)
theorem turned_succ (l : List ByteArray) (t n i : Nat) : turned l t n (i + 1) = turned l t n i ++ [l.getD ((t + i) % n) ByteArray.empty] := by
  unfold turned
  rw [List.range_succ, List.map_append]
  rfl
theorem turned_all {l : List ByteArray} {t n : Nat} (hn : n ≤ l.length) (h0 : 0 < n) (nm : ByteArray) : nm ∈ turned l t n n ↔ nm ∈ l.take n := by
  unfold turned
  rw [List.mem_map]
  constructor
  · rintro ⟨j, -, rfl⟩
    have h1 := Nat.mod_lt (t + j) h0
    rw [getD_at (by omega)]
    exact List.mem_take_iff_getElem.2 ⟨(t + j) % n, by omega, rfl⟩
  · intro h
    obtain ⟨i, hi, rfl⟩ := List.mem_take_iff_getElem.1 h
    have hi : i < n := by omega
    have h1 := Nat.mod_lt t h0
    refine ⟨(i + (n - t % n)) % n, List.mem_range.2 (Nat.mod_lt _ h0), ?_⟩
    have e : (t + (i + (n - t % n)) % n) % n = i := by
      rw [Nat.add_mod, Nat.mod_mod]
      rw [← Nat.add_mod]
      have h2 : t + (i + (n - t % n)) = i + n * (t / n + 1) := by
        have h3 := Nat.div_add_mod t n
        have h4 : n * (t / n + 1) = n * (t / n) + n := by rw [Nat.mul_add, Nat.mul_one]
        omega
      rw [h2, Nat.add_mul_mod_self_left, Nat.mod_eq_of_lt hi]
    rw [e, getD_at (by omega)]
theorem turn_at (a : Int) (n i : Nat) (h0 : 0 < n) (hn : n ≤ 60) (hi : i < n) : wrap64 (Int.tmod (IntKind.u64.wrap ((Int.tmod (IntKind.u64.wrap a) (IntKind.u64.wrap (n : Int))) + (IntKind.u64.wrap (i : Int)))) (IntKind.u64.wrap (n : Int))) = ((((IntKind.u64.wrap a).toNat % n + i) % n : Nat) : Int) := by
  have e : IntKind.u64.wrap (n : Int) = (n : Int) := by rw [u64w]; omega
  have e2 : IntKind.u64.wrap (i : Int) = (i : Int) := by rw [u64w]; omega
  have h1 : 0 ≤ IntKind.u64.wrap a := by rw [u64w]; omega
  rw [e, e2, Int.tmod_eq_emod_of_nonneg h1]
  obtain ⟨t, ht⟩ : ∃ t : Nat, IntKind.u64.wrap a = (t : Int) := ⟨(IntKind.u64.wrap a).toNat, by omega⟩
  rw [ht, Int.toNat_natCast]
  have h3 := Nat.mod_lt t h0
  have e3 : (t : Int) % (n : Int) + (i : Int) = ((t % n + i : Nat) : Int) := by simp
  rw [e3]
  have e4 : IntKind.u64.wrap ((t % n + i : Nat) : Int) = ((t % n + i : Nat) : Int) := by rw [u64w]; omega
  rw [e4, Int.tmod_eq_emod_of_nonneg (by omega)]
  have e5 : ((t % n + i : Nat) : Int) % (n : Int) = (((t % n + i) % n : Nat) : Int) := by simp
  have h4 := Nat.mod_lt (t % n + i) h0
  rw [e5, w64 (by omega) (by omega)]
theorem same_loop (l : List ByteArray) (a : Int) (n : Nat) (h0 : 0 < n) (hn : n ≤ 60) (hl : n ≤ l.length) : ∀ (m i : Nat) (da db : List (List Int)), i + m = n → Just da (l.take i) → Just db (turned l ((IntKind.u64.wrap a).toNat % n) n i) → Ev (fun k => l_12_HtreeSame.l0 k l a da db (n : Int) (i : Int)) true := by
  intro m
  induction m with
  | zero =>
    intro i da db hi ha hb
    obtain rfl : i = n := by omega
    refine Ev.succ ?_
    have e := ha.same hb (fun nm => (turned_all (t := (IntKind.u64.wrap a).toNat % i) hl h0 nm).symm)
    simp only [l_12_HtreeSame.l0, if_neg (show ¬((i : Int) < (i : Int)) by omega), f_after ha.dir.b ⟨#[]⟩ (by decide) 999, f_after hb.dir.b ⟨#[]⟩ (by decide) 999, after0 ha.dir, after0 hb.dir, bs, if_true, e]
    refine Ev.bind (same_ev _ (by rw [List.length_take]; have := entsD_len hb.dir.byte; omega)) ?_
    exact Ev.now _
  | succ m ih =>
    intro i da db hi ha hb
    have hin : i < n := by omega
    have hil : i < l.length := by omega
    have hz : ¬ IntKind.u64.wrap (n : Int) = 0 := by rw [u64w]; omega
    obtain ⟨q, hq⟩ : ∃ q, ((IntKind.u64.wrap a).toNat % n + i) % n = q := ⟨_, rfl⟩
    have hqn : q < n := by rw [← hq]; exact Nat.mod_lt _ h0
    have hta : l.take (i + 1) = l.take i ++ [l.getD i ByteArray.empty] := by rw [getD_at hil]; exact List.take_succ_eq_append_getElem hil
    have htb : turned l ((IntKind.u64.wrap a).toNat % n) n (i + 1) = turned l ((IntKind.u64.wrap a).toNat % n) n i ++ [l.getD q ByteArray.empty] := by rw [turned_succ, hq]
    have hA := ha.add (l.getD i ByteArray.empty)
    have hB := hb.add (l.getD q ByteArray.empty)
    rw [← hta] at hA
    rw [← htb] at hB
    have step2 : ∀ (x : List (List Int)) (e : Int), (e = 9 ∨ Just x (l.take (i + 1))) → Ev (fun k => l_12_HtreeSame.j2 k l a x db (n : Int) (i : Int) (q : Int) e) true := by
      intro x e hx
      refine Ev.succ ?_
      simp only [l_12_HtreeSame.j2, if_pos (show (0 : Int) ≤ (q : Int) by omega), if_pos (show (q : Int) < (l.length : Int) by omega), rdS, f_add hb.dir.b, bs, w64 (show -9223372036854775808 ≤ (i : Int) + 1 by omega) (by omega)]
      by_cases he : e = 9
      · simp only [if_pos he]
        split <;> exact Ev.now _
      · simp only [if_neg he]
        have hx := hx.resolve_left he
        by_cases h9 : (addP db ⟨l.getD q ByteArray.empty, ((l.getD q ByteArray.empty).size : Int)⟩).2 = 9
        · simp only [h9, if_true]
          split <;> exact Ev.now _
        · simp only [if_neg h9]
          have hB := hB.resolve_left h9
          by_cases h00 : (addP db ⟨l.getD q ByteArray.empty, ((l.getD q ByteArray.empty).size : Int)⟩).2 = 0
          · simp only [if_pos h00] at hB ⊢
            exact ih (i + 1) x _ (by omega) hx hB
          · simp only [if_neg h00] at hB ⊢
            exact ih (i + 1) x _ (by omega) hx hB
    refine Ev.succ ?_
    simp only [l_12_HtreeSame.l0, if_pos (show (i : Int) < (n : Int) by omega), if_neg hz, if_pos (show (0 : Int) ≤ (i : Int) by omega), if_pos (show (i : Int) < (l.length : Int) by omega), rdS, f_add ha.dir.b, bs, turn_at a n i h0 hn hin, hq]
    by_cases h00 : (addP da ⟨l.getD i ByteArray.empty, ((l.getD i ByteArray.empty).size : Int)⟩).2 = 0
    · simp only [if_pos h00] at hA ⊢
      exact step2 _ _ hA
    · simp only [if_neg h00] at hA ⊢
      exact step2 _ _ hA
theorem HtreeSame (l : List ByteArray) (a : Int) : ∃ k, l_12_HtreeSame.f k l a = some true := by
  refine Ev.rounds ?_
  unfold l_12_HtreeSame.f
  refine Ev.bind alive_ev ?_
  simp only [if_true]
  refine Ev.bind new_ev ?_
  refine Ev.bind new_ev ?_
  have hj : ∀ n : Nat, n ≤ 60 → n ≤ l.length → Ev (fun k => l_12_HtreeSame.j0 k l a newD newD (n : Int)) true := by
    intro n hn hl
    refine Ev.succ ?_
    simp only [l_12_HtreeSame.j0]
    rcases Nat.eq_zero_or_pos n with rfl | h0
    · refine Ev.succ ?_
      simp only [l_12_HtreeSame.l0, if_neg (show ¬((0 : Int) < ((0 : Nat) : Int)) by omega), f_after dir_new.b ⟨#[]⟩ (by decide) 999, after0 dir_new, bs, if_true]
      refine Ev.bind (same_ev _ (by rw [List.length_take]; have := entsD_len dir_new.byte; omega)) ?_
      exact Ev.now _
    · exact same_loop l a n h0 hn hl n 0 newD newD (by omega) (by rw [List.take_zero]; exact Just.new) Just.new
  by_cases h : (l.length : Int) > 60
  · simp only [if_pos h]
    exact hj 60 (by omega) (by omega)
  · simp only [if_neg h]
    exact hj l.length (by omega) (Nat.le_refl _)
theorem oStrs : Op.Opens Try.prog 34 (Kd.slice 9 Kd.string) (fun _ => True) := by
  intro H enc W fuel cs x h hw
  obtain ⟨v, hk, hs⟩ := Op.opens_slice (B := 16) Try.underlying34 (by kernel_rfl) (by kernel_rfl) (Op.opens_string Try.underlying9) h hw
  exact ⟨v, hk, trivial⟩
end Go.Proofs.Yteglhbfhibfodaa.Ht
end
section
namespace Go.Proofs.Yteglhbfhibfodaa.htreeSame
open Go.ChangeShapes Go.WideShapes Go.ChangeAt Go.RowKit Go.Proofs.YteglhbfhibfodaaW.PrintWords Go.Proofs.Yteglhbfhibfodaa.Pr Go.Proofs.Yteglhbfhibfodaa.Op Go.Joins
open Go.ChangeMaps (open_string shut_string)
set_option linter.unusedVariables false
theorem own : ownKnob Try.prog.godebug = none := by kernel_rfl
theorem laidOut : laidOutB Try.prog = true := by kernel_rfl
set_option maxRecDepth 100000 in
theorem contract (H : Type) (enc : TypeId × Value → H) (W : World) (base : Nat) (args : Array Value) (ds gs : List (DataW H)) (before : List MemPlace)
    (hval : ∀ (j : Nat) t v, Try.f4.params[j]? = some t → args[j]? = some v → Value.okWide Try.prog W .any base t v)
    (hW : DataW.Whole enc Try.prog Try.f4.params.toList Rows.htreeSameSpec.vars false W args.toList ds gs before)
    (hsz : (DataW.weightsEach Try.prog (Try.f4.params.toList ++ Rows.htreeSameSpec.plain.varTypes Try.prog) (ds ++ gs)).all (· ≤ reachBytes) = true) :
    Calls Try.prog 4 args W fun e W' => ∃ v, e = .returned v ∧ Rows.htreeSameSpec.post enc Try.prog Try.f4 false true false false W args v W' := by
  have hW' := hW
  obtain ⟨p, q, hA0, hV, rfl, hfz, hnd⟩ := hW
  have hA : DataW.TrodAll enc Try.prog W 0 (fun _ => true) true Try.f4.params.toList args.toList ds p := hA0
  rw [Try.params4] at hA hval hsz
  obtain ⟨v0, vs0, d0, ds0, p0, q0, hargs, rfl, rfl, h0, r0⟩ := trodAll_cons hA
  obtain ⟨v1, vs1, d1, ds1, p1, q1, rfl, rfl, rfl, h1, r1⟩ := trodAll_cons r0
  obtain ⟨rfl, rfl, rfl⟩ := trodAll_nil r1
  obtain rfl : args = #[v0, v1] := by cases args; simp_all
  obtain ⟨rfl, rfl⟩ := trodVars_none hV
  have lt0 : ∀ x ∈ p0, x.block < W.heap.size := by obtain ⟨m, hm⟩ := h0; exact DataW.trod_lt m _ _ _ hm
  have k0 := h0
  obtain ⟨A0, l0, c0, rfl, hc0, hr0, hs0⟩ := arg_slice Try.underlying34 Ht.oStrs (hval 0 34 v0 rfl rfl) h0 hsz (j := 0) (t := 34) rfl rfl
  have lt1 : ∀ x ∈ p1, x.block < W.heap.size := by obtain ⟨m, hm⟩ := h1; exact DataW.trod_lt m _ _ _ hm
  have k1 := h1
  obtain ⟨a1, rfl, rfl, rfl, w1⟩ := open_int Try.underlying3 (hval 1 3 v1 rfl rfl) h1
  have b1 := bounds_i64 w1
  clear hA0
  obtain ⟨k, hk⟩ := Ht.HtreeSame l0 a1
  refine (l_12_HtreeSame.calls k A0 c0 l0 a1 true W hr0 hc0 hk).mono fun e W' ⟨he, bel⟩ => ?_
  subst he
  exact ⟨_, rfl, _, _, _, [], _, [], hW', trodAll_mk1 (shut_bool Try.underlying4 _), (trodAll_cons_mk (Below.trod laidOut (by kernel_rfl) (of_decide_eq_true (by kernel_rfl)) k0 bel lt0) (trodAll_cons_mk (Below.trod laidOut (by kernel_rfl) (of_decide_eq_true (by kernel_rfl)) k1 bel lt1) trodAll_mk0)), rfl, bel.frame _, fun h => by cases h⟩
set_option maxRecDepth 100000 in
theorem lifted (os : Os) (started : os.Started) (H : Type) (enc : TypeId × Value → H) :
    ReturnsInHanded {} Try.checked os 4 .any (Rows.htreeSameSpec.pre6 enc Try.prog Try.f4 Rows.htreeSameRow.domain false) (Rows.htreeSameSpec.post enc Try.prog Try.f4 false true false false) := by
  refine returnsInHanded_of_change_sized (C := Try.checked) own started (by kernel_rfl) Try.func4
    (ChangeSpec.witness6 (enc := enc) (C := Try.checked) false ⟨#[], #[.slice none 0 0, .int .i64 0], []⟩ 8 (by kernel_rfl) (by kernel_rfl) (by kernel_rfl) (by kernel_rfl)) ?_
  intro W base args ds gs before hval hW _ hsz _
  exact contract H enc W base args ds gs before hval hW hsz
theorem over : Rows.htreeSameRow.holds Try.pinned (OpenSpec.ofChange Rows.htreeSameSpec) :=
  OpenClaim.holds_of_wide 4 Try.f4 rfl rfl rfl rfl rfl rfl rfl ⟨rfl, rfl, rfl, rfl, rfl⟩ rfl rfl rfl rfl rfl (by kernel_rfl) Try.func4 (by kernel_rfl)
    (of_decide_eq_true (by kernel_rfl)) (by unfold Func.isWrapper; first | (rw [if_pos (by decide +kernel)]; kernel_rfl) | (rw [if_neg (by decide +kernel)]; exact ⟨rfl, rfl⟩))
    (fun os started H enc _ => lifted os started H enc)
theorem proved : Rows.HtreeSameSaid := over
end Go.Proofs.Yteglhbfhibfodaa.htreeSame
namespace Go.Proofs.Yteglhbfhibfodaa
theorem htreeSame_holds : Rows.HtreeSameSaid := htreeSame.proved
end Go.Proofs.Yteglhbfhibfodaa
end
