/- MFinds: this session's texts for the one law, put together (part 4 of 5): what its program computes, function by function, and that this answers true; the row stands at the end of the last part. Conditions: those that each theorem names; the last theorem has none. -/
import Derived.Maps.AppendAt
import Derived.Shelf.RegionOpen
import Derived.OwnWalkIn
import Derived.TacticsInMore
import Derived.LoopNIn
import Derived.LoopIn
import Derived.Outline
import Derived.Maps.OwnIn
import Derived.Shelf.SlSortCmp.NoneTotal
import Derived.Maps.OwnSet
import Derived.Test.YteglhbfhibfodaaMFindsC
section
namespace Go.Proofs.Yteglhbfhibfodaa.Pr
open Go.RowKit Go.Proofs.YteglhbfhibfodaaW.PrintWords Go.Proofs.YteglhbfhibfodaaW.PrintLast Go.Proofs.YteglhbfhibfodaaW.PrintMore
attribute [local go_sem] max2_int min2_int max_two min_two max_three min_three max_four min_four
attribute [local go_sem] Go.Proofs.Yteglhbfhibfodaa.Hl.str_geq Go.Proofs.Yteglhbfhibfodaa.Hl.str_gtr Go.Proofs.Yteglhbfhibfodaa.Hl.str_leq
set_option linter.unusedVariables false
set_option linter.unusedSimpArgs false
theorem insR_row (W:World) (vb:Nat) (p:S76) (hV:W.heap[vb]? = some (.cells #[.int .u32 p.f0,.int .i64 p.f1] 76 (0,0))):Kd.C k76 W (some ⟨vb,0,none⟩) 1 [p]:=by
 refine ⟨rfl,by simp,fun _=>⟨_,rfl,fun j q hj=>?_⟩⟩
 cases j with
 | zero =>
  simp only [List.getElem?_cons_zero,Option.some.injEq] at hj
  subst hj
  refine ⟨[.int .u32 p.f0,.int .i64 p.f1],rfl,k76_mk _ p,fun i u hu=>?_⟩
  rw [add_plain]
  have e:0*k76.sz+i=i:=by rw [show k76.sz=2 from rfl];omega
  rw [e,blk_cell hV i]
  simpa using hu
 | succ j=>simp at hj
def flatR2 (xs:List S76) (i:Nat):List Value:=(RwR.flat xs).drop (i*2)
set_option maxHeartbeats 8000000 in
set_option maxRecDepth 100000 in
theorem insR_calls (W:World) (base:Nat) (v:Value) (xs:List S76) (p:S76) (vb i n:Nat) (hn:xs.length=n) (hO:Kd.R k76 76 W base (fun _=>True) v xs) (hV:W.heap[vb]? = some (.cells #[.int .u32 p.f0,.int .i64 p.f1] 76 (0,0)))
  (hne:∀ g,v.ownBlock=some g→g≠vb) (hbase:base≤W.heap.size) (hi:i≤n) (hl:n < 4398046511103) :
  Calls Try.prog 56 #[v,.int .i64 i,.slice (some ⟨vb,0,none⟩) 1 1] W fun e w'=>∃ v',e=.returned v'∧Kd.R k76 76 w' base (fun _=>True) v' (xs.take i++p::xs.drop i)∧Below base W w':=by
 have hw:∀ z:Int,0≤z→z < 9223372036854775807→wrap64 z=z:=fun z _ _=>by unfold wrap64;omega
 have hu26:=Try.underlying76
 have hi26:=info76
 obtain ⟨A,c,rfl⟩:=Kd.R_slice hO
 rw [hn] at hO
 by_cases hin:i=n
 ·subst hin
  have HO:=am hO
  have HL:=am hl
  have HN:=am hn
  have hCV:=am (insR_row W vb p hV)
  have h0:(0:Int)≤(i:Int):=by omega
  have h1:(i:Int)≤(i:Int):=by omega
  rw [hn]
  clear hO hl hn hV hne hw
  cases A with
  | none =>
   obtain ⟨rfl,rfl⟩:i=0∧c=0:=by
    rcases (RwR.R_flat HO.out).2 with ⟨h,_⟩|⟨g',c',cur',h,_⟩
    ·injection h with h1 h2 h3
     exact ⟨h2,h3⟩
    ·cases h
   go_enter Try.func56,Try.ntmps56
   go_wp2_with ((with_reducible refine gate_builtin (b:=.append) (xs:=#[.tmp 23,.tmp 24]) rfl ?_);at_builtin;refine Kd.R_append_rows k76 (w0:=W) base rfl (.tmp 23) (.tmp 24) 56 76 (.agg #[(.int .u32 0),(.int .i64 0)]) 16 rfl Try.underlying56 info76 rfl (by decide) (by omega) _ xs [p] _ _ _ (fun _=>True) (fun _=>False) rfl rfl HO.out hCV.out (fun _ _ h=>h) (fun _ h=>h.elim) (fun _ _=>trivial) (Below.refl _ _) hbase (by have:=HL.out;have:=HN.out;omega) ?_;intro v2 w2 ho2 hb2 hg2 hat2;have HO2:=am ho2;have HB2:=am hb2;clear ho2 hb2 hg2 hat2)
   go_ret
   have e1:∀ j,xs.length=j→xs.take j++p::xs.drop j=xs++[p]:=fun j h=>by rw [List.take_of_length_le (by omega),List.drop_of_length_le (by omega)]
   rw [e1 _ HN.out]
   exact ⟨_,rfl,HO2.out,HB2.out⟩
  | some ad =>
   by_cases hci:c=i
   ·subst hci
    go_enter Try.func56,Try.ntmps56
    go_wp2_with ((with_reducible refine gate_builtin (b:=.append) (xs:=#[.tmp 23,.tmp 24]) rfl ?_);at_builtin;refine Kd.R_append_rows k76 (w0:=W) base rfl (.tmp 23) (.tmp 24) 56 76 (.agg #[(.int .u32 0),(.int .i64 0)]) 16 rfl Try.underlying56 info76 rfl (by decide) (by omega) _ xs [p] _ _ _ (fun _=>True) (fun _=>False) rfl rfl HO.out hCV.out (fun _ _ h=>h) (fun _ h=>h.elim) (fun _ _=>trivial) (Below.refl _ _) hbase (by have:=HL.out;have:=HN.out;omega) ?_;intro v2 w2 ho2 hb2 hg2 hat2;have HO2:=am ho2;have HB2:=am hb2;clear ho2 hb2 hg2 hat2)
    go_ret
    have e1:∀ j,xs.length=j→xs.take j++p::xs.drop j=xs++[p]:=fun j h=>by rw [List.take_of_length_le (by omega),List.drop_of_length_le (by omega)]
    rw [e1 _ HN.out]
    exact ⟨_,rfl,HO2.out,HB2.out⟩
   ·skip
    go_enter Try.func56,Try.ntmps56
    go_wp2_with ((with_reducible refine gate_builtin (b:=.append) (xs:=#[.tmp 23,.tmp 24]) rfl ?_);at_builtin;refine Kd.R_append_rows k76 (w0:=W) base rfl (.tmp 23) (.tmp 24) 56 76 (.agg #[(.int .u32 0),(.int .i64 0)]) 16 rfl Try.underlying56 info76 rfl (by decide) (by omega) _ xs [p] _ _ _ (fun _=>True) (fun _=>False) rfl rfl HO.out hCV.out (fun _ _ h=>h) (fun _ h=>h.elim) (fun _ _=>trivial) (Below.refl _ _) hbase (by have:=HL.out;have:=HN.out;omega) ?_;intro v2 w2 ho2 hb2 hg2 hat2;have HO2:=am ho2;have HB2:=am hb2;clear ho2 hb2 hg2 hat2)
    go_ret
    have e1:∀ j,xs.length=j→xs.take j++p::xs.drop j=xs++[p]:=fun j h=>by rw [List.take_of_length_le (by omega),List.drop_of_length_le (by omega)]
    rw [e1 _ HN.out]
    exact ⟨_,rfl,HO2.out,HB2.out⟩
 ·have hlt:i < n:=by omega
  have hp0:0 < xs.length:=by omega
  have h0:(0:Int)≤(i:Int):=by omega
  have h1:(i:Int)≤(n:Int):=by omega
  have hne1:((i:Int)==(n:Int))=false:=beq_eq_false_iff_ne.2 (by omega)
  have hn63:(n:Int)+1 < 9223372036854775807:=by omega
  have hi63:(i:Int)+1 < 9223372036854775807:=by omega
  have HW1:=am (hw ((n:Int)+1) (by omega) hn63)
  have HW3:=am (hw ((i:Int)+1) (by omega) hi63)
  have hXl:(flatR2 xs i).length=(n - i)*2:=by unfold flatR2;rw [List.length_drop,RwR.flat_len,hn];omega
  have hflen:(xs.take i++p::xs.drop i).length=n+1:=by rw [List.length_append,List.length_cons,List.length_take,List.length_drop,hn];omega
  have HW4:=am ((hw ((n:Int)+1 - (i:Int)) (by omega) (by omega)).trans (by omega:(n:Int)+1 - (i:Int)=((n+1 - i:Nat):Int)))
  clear hw hn63 hi63
  obtain ⟨g,c',cur,hv,hbg,hg,hnc,hcm,hcs,htk⟩:=RwR.own_open (RwR.R_flat hO) hp0
  have HCM:=am hcm
  clear hcm
  injection hv with hv1 hv2 hv3
  subst hv1
  subst hv3
  clear hv2
  rw [hn] at hnc htk ⊢
  have hgv:g≠vb:=hne g rfl
  have hglt:g < W.heap.size:=blk_lt hg
  have hvlt:vb < W.heap.size:=blk_lt hV
  have hcl:cur.toList.length=c*2:=by rw [Array.length_toList,hcs]
  have hci:¬ (c=i):=fun e=>absurd hlt (by rw [← e];exact Nat.not_lt.2 hnc)
  have hcells:∀ j u,(flatR2 xs i)[j]? = some u→W.cell? ⟨g,i*2+j,none⟩=some u:=by
   intro j u hj
   rw [blk_cell hg,← Array.getElem?_toList]
   unfold flatR2 at hj
   rw [List.getElem?_drop,← htk,List.getElem?_take] at hj
   split at hj
   ·exact hj
   ·cases hj
  have hadd:∀ b o j:Nat,(⟨b,o,none⟩:Addr).add j=⟨b,o+j,none⟩:=fun b o j=>by unfold Addr.add;split<;>simp_all
  have hfl1:∀ v∈flatR2 xs i,v.oneCell'=true:=fun v hv=>RwR.flat_one xs v (List.mem_of_mem_drop hv)
  have hpl1:∀ v∈RwR.cells2 p,v.oneCell'=true:=by intro v hv;simp only [RwR.cells2,List.mem_cons,List.not_mem_nil,or_false] at hv;rcases hv with rfl|rfl<;>rfl
  have hfin:RwR.flat (xs.take i++p::xs.drop i)=(RwR.flat xs).take (i*2)++RwR.cells2 p++flatR2 xs i:=by
   rw [RwR.flat_append,RwR.flat_cons,RwR.flat_take,RwR.flat_drop,← List.append_assoc];rfl
  by_cases hcap:(n:Int)+1 > (c:Int)
  ·
   obtain ⟨i0,hi0,hz3⟩:=Option.map_eq_some_iff.1 info76
   simp only [Prod.mk.injEq] at hz3
   obtain ⟨kk,hkk⟩:∃ kk,kk=n+1 - i:=⟨_,rfl⟩
   have hol:((RwR.flat xs).take (i*2)).length=i*2:=by rw [List.length_take,RwR.flat_len,hn];omega
   have hocell:∀ j u,((RwR.flat xs).take (i*2))[j]? = some u→W.cell? ⟨g,0+j,none⟩=some u:=by
    intro j u hj
    rw [Nat.zero_add,blk_cell hg,← Array.getElem?_toList]
    rw [List.getElem?_take] at hj
    split at hj
    ·rw [← htk,List.getElem?_take] at hj
     split at hj
     ·exact hj
     ·cases hj
    ·cases hj
   have hap:=Lib.run_append_grow_zeros (P:=Try.prog) W 56 3 56 76 i0 (.agg #[(.int .u32 0),(.int .i64 0)]) .i64 .i64 Try.underlying56 Try.underlying3 hi0 hz3.1 (some ⟨g,0,none⟩) i c ((RwR.flat xs).take (i*2)) (by
     have h:=run_loadCells_list (P:=Try.prog) W.drew ⟨g,0,none⟩ ((RwR.flat xs).take (i*2)) (fun j u hj=>by rw [hadd];exact hocell j u hj)
     rw [hol] at h
     rw [hz3.2.1]
     exact h) kk (by omega) (by rw [hz3.2.1];decide) (by omega) (by omega) (by rw [hz3.2.2];omega) (by rw [hz3.2.2];exact growslice_fits_wide (by omega) (by omega))
   have hsum:i+kk=n+1:=by omega
   rw [hsum] at hap
   obtain ⟨C2,hC2⟩:∃ C2,C2=grownCap W (n+1) c 76:=⟨_,rfl⟩
   have hC2n:n+1≤C2:=by rw [hC2];exact grownCap_ge _ _ _ _
   have hC2m:C2≤maxLen:=by rw [hC2];exact grownCap_le_maxLen _ _ _ _ (by unfold maxLen;omega)
   rw [← hC2] at hap
   obtain ⟨N0,hN0⟩:∃ N0:Array Value,N0=((RwR.flat xs).take (i*2)).toArray++Builtin.zeroCells (Value.agg #[(.int .u32 0),(.int .i64 0)]).cells kk++Builtin.zeroCells (Value.agg #[(.int .u32 0),(.int .i64 0)]).cells (C2 - (n+1)):=⟨_,rfl⟩
   rw [← hN0] at hap
   have hN0s:N0.size=C2*2:=by rw [hN0,Array.size_append,Array.size_append,List.size_toArray,hol,RwR.zero_len,RwR.zero_len];omega
   have hN0l:N0.toList.length=C2*2:=by rw [Array.length_toList,hN0s]
   have hN0t:N0.toList.take (i*2)=(RwR.flat xs).take (i*2):=by
    rw [hN0,Array.toList_append,Array.toList_append,List.toList_toArray,List.append_assoc,List.take_append_of_le_length (by rw [hol];exact Nat.le_refl _),List.take_of_length_le (by rw [hol];exact Nat.le_refl _)]
   have hb0:(W.alloc (.cells N0 76)).drew.heap[W.heap.size]? = some (.cells N0 76 (0,0)):=blk_drew (blk_new W _)
   have hl2:(RwR.cells2 p).length=2:=rfl
   obtain ⟨N1,hN1⟩:∃ N1:Array Value,N1=(N0.toList.take (i*2)++RwR.cells2 p++N0.toList.drop (i*2+(RwR.cells2 p).length)).toArray:=⟨_,rfl⟩
   have hN1s:N1.size=C2*2:=by rw [hN1];simp only [List.size_toArray,List.length_append,List.length_take,List.length_drop,hN0l,hl2];omega
   have hN1l:N1.toList.length=C2*2:=by rw [Array.length_toList,hN1s]
   have hr1:=RwR.run_copy_cells (P:=Try.prog) (W.alloc (.cells N0 76)).drew 56 56 3 76 W.heap.size (i*2) (n+1 - i) (C2 - i) ⟨vb,0,none⟩ 1 1 N0 76 (RwR.cells2 p) 1 2 Try.underlying56 (by kernel_rfl) hb0 (by show 1=min _ _;omega) rfl (fun j u hj=>by
     rw [hadd,Nat.zero_add,blk_cell (blk_drew (blk_alloc hV _))]
     simpa [RwR.cells2] using hj) (by rw [hN0s,hl2];omega) hpl1
   rw [← hN1] at hr1
   obtain ⟨N2,hN2⟩:∃ N2:Array Value,N2=(N1.toList.take ((i+1)*2)++flatR2 xs i++N1.toList.drop ((i+1)*2+(flatR2 xs i).length)).toArray:=⟨_,rfl⟩
   have hN2s:N2.size=C2*2:=by rw [hN2];simp only [List.size_toArray,List.length_append,List.length_take,List.length_drop,hN1l,hXl];omega
   have hgne:g≠W.heap.size:=by omega
   have hb1:((W.alloc (.cells N0 76)).drew.setRow W.heap.size N1).heap[W.heap.size]? = some (.cells N1 76 (0,0)):=setRow_heap _ _ N0 _ 76 (0,0) hb0
   have hg1:((W.alloc (.cells N0 76)).drew.setRow W.heap.size N1).heap[g]? = some (.cells cur 76 (0,0)):=by
    rw [setRow_other _ _ _ _ hgne];exact blk_drew (blk_alloc hg _)
   have hr2:=RwR.run_copy_cells (P:=Try.prog) ((W.alloc (.cells N0 76)).drew.setRow W.heap.size N1).drew 56 56 3 76 W.heap.size ((i+1)*2) (n - i) (C2 - (i+1)) ⟨g,i*2,none⟩ (n - i) (c - i) N1 76 (flatR2 xs i) (n - i) 2 Try.underlying56 (by kernel_rfl) (blk_drew hb1) (by show n - i=min _ _;omega) hXl (fun j u hj=>by
     rw [hadd,blk_cell (blk_drew hg1),← blk_cell hg]
     exact hcells j u hj) (by rw [hN1s,hXl];omega) hfl1
   rw [← hN2] at hr2
   have e1:N1.toList.take ((i+1)*2)=(RwR.flat xs).take (i*2)++RwR.cells2 p:=by
    have hl3:((RwR.flat xs).take (i*2)++RwR.cells2 p).length=(i+1)*2:=by rw [List.length_append,hol,hl2];omega
    rw [hN1,List.toList_toArray,hN0t,← hl3,List.take_left]
   have hNew:N2.toList.take ((n+1)*2)=RwR.flat (xs.take i++p::xs.drop i):=by
    have hln:((RwR.flat xs).take (i*2)++RwR.cells2 p++flatR2 xs i).length=(n+1)*2:=by
     rw [List.length_append,List.length_append,hol,hXl,hl2];omega
    rw [hN2,List.toList_toArray,e1,hfin,← hln,List.take_left]
   have HFR:=am (RwR.flat_R (w:=((W.alloc (.cells N0 76)).drew.setRow W.heap.size N1).drew.setRow W.heap.size N2) (base:=base) (ok:=fun _=>True) (v:=.slice (some ⟨W.heap.size,0,none⟩) (n+1) C2) (xs:=xs.take i++p::xs.drop i) ⟨RwR.flat_len _,.inr ⟨W.heap.size,C2,N2,by rw [hflen],hbase,setRow_heap _ _ N1 _ 76 (0,0) (blk_drew hb1),by rw [hflen];exact hC2n,hC2m,hN2s,by rw [hflen];exact hNew⟩⟩ (fun _ _=>trivial))
   have HBE:=am (RwR.below_turn (below_drew1 (RwR.below_turn (below_drew1 ((Below.refl base W).alloc hbase (.cells N0 76))) hbase N1)) hbase N2)
   have hcb:decide ((c:Int) < (n:Int)+1)=true:=decide_eq_true (by omega)
   have hci2:¬ (C2=i):=by omega
   have hci3:¬ (C2=i+1):=by omega
   have hic:i≤c:=by omega
   have g3:(0:Int)≤(i:Int)+1:=by omega
   have g4:((i:Int)+1).toNat=i+1:=by omega
   have g5:(i:Int)+1≤(n:Int)+1:=by omega
   have g6:i≤n+1:=by omega
   have g12:(i:Int)≤(n:Int)+1:=by omega
   have g8:=HW1.out
   have g9:=HW3.out
   have g13':wrap64 ((n:Int)+1 - (i:Int))=(kk:Int):=by rw [hkk];exact HW4.out
   have G13:=am g13'
   clear g13'
   have G11:=am hr2
   have HAP:=am hap
   clear hap hr2 e1 hNew hN0 hN1 hN2 hN0s hN1s hN2s hN0l hN1l hN0t hb0 hb1 hg1 hgne hl2 hcap hfin hflen hXl hfl1 hpl1 hadd hcells hcl hcs htk hg hV hO hne hl hlt hp0 hi hn hin hnc hglt hvlt hgv hbg hC2 hC2n hC2m hsum hkk hol hocell hi0 hz3
   go_enter Try.func56,Try.ntmps56
   go_wp2_with ((with_reducible refine gate_builtin (b:=.append) (xs:=#[.tmp 34,.tmp 39]) rfl ?_);at_builtin;refine RwR.append_ev W rfl (.tmp 34) (.tmp 39) 56 3 rfl (.slice (some ⟨g,0,none⟩) i c) (.int .i64 (kk:Int)) rfl (congrArg (Value.int .i64) G13.out) HAP.out ?_)
   refine start_ (n:=9) (S:=fun w'=>True) (ds:=[]) _ (by kernel_rfl) rfl rfl trivial (fun hHeld=>?_)
   refine pK 0 46 ?_;refine pK 1 47 ?_;refine pK 2 48 ?_;refine pK 3 49 ?_;refine pK 4 50 ?_;refine pK 5 51 ?_;refine pK 6 52 ?_;refine pK 7 53 ?_
   refine oK 8 (some 54) (fun K hK=>?_)
   refine RwR.copy_step ((W.alloc (.cells N0 76)).drew.setRow W.heap.size N1).drew (by rfl) (.tmp 50) (.tmp 53) 56 56 rfl (.slice (some ⟨W.heap.size,(i+1)*2,none⟩) (n - i) (C2 - (i+1))) (.slice (some ⟨g,i*2,none⟩) (n - i) (c - i)) rfl rfl (v':=goInt ((n - i:Nat):Int)) (w':=((W.alloc (.cells N0 76)).drew.setRow W.heap.size N1).drew.setRow W.heap.size N2) G11.out ?_
   refine hK.out _ _ trivial (fun hHeld=>?_)
   clear hK K;refine norm_ (a':=?_) ?_ ?_;rotate_left
   ·show Act.put _ (some 54) _=_
    simp only [Act.put,sIb,sC0,sCs,i64_w,i32_w];rfl
   refine done_ (by kernel_rfl) ?_
   go_wp2;go_ret
   exact ⟨_,rfl,HFR.out,HBE.out⟩
  ·have hcap':n+1≤c:=by omega
   obtain ⟨N1,hN1⟩:∃ N1:Array Value,N1=(cur.toList.take ((i+1)*2)++flatR2 xs i++cur.toList.drop ((i+1)*2+(flatR2 xs i).length)).toArray:=⟨_,rfl⟩
   have hN1s:N1.size=cur.size:=by rw [hN1];simp only [List.size_toArray,List.length_append,List.length_take,List.length_drop,hXl,hcl,hcs];omega
   have hN1l:N1.toList.length=c*2:=by rw [Array.length_toList,hN1s,hcs]
   have hr1:∀ W2:World,W2.heap=W.heap→∀ c1 c2,(Builtin.copy_ #[56,56] 3 #[.slice (some ⟨g,(i+1)*2,none⟩) (n - i) c1,.slice (some ⟨g,i*2,none⟩) (n+1 - i) c2]).run Try.prog W2=.ok (goInt ((n - i:Nat):Int)) (W2.setRow g N1):=by
    intro W2 hW2 c1 c2
    have h:=RwR.run_copy_cells (P:=Try.prog) W2 56 56 3 76 g ((i+1)*2) (n - i) c1 ⟨g,i*2,none⟩ (n+1 - i) c2 cur 76 (flatR2 xs i) (n - i) 2 Try.underlying56 (by kernel_rfl) (by rw [hW2];exact hg) (by show n - i=min _ _;omega) hXl (fun j u hj=>by
     rw [hadd]
     have:=hcells j u hj
     unfold World.cell? at this ⊢
     rw [hW2];exact this) (by rw [hXl,hcs];omega) hfl1
    rw [← hN1] at h
    exact h
   obtain ⟨N2,hN2⟩:∃ N2:Array Value,N2=(N1.toList.take (i*2)++RwR.cells2 p++N1.toList.drop (i*2+(RwR.cells2 p).length)).toArray:=⟨_,rfl⟩
   have hN2s:N2.size=cur.size:=by rw [hN2];simp only [List.size_toArray,List.length_append,List.length_take,List.length_drop,hN1l,hcs];simp only [RwR.cells2,List.length_cons,List.length_nil];omega
   have hr2:∀ W2:World,W2.heap=W.heap→∀ c1,(Builtin.copy_ #[56,56] 3 #[.slice (some ⟨g,i*2,none⟩) (n+1 - i) c1,.slice (some ⟨vb,0,none⟩) 1 1]).run Try.prog (W2.setRow g N1)=.ok (goInt 1) ((W2.setRow g N1).setRow g N2):=by
    intro W2 hW2 c1
    have h:=RwR.run_copy_cells (P:=Try.prog) (W2.setRow g N1) 56 56 3 76 g (i*2) (n+1 - i) c1 ⟨vb,0,none⟩ 1 1 N1 76 (RwR.cells2 p) 1 2 Try.underlying56 (by kernel_rfl) (setRow_heap _ _ cur _ 76 (0,0) (by rw [hW2];exact hg)) (by show 1=min _ _;omega) rfl (fun j u hj=>by
     rw [hadd]
     have hv2:(W2.setRow g N1).heap[vb]? = some (.cells #[.int .u32 p.f0,.int .i64 p.f1] 76 (0,0)):=by rw [setRow_other _ _ _ _ (fun e=>hgv e.symm),hW2];exact hV
     rw [Nat.zero_add,blk_cell hv2]
     simpa [RwR.cells2] using hj) (by rw [hN1s,hcs];simp only [RwR.cells2,List.length_cons,List.length_nil];omega) hpl1
    rw [← hN2] at h
    exact h
   have e1:N1.toList.take (i*2)=(RwR.flat xs).take (i*2):=by
    rw [hN1,List.toList_toArray,List.append_assoc,List.take_append_of_le_length (by rw [List.length_take,hcl];omega),List.take_take,Nat.min_eq_left (by omega),← htk,List.take_take,Nat.min_eq_left (by omega)]
   have e2:N1.toList.drop (i*2+2)=flatR2 xs i++cur.toList.drop ((i+1)*2+(flatR2 xs i).length):=by
    have hl2:(cur.toList.take ((i+1)*2)).length=i*2+2:=by rw [List.length_take,hcl];omega
    rw [hN1,List.toList_toArray,List.append_assoc,← hl2,List.drop_left]
   have hNew:N2.toList.take ((n+1)*2)=RwR.flat (xs.take i++p::xs.drop i):=by
    have hln:((RwR.flat xs).take (i*2)++RwR.cells2 p++flatR2 xs i).length=(n+1)*2:=by
     rw [List.length_append,List.length_append,List.length_take,RwR.flat_len,hXl,hn,show (RwR.cells2 p).length=2 from rfl];omega
    rw [hN2,List.toList_toArray,e1,show (RwR.cells2 p).length=2 from rfl,e2,← List.append_assoc,hfin,← hln,List.take_left]
   have hov:∀ lb cb,(callFunc 75 #[.slice (some ⟨vb,0,none⟩) 1 1,.slice (some ⟨g,(i+1)*2,none⟩) lb cb]).run Try.prog W=.ok (.value (.bool false)) W:=fun lb cb=>by
    rw [run_callFunc_extern Try.func75 (by kernel_rfl) (by kernel_rfl) (by kernel_rfl) (e:=Extern.SlicesOverlaps.overlaps #[56,56] #[4]) (by kernel_rfl),
     Lib.run_overlaps_apart W 56 4 76 Try.underlying56 2 Try.sizeOf76 ⟨vb,0,none⟩ ⟨g,(i+1)*2,none⟩ 1 1 lb cb (fun e=>hgv e.symm) 76 76 2 cur.size (by simp [World.shape?,hV]) (by simp [World.shape?,hg]) (by rw [hcs];omega) (blk_frozen hV 0) (blk_frozen hV 2)]
    rfl
   have HFR:=am (RwR.flat_R (w:=(W.drew.setRow g N1).setRow g N2) (base:=base) (ok:=fun _=>True) (v:=.slice (some ⟨g,0,none⟩) (n+1) c) (xs:=xs.take i++p::xs.drop i) ⟨RwR.flat_len _,.inr ⟨g,c,N2,by rw [hflen],hbg,setRow_heap _ _ N1 _ 76 (0,0) (setRow_heap _ _ cur _ 76 (0,0) hg),by rw [hflen];exact hcap',HCM.out,by rw [hN2s,hcs],by rw [hflen];exact hNew⟩⟩ (fun _ _=>trivial))
   have HBE:=am (RwR.below_turn (RwR.below_turn (below_drew1 (Below.refl base W)) hbg N1) hbg N2)
   have hcb:decide ((c:Int) < (n:Int)+1)=false:=decide_eq_false (by omega)
   have hci1:¬ (c=i+1):=by omega
   have g1:(0:Int)≤(n:Int)+1:=by omega
   have g2:((n:Int)+1).toNat=n+1:=by omega
   have g3:(0:Int)≤(i:Int)+1:=by omega
   have g4:((i:Int)+1).toNat=i+1:=by omega
   have g5:(i:Int)+1≤(n:Int)+1:=by omega
   have g6:i≤n+1:=by omega
   have g12:(i:Int)≤(n:Int)+1:=by omega
   have g7:(n:Int)+1≤(c:Int):=by omega
   have g8:=HW1.out
   have g9:=HW3.out
   have g10:=hr1 W.drew rfl
   have g11:=hr2 W.drew rfl
   clear e1 e2 hNew hN1 hN2 hN1s hN2s hN1l hr1 hr2 hcap hfin hflen hXl hfl1 hpl1 hadd hcells hcl hcs htk hg hV hO hne hl hlt hp0 hi hn hin hnc hglt hvlt hgv hbg
   go_enter Try.func56,Try.ntmps56
   go_wp2
   have G10:=am g10
   have G11:=am g11
   clear g10 g11
   refine start_ (n:=9) (S:=fun w'=>True) (ds:=[]) _ (by kernel_rfl) rfl rfl trivial (fun hHeld=>?_)
   refine pK 0 69 ?_;refine pK 1 70 ?_;refine pK 2 71 ?_;refine pK 3 72 ?_;refine pK 4 73 ?_;refine pK 5 74 ?_;refine pK 6 75 ?_;refine pK 7 76 ?_
   refine oK 8 (some 77) (fun K hK=>?_)
   refine RwR.copy_step W.drew (by rfl) (.tmp 73) (.tmp 76) 56 56 rfl (.slice (some ⟨g,(i+1)*2,none⟩) (n - i) (c - (i+1))) (.slice (some ⟨g,i*2,none⟩) (n+1 - i) (c - i)) rfl rfl (v':=goInt ((n - i:Nat):Int)) (w':=W.drew.setRow g N1) (G10.out _ _) ?_
   refine hK.out _ _ trivial (fun hHeld=>?_)
   clear hK K;refine norm_ (a':=?_) ?_ ?_;rotate_left
   ·show Act.put _ (some 77) _=_
    simp only [Act.put,sIb,sC0,sCs,i64_w,i32_w];rfl
   refine done_ (by kernel_rfl) ?_
   have g11:=G11.out
   go_wp2;go_ret
   exact ⟨_,rfl,HFR.out,HBE.out⟩
def htree_row_57.f (l0:List S76):Option (List S76):=if l0.length < 4398046511104 then some l0 else none
set_option maxHeartbeats 8000000 in
set_option maxRecDepth 100000 in
theorem htree_row_57.calls (A0:Option Addr) (c0:Nat) (l0:List (S76)) (r:List (S76)) (w:World) (hr0:Kd.C k76 w A0 l0.length l0) (hc0:l0.length≤c0) (h:htree_row_57.f l0=some r) :
  Calls Try.prog 57 #[.slice A0 l0.length c0] w fun e w'=>∃ v0_:Value,e=.returned (v0_)∧Kd.R k76 76 w' w.heap.size (fun _=>True) v0_ r∧Below w.heap.size w w':=by
 unfold htree_row_57.f at h
 by_cases hl:l0.length < 4398046511104
 ·rw [if_pos hl] at h
  obtain rfl:=Option.some.inj h
  have hu26:=Try.underlying76
  cases A0 with
  | none =>
   obtain rfl:l0=[]:=by
    rcases Nat.eq_zero_or_pos l0.length with h0|h0
    ·exact List.eq_nil_of_length_eq_zero h0
    ·obtain ⟨ad,e,_⟩:=hr0.2.2 h0
     cases e
   clear hr0
   have hq:=fun W:World=>eql_nil (P:=Try.prog) W 56 76 none 0 c0 0 0 Try.underlying56
   simp only [Option.isNone_none] at hq
   go_enter Try.func57,Try.ntmps57
   go_wp2;go_ret
   exact ⟨_,rfl,Kd.R_nil _ _ _ _ _,Below.refl _ _⟩
  | some ad =>
   have HR0:=am hr0
   have HC0:=am hc0
   have HL:=am hl
   clear hr0 hc0 hl h
   have hq:=fun W:World=>eql_nil (P:=Try.prog) W 56 76 (some ad) l0.length c0 0 0 Try.underlying56
   simp only [Option.isNone_some] at hq
   go_enter Try.func57,Try.ntmps57
   go_wp2_with (first|((with_reducible refine gate_builtin (b:=.append) (xs:=#[.tmp 5,.tmp 6]) rfl ?_);at_builtin;refine Kd.R_append_rows k76 (w0:=w) w.heap.size rfl (.tmp 5) (.tmp 6) 56 76 (.agg #[(.int .u32 0),(.int .i64 0)]) 16 rfl Try.underlying56 info76 rfl (by decide) (by omega) v1 [] l0 _ _ _ (fun _=>True) (fun _=>False) rfl rfl ho1.out (Kd.C_below HR0.out hb1.out) (fun _ _ h=>h) (fun _ h=>h.elim) (fun _ _=>trivial) hb1.out hb1.out.size (by have:=HL.out;simp only [List.length_nil];omega) ?_;intro v2 w2 ho2 hb2 hg2 hat2;rw [List.nil_append] at ho2;have HO2:=am ho2;have HB2:=am hb2;clear ho2 hb2 hg2 hat2)|((with_reducible refine gate_dst (N:=5) rfl ?_);refine Kd.R_lit k76 (w0:=w) _ 76 ?hg (N:=5) ?hd (xs:=([]:List S76)) (inner:=[]) (ok:=fun _=>True) (okp:=fun _=>True) ?hr ?hp (fun _ hk=>hk) trivial (Below.refl _ _) (Nat.le_refl _) (by simp) ?_;(case hd=>rfl);(case hg=>rfl);(case hr=>first|(go_simp;done)|(go_simp;rfl));(case hp=>exact (Reps.none _ _));intro v1 w1 ho1' hb1' hg1 hn1;have ho1:=am ho1';have hb1:=am hb1';clear ho1' hb1' hg1 hn1))
   go_ret
   exact ⟨_,rfl,HO2.out,HB2.out⟩
 ·rw [if_neg hl] at h
  cases h
theorem upP_lt (l:List S30):∀ (n c k:Nat),Ht.upP l c n=some k→c≤k∧k < c+n
 | 0,c,k,h=>by cases h
 | n+1,c,k,h=>by
  unfold Ht.upP at h
  split at h
  ·cases h;omega
  ·have:=upP_lt l n (c+1) k h;omega
theorem downP_le (l:List S30):∀ n,Ht.downP l n≤n
 | 0=>Nat.le_refl _
 | n+1=>by
  unfold Ht.downP
  split
  ·exact Nat.le_refl _
  ·have:=downP_le l n;omega
theorem cutP_lt {l:List S30} (h:0 < l.length):Ht.cutP l < l.length:=by
 unfold Ht.cutP
 cases e:Ht.upP l ((l.length+1) / 2) (l.length - (l.length+1) / 2) with
 | none =>
  have:=downP_le l ((l.length+1) / 2 - 1)
  show Ht.downP l _ < _
  omega
 | some k =>
  have:=upP_lt l _ _ _ e
  show k < _
  omega
theorem right_apart {l:List S30} (h:Lf.right none l=true):Ht.Apart Ht.ltE l∧Ht.Apart Ht.ltN l :=
 ⟨(Ht.right_iff.1 h).2.imp (fun {a b} h=>Ht.ltE_or (Od.less_ne h)),(Ht.right_iff.1 h).2.imp (fun {a b} h=>Ht.ltN_or (Od.less_ne h))⟩
theorem cut_lo (g n c j:Nat) (hj:j≤n) (hc:n≤c) (W:World):(Instr.slice 26 (.slice (some ⟨g,0,none⟩) n c) none (some (.int .i64 (j:Int))) none).run Try.prog W=.ok (.slice (some ⟨g,0,none⟩) j c) W:=by
 obtain ⟨i0,hi0,_,hsz,_⟩:=info_parts info30
 have:=cut_to (P:=Try.prog) 26 30 .i64 Try.underlying26 hi0 (some ⟨g,0,none⟩) n c (j:Int) (by omega) (by omega) hc W
 rw [Int.toNat_natCast] at this
 exact this
theorem cut_hi (g n c j:Nat) (hj:j < n) (hc:n≤c) (W:World):(Instr.slice 26 (.slice (some ⟨g,0,none⟩) n c) (some (.int .i64 (j:Int))) none none).run Try.prog W=.ok (.slice (some ⟨g,j*2,none⟩) (n - j) (c - j)) W:=by
 have hel:Try.prog.elem 26=30:=by simp [Program.elem,Try.underlying26]
 have hu:Try.prog.underlying 26=some (.slice (Try.prog.elem 26)):=by rw [hel];exact Try.underlying26
 obtain ⟨i0,hi0,_,hsz,_⟩:=info_parts info30
 have h1:=run_slice_l W 26 (some ⟨g,0,none⟩) n c hu .i64 (j:Int) (by omega) (by omega)
 rw [hel] at h1
 rw [h1]
 have h2:¬ c=j:=by omega
 simp [sizeOf,typeInfo,hi0,hsz,sliced,Result.andThen,h2,Addr.add]
 intro h;omega
theorem splitP_none {d:List (List Int)} {rs:List S76} {a:Nat} {l s:List S30} {c:Nat} (hs:Ht.isort Ht.ltE l=s) (hc:Ht.cutP s=c) (h:c=0∨rs.length=30):Ht.splitP d rs a l=([],9):=by
 unfold Ht.splitP
 rw [hs]
 dsimp only
 rw [hc,if_pos h]
theorem splitP_some {d:List (List Int)} {rs:List S76} {a:Nat} {l s:List S30} {c:Nat} (hs:Ht.isort Ht.ltE l=s) (hc:Ht.cutP s=c) (h:¬ (c=0∨rs.length=30)) {eb0 eb1:List Int} {e0 e1:Int} (h0:Lf.encR (Ht.isort Ht.ltN (s.take c))=(eb0,e0)) (h1:Lf.encR (Ht.isort Ht.ltN (s.drop c))=(eb1,e1)) :
  Ht.splitP d rs a l=if e0≠0 then ([],e0) else if e1≠0 then ([],e1) else if d.length=1 then ([Ht.ixB [⟨0,1⟩,⟨Ht.sumN (s.getD c ⟨⟨#[]⟩,0⟩).f0,2⟩],eb0,eb1],0) else
   (((d++[eb1]).set (rs.getD a ⟨0,0⟩).f1.toNat eb0).set 0 (Ht.ixB (rs.take (a+1)++⟨Ht.sumN (s.getD c ⟨⟨#[]⟩,0⟩).f0,d.length⟩::rs.drop (a+1))),0):=by
 unfold Ht.splitP
 rw [hs]
 dsimp only
 rw [hc,if_neg h,h0,h1]
theorem S_append_at_step {ops:Array Oper} {o:Oper} {a:Act} {Q:Exit→Act→World→Prop} {Kc:Act→World→Prop} {w0 W:World} (base:Nat) (hw:Region.wanted o (yielded ops a.tmps)=true) (s x:Operand)
  (ho:o.op=.call { callee:=.builtin .append,args:=#[s,x],argTypes:=#[22,22] }) (v:Value) (xs:List (List Int)) (p:List Int) (u:Value) (vb:Nat) (ok okp:Nat→Prop) (hs:a.eval s=v) (hx:a.eval x=.slice (some ⟨vb,0,none⟩) 1 1) (hV:W.heap[vb]? = some (.cells #[u] 66 (0,0)))
  (hp:Kd.R (Kd.int .u8) 5 W base okp u p) (hokp:∀ k,okp k→ok k∧some k≠v.ownBlock) (hfresh:∀ k,W.heap.size≤k→ok k) (HO:Kd.S kRw 66 W base (fun k=>ok k∧¬ okp k) v xs) (HB:Below base w0 W) (hbase:base≤W.heap.size) (hl:(xs.length+1)*24≤140737488355328)
  (h:∀ v1 w1,Kd.S kRw 66 w1 base ok v1 (xs++[p])→Below base w0 w1→W.grownBy w1 v.ownBlock→Kc (a.put o.dst v1) w1) :
  if Region.wanted o (yielded ops a.tmps)=true then Oper.wp Try.prog o a W Kc Q else Kc (a.put o.dst undef) W:=by
 obtain ⟨f,hf,hR⟩:=Kd.S_tag HO xs.length okp (fun _ hk h2=>h2.2 hk)
 obtain ⟨h0,inner,hown,hr⟩:=Kd.R_mono hR (fun _ hk=>hk.1)
 have hM:(Kd.tag f kRw).M W base ok (p,xs.length) [u]:=(Kd.tag f kRw).M_mono (fun k hk=>hk) (kRw.M_mono (fun k hk=>⟨(hokp k hk).1,hf k hk⟩) ⟨u,rfl,hp⟩)
 obtain ⟨i0,hi,hzz⟩:=Option.map_eq_some_iff.1 info66
 simp only [Prod.mk.injEq] at hzz
 have hu1:=(Kd.R_val hp).2
 rw [if_pos hw]
 obtain ⟨v1,w1,hrr,hown1,hg,_,hat⟩:=run_append_own_at (P:=Try.prog) W base 22 o.type 66 i0 (.slice none 0 0) 1 24 Try.underlying22 hi hzz.1 hzz.2.1 hzz.2.2 rfl (by decide) v xs.zipIdx.length inner hown ⟨vb,0,none⟩ 1 1 [u] (by simp)
  (fun j q hj=>by rw [Go.Proofs.YteglhbfhibfodaaW.PrintWords.add_plain,blk_cell hV j,← hj];simp) (fun q hq=>by rw [List.mem_singleton.1 hq];exact hu1) (by rw [List.length_zipIdx];unfold maxLen;omega) (by rw [List.length_zipIdx];exact hl) hbase
 unfold Oper.wp execOp
 simp only [ho,resolve,invoke,builtin,Sem.run_bind,Sem.run_pure,Result.andThen_ok,List.map_toArray,List.map_cons,List.map_nil,hs,hx,hrr]
 refine h v1 w1 ⟨f,?_⟩ (HB.grown hg hbase (own_base hown)) hg
 have hR1:=Kd.R_appended (d:=Kd.tag f kRw) (e:=66) (base:=base) (ok:=ok) (okp:=okp) (p:=(p,xs.length)) (cs:=[u]) h0 hr ((Kd.tag f kRw).M_mono (fun k hk=>hk) (kRw.M_mono (fun k hk=>⟨hk,hf k hk⟩) ⟨u,rfl,hp⟩)) hokp hfresh (by rw [List.length_zipIdx] at hown1 ⊢;exact hown1) hg (hat.imp id (fun e=>⟨_,e,Nat.le_refl _⟩))
 rw [← Kd.zip_snoc] at hR1
 exact hR1
theorem lits_three {W:World} {base b1 b2 b3 n10 n12:Nat} {u v x:Value} {X Y Z:List Int} (h1:Kd.R (Kd.int .u8) 5 W b1 (fun k=>n12≤k) u X) (h2:Kd.R (Kd.int .u8) 5 W b2 (fun k=>k < n10) v Y) (h3:Kd.R (Kd.int .u8) 5 W b3 (fun k=>n10≤k) x Z) (hz1:base≤b1) (hz:n10≤n12) (hz2:base≤b2) (hz3:base≤b3) (hz4:∀ k,x.ownBlock=some k→k < n12) :
  ∀ (j:Nat) (p:List Int),([X,Y,Z]:List (List Int))[j]? = some p→kRw.M W base (fun k=>(j=0∧n12≤k)∨(j=1∧k < n10)∨(j=2∧n10≤k∧k < n12)) p ((([u,v,x]:List Value).drop (j*kRw.sz)).take kRw.sz):=by
 intro j p hj
 match j,hj with
 | 0,hj=>obtain rfl:=Option.some.inj hj;exact ⟨u,rfl,Kd.R_mono (Kd.R_lower h1 hz1) (fun k hk=>.inl ⟨rfl,hk⟩)⟩
 | 1,hj=>obtain rfl:=Option.some.inj hj;exact ⟨v,rfl,Kd.R_mono (Kd.R_lower h2 hz2) (fun k hk=>.inr (.inl ⟨rfl,hk⟩))⟩
 | 2,hj =>
  obtain rfl:=Option.some.inj hj
  exact ⟨x,rfl,Kd.R_mono (Kd.R_tight rfl (Kd.R_lower h3 hz3)) (fun k hk=>.inr (.inr ⟨rfl,h3.1 k hk.symm,hz4 k hk.symm⟩))⟩
 | j+3,hj=>simp at hj
set_option maxHeartbeats 8000000 in
set_option maxRecDepth 100000 in
theorem split_calls (w0 w:World) (hw:Below w0.heap.size w0 w) (B:Nat) (A0:Option Addr) (c0:Nat) (d:List (List Int)) (rs:List S76) (ls:List (List S30)) (a:Nat)
  (hr0:Kd.C kRw w0 A0 d.length d) (hc0:d.length≤c0) (hT:TreeAt w0 B A0 c0 d.length rs ls) (hd:d.length≤31) (hdl:∀ b∈d,b.length≤140737488355328) (ha:a < rs.length) (hrs:Ht.RowsOk d.length rs)
  (g5 c5:Nat) (l:List S30) (hg5:w0.heap.size≤g5) (hR:Kd.R k30 30 w w0.heap.size (fun _=>True) (.slice (some ⟨g5,0,none⟩) l.length c5) l) (hlr:Lf.right none l=true) (h0:0 < l.length) (hl:l.length≤42) :
  Calls Try.prog 29 #[.pointer (some ⟨B,0,none⟩),.int .i64 (a:Int),.slice (some ⟨g5,0,none⟩) l.length c5] w fun e w'=>∃ v,e=.returned (.tuple #[v,.int .i64 (Ht.splitP d rs a l).2])∧Rows2 w' w0.heap.size v (Ht.splitP d rs a l).1∧Below w0.heap.size w0 w':=by
 obtain ⟨A1,c1,A2,c2,hT1,hT2,hT3,hT4,hT5⟩:=hT
 have HW:=am hw
 have HR0:=am hr0
 have HC0:=am hc0
 have HT1:=am hT1
 have HT2:=am hT2
 have HT3:=am hT3
 have HDL:=am (⟨hd,hdl⟩:d.length≤31∧∀ b∈d,b.length≤140737488355328)
 have HA:=am ha
 have HRS:=am hrs
 have HG5:=am hg5
 have HR:=am hR
 have HLR:=am hlr
 have HL0:=am h0
 have HL:=am hl
 have HAP:=am (right_apart hlr)
 have HZ:=am (show ∀ x∈l,x.f0.size < 512 from fun x hx=>by have:=Lf.okE_size (Ht.right_ok l _ hlr x hx);omega)
 obtain ⟨s,hs⟩:∃ s,Ht.isort Ht.ltE l=s:=⟨_,rfl⟩
 have HS:=am hs
 have HSP:=am (show s.Perm l from hs ▸ Ht.isort_perm _ _)
 have HSL:=am (show s.length=l.length from HSP.out.length_eq)
 have HZS:=am (show ∀ x∈s,x.f0.size < 512 from fun x hx=>HZ.out x (HSP.out.mem_iff.1 hx))
 obtain ⟨c,hc⟩:∃ c,Ht.cutP s=c:=⟨_,rfl⟩
 have HC:=am hc
 have HCL:=am (show c < l.length by rw [← hc,← HSL.out];exact cutP_lt (by rw [HSL.out];exact h0))
 have HRS0:=am (show (∀ W:World,Below w0.heap.size w0 W→W.cell? ⟨B,0,none⟩=some (.slice A0 d.length c0)) from fun W h=>(h.cell (World.block_lt_of_cell? _ _ ((blk_cell hT1 0).trans rfl))).trans ((blk_cell hT1 0).trans rfl))
 have HRS1:=am (show (∀ W:World,Below w0.heap.size w0 W→W.cell? ⟨B,1,none⟩=some (.slice A1 rs.length c1)) from fun W h=>(h.cell (World.block_lt_of_cell? _ _ ((blk_cell hT1 1).trans rfl))).trans ((blk_cell hT1 1).trans rfl))
 clear hw hr0 hc0 hT1 hT2 hT3 hT4 hT5 hd hdl ha hrs hg5 hR hlr h0 hl hs hc
 by_cases hc0:c=0
 ·rw [splitP_none HS.out HC.out (.inl hc0)]
  subst hc0
  go_enter Try.func29,Try.ntmps29
  go_wp2_with (first|(go_at_call 53;have hcc:=cut_calls w1 (some ⟨g5,0,none⟩) c5 s (by rw [HSL.out];have h:=Kd.R_reads' HR1.out;exact h.1 ▸ HSL.out ▸ h.2.2) (by rw [HSL.out];exact HL0.out) (by rw [HSL.out];have:=HL.out;omega) HZS.out;rw [HSL.out,HC.out] at hcc;refine hcc.mono ?_;rintro e w2 ⟨rfl,hb2⟩;have HW2:=am hb2;have HB2:=am (HB1.out.trans (hb2.mono HB1.out.size));have hcT:=HRS1.out w2 HB2.out;clear hb2 hcc)|(go_at_call 38;refine (sortO_calls w w0.heap.size g5 l.length c5 l HR.out HZ.out HAP.out.1 (by have:=HL.out;omega)).mono ?_;rintro e w1 hs1;have hb1:=hs1.below HG5.out;rw [Nat.min_eq_left HW.out.size] at hb1;rw [HS.out] at hs1;obtain ⟨rfl,hr1,-⟩:=hs1;have HR1:=am hr1;have HB1:=am (HW.out.trans hb1);clear hr1 hb1))
  go_ret2
  exact ⟨_,rfl,Kd.S_nil _ _ _ _ _,HB2.out⟩
 ·by_cases h30:rs.length=30
  ·rw [splitP_none HS.out HC.out (.inr h30)]
   have hcb:((c:Int)==0)=false:=beq_eq_false_iff_ne.2 (by omega)
   have h30b:((rs.length:Int)==30)=true:=beq_iff_eq.2 (by omega)
   clear hc0 h30
   go_enter Try.func29,Try.ntmps29
   go_wp2_with (first|(go_at_call 53;have hcc:=cut_calls w1 (some ⟨g5,0,none⟩) c5 s (by rw [HSL.out];have h:=Kd.R_reads' HR1.out;exact h.1 ▸ HSL.out ▸ h.2.2) (by rw [HSL.out];exact HL0.out) (by rw [HSL.out];have:=HL.out;omega) HZS.out;rw [HSL.out,HC.out] at hcc;refine hcc.mono ?_;rintro e w2 ⟨rfl,hb2⟩;have HW2:=am hb2;have HB2:=am (HB1.out.trans (hb2.mono HB1.out.size));have hcT:=HRS1.out w2 HB2.out;clear hb2 hcc)|(go_at_call 38;refine (sortO_calls w w0.heap.size g5 l.length c5 l HR.out HZ.out HAP.out.1 (by have:=HL.out;omega)).mono ?_;rintro e w1 hs1;have hb1:=hs1.below HG5.out;rw [Nat.min_eq_left HW.out.size] at hb1;rw [HS.out] at hs1;obtain ⟨rfl,hr1,-⟩:=hs1;have HR1:=am hr1;have HB1:=am (HW.out.trans hb1);clear hr1 hb1))
   go_ret2
   exact ⟨_,rfl,Kd.S_nil _ _ _ _ _,HB2.out⟩
  ·have HN30:=am (show ¬ (c=0∨rs.length=30) from fun h=>h.elim hc0 h30)
   have hcb:((c:Int)==0)=false:=beq_eq_false_iff_ne.2 (by omega)
   have h30b:((rs.length:Int)==30)=false:=beq_eq_false_iff_ne.2 (by omega)
   have HC1:=am (show 0 < c by omega)
   have hcll:=HCL.out
   obtain ⟨nm,hnm⟩:∃ nm,(s.getD c ⟨⟨#[]⟩,0⟩).f0=nm:=⟨_,rfl⟩
   have HNM:=am (show (s[c]'(by rw [HSL.out];exact HCL.out)).f0=nm by rw [← hnm,Ht.getD_at (by rw [HSL.out];exact HCL.out)])
   have HNM2:=am hnm
   obtain ⟨bd,hbd⟩:∃ bd,Ht.sumN nm=bd:=⟨_,rfl⟩
   obtain ⟨k2,hk2⟩:=(Ht.sum_ev nm (by rw [← HNM.out];exact HZS.out _ (List.getElem_mem _))).rounds
   rw [hbd] at hk2
   have HBD2:=am hbd
   have HBD:=am (show 0≤bd∧bd < 4294967296 from hbd ▸ Ht.sumN_nn nm)
   have HK2:=am hk2
   clear hc0 h30 hnm hbd hk2
   go_enter Try.func29,Try.ntmps29
   go_wp2_with (first|(go_at_call 34;refine (htree_sum.calls k2 nm bd _ HK2.out).mono ?_;rintro e w3 ⟨rfl,hb3⟩;have HW3:=am (HW2.out.trans (hb3.mono HW2.out.size));have HB3:=am (HB2.out.trans (hb3.mono HB2.out.size));clear hb3 hcT hcs)|(go_at_call 53;have hcc:=cut_calls w1 (some ⟨g5,0,none⟩) c5 s (by rw [HSL.out];have h:=Kd.R_reads' HR1.out;exact h.1 ▸ HSL.out ▸ h.2.2) (by rw [HSL.out];exact HL0.out) (by rw [HSL.out];have:=HL.out;omega) HZS.out;rw [HSL.out,HC.out] at hcc;refine hcc.mono ?_;rintro e w2 ⟨rfl,hb2⟩;have HW2:=am hb2;have HB2:=am (HB1.out.trans (hb2.mono HB1.out.size));have hcT:=HRS1.out w2 HB2.out;have hcs:w2.cell? ⟨g5,c*2,none⟩=some (.string nm):=(by obtain ⟨ad_,ea_,hx_,-⟩:=at_T30 (Kd.R_reads' HR1.out).2.2 (c:Int) (by omega) (by have:=HSL.out;have:=HCL.out;omega);cases ea_;rw [Int.toNat_natCast,Lf.rdT_get (by rw [HSL.out];exact HCL.out),HNM.out] at hx_;have hy_:=(hb2.cell (World.block_lt_of_cell? _ _ hx_)).trans hx_;rw [add_plain] at hy_;simpa using hy_);clear hb2 hcc)|(go_at_call 38;refine (sortO_calls w w0.heap.size g5 l.length c5 l HR.out HZ.out HAP.out.1 (by have:=HL.out;omega)).mono ?_;rintro e w1 hs1;have hb1:=hs1.below HG5.out;rw [Nat.min_eq_left HW.out.size] at hb1;rw [HS.out] at hs1;obtain ⟨rfl,hr1,-⟩:=hs1;have HR1:=am hr1;have HB1:=am (HW.out.trans hb1);clear hr1 hb1))
   have HR3:=am (Kd.R_below HR1.out HW3.out)
   have hP:=blk_new w3 (.cells #[.slice none 0 0,.slice none 0 0] 96)
   have hbP:=(Below.refl w3.heap.size w3).alloc (Nat.le_refl _) (.cells #[.slice none 0 0,.slice none 0 0] 96)
   generalize (w3.alloc (.cells #[.slice none 0 0,.slice none 0 0] 96))=w4 at hP hbP ⊢
   have HPG:=am (show w0.heap.size≤w3.heap.size from HB3.out.size)
   generalize hPn:w3.heap.size=P at hP hbP HPG ⊢
   have HP4:=am hP
   have HB4:=am (HB3.out.trans (hbP.mono HPG.out))
   have hr4:=Kd.R_below HR3.out (by rw [hPn];exact hbP)
   rw [← HSL.out] at hr4
   have hrd:=Kd.R_reads' hr4
   have HR4:=am hr4
   have HC4:=am (show k30.C w4 (some ⟨g5,0,none⟩) s.length s from hrd.2.2)
   have HC5:=am (show s.length≤c5 from hrd.2.1)
   have hcl0:=cut_lo g5 l.length c5 c (by have:=HCL.out;omega) (by have:=HC5.out;rw [HSL.out] at this;exact this)
   have hcl1:=cut_hi g5 l.length c5 c HCL.out (by have:=HC5.out;rw [HSL.out] at this;exact this)
   have HCL0:=am (show k30.C w4 (some ⟨g5,0,none⟩) (s.take c).length (s.take c) from Kd.C_take HC4.out (by have:=HSL.out;have:=HCL.out;omega))
   have HCL1:=am (show k30.C w4 (some ⟨g5,c*2,none⟩) (s.drop c).length (s.drop c) by
    have:=Kd.C_mid (lo:=c) (hi:=s.length) HC4.out (by have:=HSL.out;have:=HCL.out;omega) (Nat.le_refl _) HC5.out
    rw [if_neg (by have:=HC5.out;have:=HSL.out;have:=HCL.out;omega),List.take_length] at this
    have e:(some (⟨g5,0,none⟩:Addr)).map (·.add (c*k30.sz))=some ⟨g5,c*2,none⟩:=by
     show some ((⟨g5,0,none⟩:Addr).add (c*2))=_
     rw [Go.Proofs.YteglhbfhibfodaaW.PrintWords.add_plain]
    rw [e] at this
    exact this)
   have HLT:=am (show (s.take c).length=c by rw [List.length_take];have:=HSL.out;have:=HCL.out;omega)
   have HLD:=am (show (s.drop c).length=l.length - c by rw [List.length_drop,HSL.out])
   obtain ⟨pa,hpa⟩:∃ pa,s.take c=pa:=⟨_,rfl⟩
   obtain ⟨pb,hpb⟩:∃ pb,s.drop c=pb:=⟨_,rfl⟩
   have HPA:=am (⟨hpa,hpb⟩:s.take c=pa∧s.drop c=pb)
   rw [hpa] at HCL0 HLT
   rw [hpb] at HCL1 HLD
   have hb4:=below_drew1 (Below.refl w4.heap.size w4)
   clear hP hbP hr4 hrd hpa hpb hPn
   refine start_ (n:=10) (S:=fun w'=>Below w4.heap.size w4 w') (ds:=[]) _ (by kernel_rfl) rfl rfl (hb4) (fun hHeld=>?_)
   refine pK 0 36 ?_;refine pK 1 37 ?_;refine pK 2 38 ?_;refine pK 4 40 ?_;refine pK 5 41 ?_;refine pK 6 42 ?_;refine pK 9 45 ?_
   refine oK 3 (some 39) (fun K hK=>?_)
   refine gS Try.func27 #[.slice (some ⟨g5,0,none⟩) c c5] ?_
   with_reducible refine (HLT.out ▸ api_Name_27.calls (some ⟨g5,0,none⟩) c5 pa pa _ (Kd.C_drew HCL0.out) (by have:=HLT.out;have:=HC5.out;have:=HSL.out;have:=HCL.out;omega) (by unfold api_Name_27.f;rw [if_pos (by have:=HLT.out;have:=HL.out;have:=HCL.out;omega)])).mono ?_
   rintro e5 w5 ⟨v5,rfl,ho5,hb5⟩
   refine ⟨_,rfl,?_⟩
   obtain ⟨g6,c6,rfl,hg6,-⟩:=Kd.R_form ho5 (by have:=HLT.out;have:=HC1.out;omega)
   have HO5:=am ho5
   have HG6:=am hg6
   have hb45:=hb4.trans (hb5.mono (Nat.le_refl _))
   have HB45:=am hb45
   clear ho5 hg6
   refine hK.out _ _ (hb45) (fun hHeld=>?_)
   clear hK K;refine norm_ (a':=?_) ?_ ?_;rotate_left
   ·show Act.put _ (some 39) _=_
    simp only [Act.put,sIb,sC0,sCs,i64_w,i32_w];rfl
   refine oK 7 (some 43) (fun K hK=>?_)
   refine gS Try.func27 #[.slice (some ⟨g5,c*2,none⟩) (l.length - c) (c5 - c)] ?_
   with_reducible refine (HLD.out ▸ api_Name_27.calls (some ⟨g5,c*2,none⟩) (c5 - c) pb pb _ (Kd.C_below HCL1.out HB45.out) (by have:=HLD.out;have:=HC5.out;have:=HSL.out;have:=HCL.out;omega) (by unfold api_Name_27.f;rw [if_pos (by have:=HLD.out;have:=HL.out;have:=HCL.out;omega)])).mono ?_
   rintro e6 w6 ⟨v6,rfl,ho6,hb6⟩
   refine ⟨_,rfl,?_⟩
   obtain ⟨g7,c7,rfl,hg7,-⟩:=Kd.R_form ho6 (by have:=HLD.out;have:=HCL.out;omega)
   have HO6:=am ho6
   have HG7:=am hg7
   have HB56:=am hb6
   have hb46:=hb45.trans (hb6.mono hb45.size)
   have HB46:=am hb46
   clear ho6 hg7
   refine hK.out _ _ (hb46) (fun hHeld=>?_)
   clear hK K;refine norm_ (a':=?_) ?_ ?_;rotate_left
   ·show Act.put _ (some 43) _=_
    simp only [Act.put,sIb,sC0,sCs,i64_w,i32_w];rfl
   refine pK 8 44 ?_
   refine done_ (by kernel_rfl) ?_
   clear hHeld hb6 hb46 hb45 hb5 hb4 hcl0 hcl1;go_wp2
   obtain ⟨qa,hqa⟩:∃ qa,Ht.isort Ht.ltN pa=qa:=⟨_,rfl⟩
   obtain ⟨qb,hqb⟩:∃ qb,Ht.isort Ht.ltN pb=qb:=⟨_,rfl⟩
   have HQA:=am (⟨hqa,hqb⟩:Ht.isort Ht.ltN pa=qa∧Ht.isort Ht.ltN pb=qb)
   have HQL:=am (⟨hqa ▸ (Ht.isort_perm _ _).length_eq,hqb ▸ (Ht.isort_perm _ _).length_eq⟩:qa.length=pa.length∧qb.length=pb.length)
   have HAPS:=am (show Ht.Apart Ht.ltN pa∧Ht.Apart Ht.ltN pb by
    have h:=Ht.Apart.perm HAP.out.2 HSP.out.symm
    exact ⟨HPA.out.1 ▸ List.Pairwise.sublist (List.take_sublist _ _) h,HPA.out.2 ▸ List.Pairwise.sublist (List.drop_sublist _ _) h⟩)
   have HZP:=am (show (∀ x∈pa,x.f0.size < 512)∧∀ x∈pb,x.f0.size < 512 from ⟨fun x hx=>HZS.out x (List.mem_of_mem_take (HPA.out.1 ▸ hx)),fun x hx=>HZS.out x (List.mem_of_mem_drop (HPA.out.2 ▸ hx))⟩)
   obtain ⟨⟨eb0,e0⟩,hee0⟩:∃ p,Lf.encR qa=p:=⟨_,rfl⟩
   obtain ⟨⟨eb1,e1⟩,hee1⟩:∃ p,Lf.encR qb=p:=⟨_,rfl⟩
   obtain ⟨ke0,hke0⟩:=(Lf.enc_ev qa (by have:=HQL.out;have:=HLT.out;have:=HL.out;have:=HCL.out;omega)).rounds
   obtain ⟨ke1,hke1⟩:=(Lf.enc_ev qb (by have:=HQL.out;have:=HLD.out;have:=HL.out;omega)).rounds
   rw [hee0] at hke0
   rw [hee1] at hke1
   have HKE:=am (⟨hke0,hke1⟩:leaf_Encode.f ke0 qa=some (eb0,e0)∧leaf_Encode.f ke1 qb=some (eb1,e1))
   have HEE:=am (⟨hee0,hee1⟩:Lf.encR qa=(eb0,e0)∧Lf.encR qb=(eb1,e1))
   have HR6a:=am (Kd.R_lower (base':=w0.heap.size) (Kd.R_below HO5.out HB56.out) HB4.out.size)
   have HR6b:=am (Kd.R_mono (ok':=fun k=>w5.heap.size≤k) (Kd.R_bound HO6.out) (fun k hk=>hk.2.1))
   have HB6:=am (HB4.out.trans (HB46.out.mono HB4.out.size))
   have HP6:=am (blk_below HP4.out HB46.out)
   have HPN:=am (show P < w4.heap.size from blk_lt HP4.out)
   have HG6b:=am (show g6 < w5.heap.size from Kd.R_lt HO5.out g6 rfl)
   have HB6s:=am (⟨HB45.out.size,HB56.out.size,HB4.out.size⟩:w4.heap.size≤w5.heap.size∧w5.heap.size≤w6.heap.size∧w0.heap.size≤w4.heap.size)
   have HGG:=am (⟨HG6.out,HG7.out,HB4.out.size⟩:w4.heap.size≤g6∧w5.heap.size≤g7∧w0.heap.size≤w4.heap.size)
   clear hqa hqb hee0 hee1 hke0 hke1
   have hix0:∀ W:World,(Instr.index 97 (.agg #[.slice (some ⟨g6,0,none⟩) pa.length c6,.slice (some ⟨g7,0,none⟩) pb.length c7]) (.int .i64 0)).run Try.prog W=.ok (.slice (some ⟨g6,0,none⟩) pa.length c6) W:=fun W=>by
    simp [Instr.index,Try.underlying97,Try.sizeOf26,go_sem]
   have hix1:∀ W:World,(Instr.index 97 (.agg #[.slice (some ⟨g6,0,none⟩) pa.length c6,.slice (some ⟨g7,0,none⟩) pb.length c7]) (.int .i64 1)).run Try.prog W=.ok (.slice (some ⟨g7,0,none⟩) pb.length c7) W:=fun W=>by
    simp [Instr.index,Try.underlying97,Try.sizeOf26,go_sem]
   refine wp_loop_rounds 3 ?_
   rw [rounds_succ]
   by_cases h00:e0=0
   ·subst h00
    go_wp2_with (first|((with_reducible refine gate_store (t:=66) (p:=61) rfl ?_);refine store_event (t:=66) (p:=61) (v:=?vo) (w1:=(w8.setCell ⟨P,0,none⟩ (.slice A8 eb0.length c8))) ?hg ?ho ?hn ?hr ?_;(case ho=>rfl);(case hg=>rfl);(case hn=>rfl);(case hr=>first|(go_simp;done)|(go_simp;rfl));intro w9 hw;have HP9:=am (show w9.heap[P]? = some (.cells #[.slice A8 eb0.length c8,.slice none 0 0] 96 (0,0)) by rw [hw];exact blk_put HP8.out 0 _ rfl);have HB9:=am (show Below w0.heap.size w0 w9 by rw [hw];exact HB8.out.setCell (p:=⟨P,0,none⟩) HPG.out _);have HO9:=am (show Kd.R (Kd.int .u8) 5 w9 w7.heap.size (fun _=>True) (.slice A8 eb0.length c8) eb0 by rw [hw];exact Kd.R_set HO8.out HP8.out (by decide) 0 _);have HR9b:=am (show Kd.R k30 30 w9 w5.heap.size (fun k=>w5.heap.size≤k) (.slice (some ⟨g7,0,none⟩) pb.length c7) pb by rw [hw];exact Kd.R_set (Kd.R_below HR7b.out HW8.out) HP8.out (by decide) 0 _);have HZ9:=am (show w7.heap.size≤w8.heap.size∧w8.heap.size≤w9.heap.size by rw [hw];exact ⟨HW8.out.size,by simp [World.setCell]⟩);have HR9c:=am (Kd.R_mono (ok':=fun _=>True) (Kd.R_lower (base':=w0.heap.size) HR9b.out (by have:=HB6s.out;omega)) (fun _ _=>trivial));obtain ⟨cs9,hcs9⟩:=Kd.R_typed HR9b.out g7 rfl;have HO9t:=am (Kd.R_types HO9.out hcs9 (by decide));clear hcs9;clear hw hcP hfP)|(go_at_call 24;have hec:=leaf_Encode.calls ke0 (some ⟨g6,0,none⟩) c6 qa eb0 _ w7 (by have h:=Kd.R_reads' HR7.out;exact h.2.2) (by have h:=Kd.R_reads' HR7.out;have:=h.1;have:=h.2.1;have:=HQL.out;omega) HKE.out.1;rw [HQL.out.1] at hec;refine hec.mono ?_;rintro e w8 ⟨v8,rfl,ho8,hb8⟩;obtain ⟨A8,c8,rfl,-⟩:=Kd.R_reads ho8;have HO8:=am ho8;have HW8:=am hb8;have HB8:=am (HB7.out.trans (hb8.mono HB7.out.size));have hP8:=blk_below HP7.out hb8;have hcP:=(blk_cell hP8 0).trans rfl;have hfP:=blk_frozen hP8 0;have HP8:=am hP8;clear ho8 hb8 hec hP8)|(go_at_call 38;refine (sortN_calls w6 w0.heap.size g6 pa.length c6 pa HR6a.out HZP.out.1 HAPS.out.1 (by have:=HLT.out;have:=HLD.out;have:=HL.out;have:=HCL.out;omega)).mono ?_;rw [HQA.out.1];rintro e w7 hs7;have hb7:=hs7.below (B:=w0.heap.size) (by have:=HGG.out;omega);rw [Nat.min_eq_left HB6.out.size] at hb7;have HS7:=am hs7;obtain ⟨rfl,hr7,hk7,hz7,-⟩:=hs7;have HR7:=am hr7;have HB7:=am (HB6.out.trans hb7);have HP7:=am ((hk7 P (blk_lt HP6.out) (by have:=HPN.out;have:=HGG.out;omega)).trans HP6.out);have HR7b:=am (Kd.R_step HR6b.out (fun k hk hl=>hk7 k hl (by have:=HG6b.out;omega)));have HZ7:=am hz7;clear hr7 hk7 hz7 hb7))
    rw [rounds_succ]
    by_cases h01:e1=0
    ·subst h01
     go_wp2_with (first|((with_reducible refine gate_store (t:=66) (p:=61) rfl ?_);refine store_event (t:=66) (p:=61) (v:=?vo) (w1:=(w11.setCell ⟨P,1,none⟩ (.slice A11 eb1.length c11))) ?hg ?ho ?hn ?hr ?_;(case ho=>rfl);(case hg=>rfl);(case hn=>rfl);(case hr=>first|(go_simp;done)|(go_simp;rfl));intro w12 hw;have HP12:=am (show w12.heap[P]? = some (.cells #[.slice A8 eb0.length c8,.slice A11 eb1.length c11] 96 (0,0)) by rw [hw];exact blk_put HP11.out 1 _ rfl);have HB12:=am (show Below w0.heap.size w0 w12 by rw [hw];exact HB11.out.setCell (p:=⟨P,1,none⟩) HPG.out _);have HO12a:=am (show Kd.R (Kd.int .u8) 5 w12 w7.heap.size (fun k=>k < w10.heap.size) (.slice A8 eb0.length c8) eb0 by rw [hw];exact Kd.R_set (Kd.R_below (Kd.R_mono (ok':=fun k=>k < w10.heap.size) (Kd.R_bound HO10.out) (fun k hk=>hk.2.2.1)) HW11.out) HP11.out (by decide) 1 _);have HO12b:=am (show Kd.R (Kd.int .u8) 5 w12 w10.heap.size (fun k=>w10.heap.size≤k) (.slice A11 eb1.length c11) eb1 by rw [hw];exact Kd.R_set (Kd.R_mono (Kd.R_bound HO11.out) (fun k hk=>hk.2.1)) HP11.out (by decide) 1 _);have HZ12:=am (show w10.heap.size≤w12.heap.size by rw [hw];have:=HW11.out.size;simpa [World.setCell] using this);clear hw hcP hfP)|(go_at_call 24;have hec:=leaf_Encode.calls ke1 (some ⟨g7,0,none⟩) c7 qb eb1 _ w10 (by have h:=Kd.R_reads' HR10.out;exact h.2.2) (by have h:=Kd.R_reads' HR10.out;have:=h.1;have:=h.2.1;have:=HQL.out;omega) HKE.out.2;rw [HQL.out.2] at hec;refine hec.mono ?_;rintro e w11 ⟨v11,rfl,ho11,hb11⟩;obtain ⟨A11,c11,rfl,-⟩:=Kd.R_reads ho11;have HO11:=am ho11;have HW11:=am hb11;have HB11:=am (HB10.out.trans (hb11.mono HB10.out.size));have hP11:=blk_below HP10.out hb11;have hcP:=(blk_cell hP11 1).trans rfl;have hfP:=blk_frozen hP11 1;have HP11:=am hP11;clear ho11 hb11 hec hP11)|(go_at_call 38;refine (sortN_calls w9 w0.heap.size g7 pb.length c7 pb HR9c.out HZP.out.2 HAPS.out.2 (by have:=HLT.out;have:=HLD.out;have:=HL.out;have:=HCL.out;omega)).mono ?_;rw [HQA.out.2];rintro e w10 hs10;have hb10:=hs10.below (B:=w0.heap.size) (by have:=HGG.out;have:=HB6s.out;omega);rw [Nat.min_eq_left HB9.out.size] at hb10;obtain ⟨rfl,hr10,hk10,hz10,-⟩:=hs10;have HR10:=am hr10;have HB10:=am (HB9.out.trans hb10);have HP10:=am ((hk10 P (blk_lt HP9.out) (by have:=HPN.out;have:=HGG.out;have:=HB6s.out;omega)).trans HP9.out);have HO10:=am (Kd.R_step HO9t.out (fun k hk hl=>hk10 k hl hk.2));have HZ10:=am hz10;clear hr10 hk10 hz10 hb10))
     rw [rounds_succ]
     have hcB0:=HRS0.out w12 HB12.out
     by_cases h1:d.length=1
     ·have h1b:((d.length:Int)==1)=true:=beq_iff_eq.2 (by omega)
      have HE1:=am h1
      clear h1 hix0 hix1;go_wp2
      have hp0:=kC HP12 0
      have hp1:=kC HP12 1
      obtain ⟨X,hX⟩:∃ X,Ht.ixB [⟨0,1⟩,⟨bd,2⟩]=X:=⟨_,rfl⟩
      obtain ⟨kx,hkx⟩:=(Ht.ix_ev [⟨0,1⟩,⟨bd,2⟩] (by simp) (fun r hr=>by
       have:=HBD.out
       rcases List.mem_cons.1 hr with rfl|hr
       ·exact ⟨⟨by decide,by decide⟩,by decide,by decide⟩
       ·obtain rfl:=List.mem_singleton.1 hr
        exact ⟨HBD.out,by simp,by simp⟩)).rounds
      rw [hX] at hkx
      have HKX:=am hkx
      have HX:=am hX
      have HROW:=am (show ∀ W:World,Kd.C k76 (W.alloc (.cells #[.int .u32 0,.int .i64 1,.int .u32 bd,.int .i64 2] 76)) (some ⟨W.heap.size,0,none⟩) 2 ([⟨0,1⟩,⟨bd,2⟩]:List S76) from fun W =>
       (Kd.R_reads' (RwR.flat_R (ok:=fun _=>True) (World.ownsRow_lit (size:=2) W #[.int .u32 0,.int .i64 1,.int .u32 bd,.int .i64 2] 2 (Nat.le_refl _) (by decide) rfl) (fun _ _=>trivial):Kd.R k76 76 _ _ _ _ ([⟨0,1⟩,⟨bd,2⟩]:List S76))).2.2)
      have hcx:=htree_index.calls kx (some ⟨w12.heap.size,0,none⟩) 2 [⟨0,1⟩,⟨bd,2⟩] X _ (Kd.C_drew (HROW.out w12)) (by simp) hkx
      rw [show ([⟨0,1⟩,⟨bd,2⟩]:List S76).length=2 from rfl] at hcx
      have HCX:=am hcx
      have hb0:=below_drew1 (Below.refl w12.heap.size w12)
      clear hkx hX hcB0 hcx
      refine start_ (n:=12) (S:=fun w'=>Below w12.heap.size w12 w'∧w'.cell? ⟨P,0,none⟩=some (.slice A8 eb0.length c8)∧w'.cell? ⟨P,1,none⟩=some (.slice A11 eb1.length c11)) (ds:=[]) _ (by kernel_rfl) rfl rfl ⟨hb0,hp0,hp1⟩ (fun hHeld=>?_)
      refine pK 0 69 ?_;refine pK 1 70 ?_;refine pK 2 71 ?_;refine pK 5 74 ?_;refine pK 7 76 ?_;refine tK 6 75 hHeld ?_ (hy:=by rintro w' ⟨s0,s1,s2⟩;go_simp;with_reducible rfl);refine tK 8 77 hHeld ?_ (hy:=by rintro w' ⟨s0,s1,s2⟩;go_simp;with_reducible rfl)
      refine oK 3 (some 72) (fun K hK=>?_)
      refine value_ (w1:=?_) (v:=?_) (by rfl) rfl ?_ ?_
      rotate_left 2
      ·go_simp
       constructor;(rfl);(rfl)
      refine hK.out _ _ ⟨hHeld.1.alloc hHeld.1.size _,(World.cell?_alloc_lt _ _ _ (World.block_lt_of_cell? _ _ hHeld.2.1)).trans hHeld.2.1,(World.cell?_alloc_lt _ _ _ (World.block_lt_of_cell? _ _ hHeld.2.2)).trans hHeld.2.2⟩ (fun hHeld=>?_)
      clear hK K;refine norm_ (a':=?_) ?_ ?_;rotate_left
      ·show Act.put _ (some 72) _=_
       simp only [Act.put,sIb,sC0,sCs,i64_w,i32_w];rfl
      refine oK 4 (some 73) (fun K hK=>?_)
      refine gS Try.func55 #[.slice (some ⟨w12.heap.size,0,none⟩) 2 2] ?_
      with_reducible refine (HCX.out).mono ?_
      rintro e13 w13 ⟨v13,rfl,ho13,hb13⟩
      refine ⟨_,rfl,?_⟩
      obtain ⟨A13,c13,rfl,-⟩:=Kd.R_reads ho13
      have HO13:=am (show Kd.R (Kd.int .u8) 5 w13 w12.heap.size (fun k=>w12.heap.size≤k) (.slice A13 X.length c13) X from Kd.R_mono (Kd.R_bound (Kd.R_lower ho13 (by simp [World.drew]))) (fun k hk=>hk.2.1))
      have hb13a:=below_drew1 ((Below.refl w12.heap.size w12).alloc (Nat.le_refl _) (.cells #[.int .u32 0,.int .i64 1,.int .u32 bd,.int .i64 2] 76))
      have hb13w:=hb13a.trans (hb13.mono hb13a.size)
      have HB13:=am hb13w
      clear ho13
      refine hK.out _ _ ⟨hb13w,(hb13w.cell (World.block_lt_of_cell? _ _ hp0)).trans hp0,(hb13w.cell (World.block_lt_of_cell? _ _ hp1)).trans hp1⟩ (fun hHeld=>?_)
      clear hK K;refine norm_ (a':=?_) ?_ ?_;rotate_left
      ·show Act.put _ (some 73) _=_
       simp only [Act.put,sIb,sC0,sCs,i64_w,i32_w];rfl
      refine oK 9 (some 78) (fun K hK=>?_)
      refine Kd.S_lits_step kRw (w0:=w0) w0.heap.size 66 ?hg (N:=78) ?hd (xs:=[X,eb0,eb1]) (inner:=[.slice A13 X.length c13,.slice A8 eb0.length c8,.slice A11 eb1.length c11]) (ok:=fun _=>True) (fun j k=>(j=0∧w12.heap.size≤k)∨(j=1∧k < w10.heap.size)∨(j=2∧w10.heap.size≤k∧k < w12.heap.size)) ?hr rfl ?hp (fun i j k h1 h2=>by have:=HZ12.out;omega) (fun _ _ _=>trivial) trivial (HB12.out.trans (HB13.out.mono HB12.out.size)) (HB12.out.trans (HB13.out.mono HB12.out.size)).size (by simp) ?_;(case hd=>rfl);(case hg=>rfl);(case hr=>first|(go_simp;done)|(go_simp;rfl));(case hp=>exact lits_three HO13.out (Kd.R_below HO12a.out HB13.out) (Kd.R_below HO12b.out HB13.out) HB12.out.size HZ12.out HB7.out.size HB10.out.size (fun k hk=>Kd.R_lt HO12b.out k hk))
      intro v14 w14 ho14 hb14 hg14 hat14
      have HO14:=am ho14
      have HB14:=am hb14
      have hb14w:=HB13.out.grown hg14 HB13.out.size (fun k hk=>by cases hk)
      clear ho14 hb14 hat14
      refine hK.out _ _ ⟨hb14w,(hb14w.cell (World.block_lt_of_cell? _ _ hp0)).trans hp0,(hb14w.cell (World.block_lt_of_cell? _ _ hp1)).trans hp1⟩ (fun hHeld=>?_)
      clear hK K;refine norm_ (a':=?_) ?_ ?_;rotate_left
      ·show Act.put _ (some 78) _=_
       simp only [Act.put,sIb,sC0,sCs,i64_w,i32_w];rfl
      refine pK 10 6 ?_;refine pK 11 7 ?_
      refine done_ (by kernel_rfl) ?_
      clear hHeld;go_wp2
      go_ret2
      rw [splitP_some HS.out HC.out HN30.out (by rw [HPA.out.1,HQA.out.1,HEE.out.1]) (by rw [HPA.out.2,HQA.out.2,HEE.out.2]),if_neg (by simp),if_neg (by simp),if_pos HE1.out,HNM2.out,HBD2.out,HX.out]
      exact ⟨_,rfl,HO14.out,HB14.out⟩
     ·have h1b:((d.length:Int)==1)=false:=beq_eq_false_iff_ne.2 (by omega)
      have HE1:=am h1
      clear h1 hix0 hix1;go_wp2
      have hp0:=kC HP12 0
      have hp1:=kC HP12 1
      obtain ⟨kc,hkc⟩:=(Ht.copied_ev d (by have:=HDL.out.1;omega) HDL.out.2).rounds
      have HKC:=am hkc
      have HDP:=am (show 1 < d.length by
       have h1:=HRS.out.low
       have h2:=HE1.out
       rcases Nat.lt_or_ge 1 d.length with h|h
       ·exact h
       ·exfalso
        have h3:rs≠[]:=fun e=>by rw [e] at h1;simp at h1
        have h4:=HRS.out.blk _ (List.head_mem h3)
        omega)
      have haln:a < rs.length:=HA.out
      obtain ⟨bn,hbn⟩:∃ bn:Nat,rs[a].f1=(bn:Int):=⟨rs[a].f1.toNat,by have:=(HRS.out.blk rs[a] (List.getElem_mem HA.out)).1;omega⟩
      have HBN:=am (⟨hbn,by have:=(HRS.out.blk rs[a] (List.getElem_mem HA.out)).2;omega⟩:rs[a].f1=(bn:Int)∧bn < d.length)
      have hb0:=below_drew1 (Below.refl w12.heap.size w12)
      have HV11:=am (Kd.R_mono (ok':=fun k=>w10.heap.size≤k∧k < w12.heap.size) (Kd.R_bound (Kd.R_lower (base':=w0.heap.size) HO12b.out HB10.out.size)) (fun k hk=>⟨hk.1,hk.2.2.1⟩))
      have HV8:=am (show ∀ k,(Value.slice A8 eb0.length c8).ownBlock=some k→k < w10.heap.size from fun k hk=>HO12a.out.1 k hk)
      have hcB0':=hcB0
      clear hkc hbn
      refine start_ (n:=10) (S:=fun w'=>Below w0.heap.size w0 w'∧w'.cell? ⟨B,0,none⟩=some (.slice A0 d.length c0)∧w'.cell? ⟨P,1,none⟩=some (.slice A11 eb1.length c11)) (ds:=[]) _ (by kernel_rfl) rfl rfl ⟨below_drew1 HB12.out,hcB0,hp1⟩ (fun hHeld=>?_)
      refine pK 0 79 ?_;refine pK 1 80 ?_;refine pK 2 81 ?_;refine pK 5 84 ?_;refine tK 3 82 hHeld ?_ (hy:=by rintro w' ⟨s0,s1,s2⟩;go_simp;with_reducible rfl);refine tK 6 85 hHeld ?_ (hy:=by rintro w' ⟨s0,s1,s2⟩;go_simp;with_reducible rfl)
      refine join_ (σ:=Value×Nat) 2 #[true,true,true,true,true,true,true,true,false,false] (fun s_=>[(83,s_.1),(86,.slice (some ⟨s_.2,0,none⟩) 1 1)]) (fun s_ w'=>(Below w0.heap.size w0 w'∧w'.cell? ⟨B,0,none⟩=some (.slice A0 d.length c0)∧w'.cell? ⟨P,1,none⟩=some (.slice A11 eb1.length c11))∧Kd.S kRw 66 w' w0.heap.size (fun k=>w12.heap.size≤k) s_.1 d∧w'.heap[s_.2]? = some (.cells #[.slice A11 eb1.length c11] 66 (0,0))∧Below w12.heap.size w12 w') ?_ ?_
      rotate_left
      ·intro hCont
       refine two_ (i:=4) (j:=7) (Ni:=some 83) (Nj:=some 86) #[true,true,true,true,true,true,true,false,false,false] #[true,true,true,true,false,true,true,true,false,false] rfl rfl rfl rfl (by kernel_rfl) (by decide) (by decide) (fun K hK=>?_) (fun K hK=>?_)
       ·skip
        refine gS Try.func52 #[.slice A0 d.length c0] ?_
        with_reducible refine (htree_copied.calls kc A0 c0 d d _ (Kd.C_drew (Kd.C_below HR0.out HB12.out)) HC0.out HKC.out).mono ?_
        rintro e13 w13 ⟨v13,rfl,ho13,hb13⟩
        refine ⟨_,rfl,?_⟩
        have hO13:Kd.S kRw 66 w13 w0.heap.size (fun k=>w12.heap.size≤k) v13 d:=Kd.S_mono (Kd.S_lower (Kd.S_bound ho13) HB12.out.size) (fun k hk=>hk.2.1)
        have hB12:=hb0.trans (hb13.mono hb0.size)
        refine hK.out _ _ ⟨HB12.out.trans (hB12.mono HB12.out.size),HRS0.out _ (HB12.out.trans (hB12.mono HB12.out.size)),(hB12.cell (World.block_lt_of_cell? _ _ hp1)).trans hp1⟩ (fun hHeld=>?_)
        clear hK K;refine norm_ (a':=?_) ?_ ?_;rotate_left
        ·show Act.put _ (some 83) _=_
         simp only [Act.put,sIb,sC0,sCs,i64_w,i32_w];rfl
        refine oK 7 (some 86) (fun K hK=>?_)
        refine value_ (w1:=?_) (v:=?_) (by rfl) rfl ?_ ?_
        rotate_left 2
        ·go_simp
         constructor;(rfl);(rfl)
        have hO14:=Kd.S_alloc hO13 (.cells #[.slice A11 eb1.length c11] 66)
        have hV14:=blk_new w13 (.cells #[.slice A11 eb1.length c11] 66)
        have hB14:=hB12.alloc hB12.size (.cells #[.slice A11 eb1.length c11] 66)
        refine hK.out _ _ ⟨hHeld.1.alloc hHeld.1.size _,(World.cell?_alloc_lt _ _ _ (World.block_lt_of_cell? _ _ hHeld.2.1)).trans hHeld.2.1,(World.cell?_alloc_lt _ _ _ (World.block_lt_of_cell? _ _ hHeld.2.2)).trans hHeld.2.2⟩ (fun hHeld=>?_)
        clear hK K;refine norm_ (a':=?_) ?_ ?_;rotate_left
        ·show Act.put _ (some 86) _=_
         simp only [Act.put,sIb,sC0,sCs,i64_w,i32_w];rfl
        exact norm_ (by simp only [putAll,Act.put,List.setIfInBounds_toArray,List.set_cons_zero,List.set_cons_succ]) (hCont (v13,w13.heap.size) _ ⟨hHeld,hO14,hV14,hB14⟩)
       ·skip
        refine value_ (w1:=?_) (v:=?_) (by rfl) rfl ?_ ?_
        rotate_left 2
        ·go_simp
         constructor;(rfl);(rfl)
        have hbv:=below_drew1 ((Below.refl w12.heap.size w12).alloc (Nat.le_refl _) (.cells #[.slice A11 eb1.length c11] 66))
        have hVV:=blk_drew (blk_new w12 (.cells #[.slice A11 eb1.length c11] 66))
        refine hK.out _ _ ⟨hHeld.1.alloc hHeld.1.size _,(World.cell?_alloc_lt _ _ _ (World.block_lt_of_cell? _ _ hHeld.2.1)).trans hHeld.2.1,(World.cell?_alloc_lt _ _ _ (World.block_lt_of_cell? _ _ hHeld.2.2)).trans hHeld.2.2⟩ (fun hHeld=>?_)
        clear hK K;refine norm_ (a':=?_) ?_ ?_;rotate_left
        ·show Act.put _ (some 86) _=_
         simp only [Act.put,sIb,sC0,sCs,i64_w,i32_w];rfl
        refine oK 4 (some 83) (fun K hK=>?_)
        refine gS Try.func52 #[.slice A0 d.length c0] ?_
        with_reducible refine (htree_copied.calls kc A0 c0 d d _ (Kd.C_below (Kd.C_below HR0.out HB12.out) hbv) HC0.out HKC.out).mono ?_
        rintro e13 w13 ⟨v13,rfl,ho13,hb13⟩
        refine ⟨_,rfl,?_⟩
        have hO14:Kd.S kRw 66 w13 w0.heap.size (fun k=>w12.heap.size≤k) v13 d:=Kd.S_mono (Kd.S_lower (Kd.S_bound ho13) (Nat.le_trans HB12.out.size hbv.size)) (fun k hk=>Nat.le_trans hbv.size hk.2.1)
        have hV14:=blk_below hVV hb13
        have hB12:=hbv.trans (hb13.mono hbv.size)
        have hB14:=hB12
        refine hK.out _ _ ⟨HB12.out.trans (hB12.mono HB12.out.size),HRS0.out _ (HB12.out.trans (hB12.mono HB12.out.size)),(hB12.cell (World.block_lt_of_cell? _ _ hp1)).trans hp1⟩ (fun hHeld=>?_)
        clear hK K;refine norm_ (a':=?_) ?_ ?_;rotate_left
        ·show Act.put _ (some 83) _=_
         simp only [Act.put,sIb,sC0,sCs,i64_w,i32_w];rfl
        exact norm_ (by simp only [putAll,Act.put,List.setIfInBounds_toArray,List.set_cons_zero,List.set_cons_succ]) (hCont (v13,w12.heap.size) _ ⟨hHeld,hO14,hV14,hB14⟩)
      rintro ⟨v13,vb⟩ w13 ⟨hHeld,hO14,hV14,hB14⟩
      have HO13:=am hO14
      have HVB:=am hV14
      have HB13:=am hB14
      have HOB:=am (show ∀ k,v13.ownBlock=some k→w12.heap.size≤k from fun k hk=>(Kd.S_R hO14).1 k hk)
      dsimp only at HO13 HVB HB13
      clear hO14 hV14 hB14;refine norm_ (a':=?_) ?_ ?_;rotate_left;(simp only [putAll,Act.put,List.setIfInBounds_toArray,List.set_cons_zero,List.set_cons_succ];rfl)
      refine oK 8 (some 87) (fun K hK=>?_)
      refine S_append_at_step (w0:=w0) w0.heap.size (by rfl) (.tmp 83) (.tmp 86) rfl v13 d eb1 (.slice A11 eb1.length c11) vb (fun k=>some k≠(Value.slice A8 eb0.length c8).ownBlock) (fun k=>w10.heap.size≤k∧k < w12.heap.size) rfl rfl HVB.out (Kd.R_below HV11.out HB13.out) (fun k hk=>⟨fun ee=>by have:=HV8.out k ee.symm;omega,fun ee=>by have:=HOB.out k ee.symm;omega⟩) (fun k hk ee=>by have:=HV8.out k ee.symm;have:=HZ12.out;have:=HB13.out.size;omega) (Kd.S_mono HO13.out (fun k hk=>⟨fun ee=>by have:=HV8.out k ee.symm;have:=HZ12.out;omega,fun h=>by omega⟩)) hHeld.1 hHeld.1.size (by have:=HDL.out.1;omega) ?_
      intro v14 w14 ho14 hb14 hg14
      have hP14:=blk_grown (blk_below HP12.out HB13.out) hg14 (Kd.S_ne HO13.out (blk_below HP12.out HB13.out) (by decide))
      have HP14:=am hP14
      have HO14:=am ho14
      have HB14:=am hb14
      have HV14:=am (Kd.R_over' (Kd.R_below HO12a.out HB13.out) (Kd.S_typed HO13.out) (by decide) hg14)
      clear ho14 hg14
      refine hK.out _ _ ⟨hb14,HRS0.out _ hb14,(blk_cell hP14 1).trans rfl⟩ (fun hHeld=>?_)
      clear hK K;refine norm_ (a':=?_) ?_ ?_;rotate_left
      ·show Act.put _ (some 87) _=_
       simp only [Act.put,sIb,sC0,sCs,i64_w,i32_w];rfl
      refine pK 9 15 ?_
      refine done_ (by kernel_rfl) ?_
      clear hHeld hP14 hb14 hp0 hp1 hcB0 hcB0' hb0
      go_wp2
      have hcB1:=HRS1.out w14 HB14.out
      have hp0:=kC HP14 0
      obtain ⟨ad,ead,-,hcr⟩:=at_T76 (Kd.C_below HT2.out HB14.out) (a:Int) (by omega) (by have:=HA.out;omega)
      cases ead
      rw [Int.toNat_natCast,Ht.rdR_get HA.out,HBN.out.1] at hcr
      obtain ⟨g14,c14,ev14,-⟩:=Kd.S_form HO14.out (by simp)
      rw [List.length_append,List.length_singleton] at ev14
      subst ev14
      obtain ⟨hrs15,⟨v0,hc14⟩,hf14⟩:=rows_set (i:=bn) (Kd.S_drew HO14.out) (Kd.R_drew (Kd.R_mono (ok':=fun _=>True) (Kd.R_lower (base':=w0.heap.size) HV14.out HB7.out.size) (fun _ _=>trivial))) (by have:=HBN.out.2;omega)
      have HRS15:=am (show Kd.S kRw 66 (w14.setCell ⟨g14,bn,none⟩ (.slice A8 eb0.length c8)).drew w0.heap.size (fun _=>True) (.slice (some ⟨g14,0,none⟩) (d.length+1) c14) ((d++[eb1]).set bn eb0) from hrs15)
      have hbnl:(bn:Int) < (d.length:Int)+1:=by have:=HBN.out.2;omega
      have HG14:=am (show w0.heap.size≤g14 from Kd.S_base HO14.out g14 rfl)
      clear hrs15
      refine start_ (n:=13) (S:=fun w'=>w'.cell? ⟨B,1,none⟩=some (.slice (some ad) rs.length c1)∧w'.cell? ⟨(ad.add (a*2)).block,(ad.add (a*2)).off+1,none⟩=some (.int .i64 (bn:Int))∧w'.cell? ⟨P,0,none⟩=some (.slice A8 eb0.length c8)) (ds:=[12]) _ (by kernel_rfl) rfl rfl ⟨hcB1,hcr,hp0⟩ (fun hHeld=>?_)
      refine pK 0 88 ?_;refine pK 1 89 ?_;refine pK 2 90 ?_;refine pK 3 91 ?_;refine pK 5 93 ?_;refine pK 9 97 ?_;refine tK 4 92 hHeld ?_ (hy:=by rintro w' ⟨s0,s1,s2⟩;go_simp;with_reducible rfl);refine pK 6 94 ?_;refine pK 7 95 ?_;refine tK 8 96 hHeld ?_ (hy:=by rintro w' ⟨s0,s1,s2⟩;go_simp;with_reducible rfl);refine tK 10 98 hHeld ?_ (hy:=by rintro w' ⟨s0,s1,s2⟩;go_simp;with_reducible rfl);refine pK 11 99 ?_
      refine last_ (i:=12) (N:=none) #[true,true,true,true,true,true,true,true,true,true,true,true,true] rfl rfl (by kernel_rfl) (by decide) (fun K hK=>?_)
      refine skip_ (w1:=?_) (by rfl) rfl ?_ ?_
      rotate_left;(go_simp;rfl);refine hK.out _ _ ?_;clear hK K
      refine done_ (by kernel_rfl) ?_
      clear hHeld hc14 hf14 hcr hp0 hcB1 hbnl
      have HB15:=am (show Below w0.heap.size w0 (w14.setCell ⟨g14,bn,none⟩ (.slice A8 eb0.length c8)).drew from below_drew1 (HB14.out.setCell (p:=⟨g14,bn,none⟩) HG14.out _))
      generalize (w14.setCell ⟨g14,bn,none⟩ (.slice A8 eb0.length c8)).drew=w15 at HRS15 HB15 ⊢
      go_wp2
      have hcB1:=HRS1.out w15 HB15.out
      have hcB0:=HRS0.out w15 HB15.out
      obtain ⟨a1,ha1⟩:∃ a1,a+1=a1:=⟨_,rfl⟩
      have hwa:wrap64 ((a:Int)+1)=(a1:Int):=by have:=HRS.out.high;unfold wrap64;omega
      have HA1:=am ha1
      have HWA:=am hwa
      clear hwa
      have HCLR:=am (show htree_row_57.f rs=some rs by unfold htree_row_57.f;rw [if_pos (by have:=HRS.out.high;omega)])
      obtain ⟨X,hX⟩:∃ X,Ht.ixB (rs.take a1++⟨bd,(d.length:Int)⟩::rs.drop a1)=X:=⟨_,rfl⟩
      obtain ⟨L2,hL2⟩:∃ L2,rs.take a1++(⟨bd,(d.length:Int)⟩:S76)::rs.drop a1=L2:=⟨_,rfl⟩
      obtain ⟨kx,hkx⟩:=(Ht.ix_ev L2 (by rw [← hL2,List.length_append,List.length_cons,List.length_take,List.length_drop];have:=HRS.out.high;have:=HN30.out;omega) (fun r hr=>by
       rw [← hL2] at hr
       have hd1:=HDL.out.1
       have hin:∀ r∈rs,(0≤r.f0∧r.f0 < 4294967296)∧0≤r.f1∧r.f1 < 4294967296:=fun r hr=>⟨HRS.out.num r hr,by have:=HRS.out.blk r hr;omega⟩
       rcases List.mem_append.1 hr with hr|hr
       ·exact hin r (List.mem_of_mem_take hr)
       ·rcases List.mem_cons.1 hr with rfl|hr
        ·exact ⟨HBD.out,by show 0≤(d.length:Int)∧(d.length:Int) < 4294967296;omega⟩
        ·exact hin r (List.mem_of_mem_drop hr))).rounds
      rw [hL2] at hX
      rw [hX] at hkx
      have HKX:=am hkx
      have HX:=am hX
      have HL2:=am hL2
      have hb0:=below_drew1 (Below.refl w15.heap.size w15)
      have HRD:=am (Kd.C_below HT2.out HB15.out)
      clear hkx hX hL2 ha1
      refine start_ (n:=20) (S:=fun w'=>Below w0.heap.size w0 w'∧w'.cell? ⟨B,0,none⟩=some (.slice A0 d.length c0)∧w'.cell? ⟨B,1,none⟩=some (.slice (some ad) rs.length c1)) (ds:=[19]) _ (by kernel_rfl) rfl rfl ⟨below_drew1 HB15.out,hcB0,hcB1⟩ (fun hHeld=>?_)
      refine pK 0 100 ?_;refine pK 1 101 ?_;refine pK 2 102 ?_;refine pK 3 103 ?_;refine pK 6 106 ?_;refine pK 7 107 ?_;refine pK 8 108 ?_;refine pK 9 109 ?_;refine pK 10 110 ?_;refine pK 11 111 ?_;refine tK 4 104 hHeld ?_ (hy:=by rintro w' ⟨s0,s1,s2⟩;go_simp;with_reducible rfl);refine tK 12 112 hHeld ?_ (hy:=by rintro w' ⟨s0,s1,s2⟩;go_simp;with_reducible rfl);refine pK 13 113 ?_;refine pK 14 114 ?_
      refine join_ (σ:=Value×Nat) 4 #[true,true,true,true,true,true,true,true,true,true,true,true,true,true,true,true,false,false,false,false] (fun s_=>[(105,s_.1),(115,.slice (some ⟨s_.2,0,none⟩) 1 1)]) (fun s_ w'=>(Below w0.heap.size w0 w'∧w'.cell? ⟨B,0,none⟩=some (.slice A0 d.length c0)∧w'.cell? ⟨B,1,none⟩=some (.slice (some ad) rs.length c1))∧Kd.R k76 76 w' w15.heap.size (fun _=>True) s_.1 rs∧w'.heap[s_.2]? = some (.cells #[.int .u32 bd,.int .i64 (d.length:Int)] 76 (0,0))∧(∀ g,s_.1.ownBlock=some g→g≠s_.2)∧Below w15.heap.size w15 w') ?_ ?_
      rotate_left
      ·intro hCont
       refine two_ (i:=5) (j:=15) (Ni:=some 105) (Nj:=some 115) #[true,true,true,true,true,true,true,true,true,true,true,true,true,true,true,false,false,false,false,false] #[true,true,true,true,true,false,true,true,true,true,true,true,true,true,true,true,false,false,false,false] rfl rfl rfl rfl (by kernel_rfl) (by decide) (by decide) (fun K hK=>?_) (fun K hK=>?_)
       ·skip
        refine gS Try.func57 #[.slice (some ad) rs.length c1] ?_
        with_reducible refine (htree_row_57.calls (some ad) c1 rs rs _ (Kd.C_drew HRD.out) HT3.out HCLR.out).mono ?_
        rintro e16 w16 ⟨v16,rfl,ho16,hb16⟩
        refine ⟨_,rfl,?_⟩
        have hO16:Kd.R k76 76 w16 w15.heap.size (fun _=>True) v16 rs:=ho16
        have hB16:=hb0.trans (hb16.mono hb0.size)
        refine hK.out _ _ ⟨HB15.out.trans (hB16.mono HB15.out.size),HRS0.out _ (HB15.out.trans (hB16.mono HB15.out.size)),HRS1.out _ (HB15.out.trans (hB16.mono HB15.out.size))⟩ (fun hHeld=>?_)
        clear hK K;refine norm_ (a':=?_) ?_ ?_;rotate_left
        ·show Act.put _ (some 105) _=_
         simp only [Act.put,sIb,sC0,sCs,i64_w,i32_w];rfl
        refine oK 15 (some 115) (fun K hK=>?_)
        refine value_ (w1:=?_) (v:=?_) (by rfl) rfl ?_ ?_
        rotate_left 2
        ·go_simp
         constructor;(rfl);(rfl)
        have hO17:=Kd.R_alloc hO16 (.cells #[.int .u32 bd,.int .i64 (d.length:Int)] 76)
        have hV17:=blk_new w16 (.cells #[.int .u32 bd,.int .i64 (d.length:Int)] 76)
        have hN17:∀ g,v16.ownBlock=some g→g≠w16.heap.size:=fun g hg=>Nat.ne_of_lt (Kd.R_lt hO16 g hg)
        have hB17:=hB16.alloc hB16.size (.cells #[.int .u32 bd,.int .i64 (d.length:Int)] 76)
        refine hK.out _ _ ⟨hHeld.1.alloc hHeld.1.size _,(World.cell?_alloc_lt _ _ _ (World.block_lt_of_cell? _ _ hHeld.2.1)).trans hHeld.2.1,(World.cell?_alloc_lt _ _ _ (World.block_lt_of_cell? _ _ hHeld.2.2)).trans hHeld.2.2⟩ (fun hHeld=>?_)
        clear hK K;refine norm_ (a':=?_) ?_ ?_;rotate_left
        ·show Act.put _ (some 115) _=_
         simp only [Act.put,sIb,sC0,sCs,i64_w,i32_w];rfl
        exact norm_ (by simp only [putAll,Act.put,List.setIfInBounds_toArray,List.set_cons_zero,List.set_cons_succ]) (hCont (v16,w16.heap.size) _ ⟨hHeld,hO17,hV17,hN17,hB17⟩)
       ·skip
        refine value_ (w1:=?_) (v:=?_) (by rfl) rfl ?_ ?_
        rotate_left 2
        ·go_simp
         constructor;(rfl);(rfl)
        have hbv:=below_drew1 ((Below.refl w15.heap.size w15).alloc (Nat.le_refl _) (.cells #[.int .u32 bd,.int .i64 (d.length:Int)] 76))
        have hVV:=blk_drew (blk_new w15 (.cells #[.int .u32 bd,.int .i64 (d.length:Int)] 76))
        refine hK.out _ _ ⟨hHeld.1.alloc hHeld.1.size _,(World.cell?_alloc_lt _ _ _ (World.block_lt_of_cell? _ _ hHeld.2.1)).trans hHeld.2.1,(World.cell?_alloc_lt _ _ _ (World.block_lt_of_cell? _ _ hHeld.2.2)).trans hHeld.2.2⟩ (fun hHeld=>?_)
        clear hK K;refine norm_ (a':=?_) ?_ ?_;rotate_left
        ·show Act.put _ (some 115) _=_
         simp only [Act.put,sIb,sC0,sCs,i64_w,i32_w];rfl
        refine oK 5 (some 105) (fun K hK=>?_)
        refine gS Try.func57 #[.slice (some ad) rs.length c1] ?_
        with_reducible refine (htree_row_57.calls (some ad) c1 rs rs _ (Kd.C_below HT2.out (HB15.out.trans (hbv.mono HB15.out.size))) HT3.out HCLR.out).mono ?_
        rintro e16 w16 ⟨v16,rfl,ho16,hb16⟩
        refine ⟨_,rfl,?_⟩
        have hO17:Kd.R k76 76 w16 w15.heap.size (fun _=>True) v16 rs:=Kd.R_lower ho16 hbv.size
        have hV17:=blk_below hVV hb16
        have hN17:∀ g,v16.ownBlock=some g→g≠w15.heap.size:=fun g hg=>Nat.ne_of_gt (Nat.lt_of_lt_of_le (blk_lt hVV) (Kd.R_base ho16 g hg))
        have hB16:=hbv.trans (hb16.mono hbv.size)
        have hB17:=hB16
        refine hK.out _ _ ⟨HB15.out.trans (hB16.mono HB15.out.size),HRS0.out _ (HB15.out.trans (hB16.mono HB15.out.size)),HRS1.out _ (HB15.out.trans (hB16.mono HB15.out.size))⟩ (fun hHeld=>?_)
        clear hK K;refine norm_ (a':=?_) ?_ ?_;rotate_left
        ·show Act.put _ (some 105) _=_
         simp only [Act.put,sIb,sC0,sCs,i64_w,i32_w];rfl
        exact norm_ (by simp only [putAll,Act.put,List.setIfInBounds_toArray,List.set_cons_zero,List.set_cons_succ]) (hCont (v16,w15.heap.size) _ ⟨hHeld,hO17,hV17,hN17,hB17⟩)
      rintro ⟨v16,vb⟩ w16 ⟨hHeld,hO17,hV17,hN17,hB17⟩
      have HO16:=am hO17
      have HVB:=am hV17
      have HNE:=am hN17
      have HB16:=am hB17
      dsimp only at HO16 HVB HNE HB16
      clear hO17 hV17 hN17 hB17;refine norm_ (a':=?_) ?_ ?_;rotate_left;(simp only [putAll,Act.put,List.setIfInBounds_toArray,List.set_cons_zero,List.set_cons_succ];rfl)
      refine oK 16 (some 116) (fun K hK=>?_)
      refine gS Try.func56 #[v16,.int .i64 (wrap64 ((a:Int)+1)),.slice (some ⟨vb,0,none⟩) 1 1] ?_
      rw [HWA.out]
      with_reducible refine (insR_calls w16 w15.heap.size v16 rs ⟨bd,(d.length:Int)⟩ vb a1 rs.length rfl HO16.out HVB.out HNE.out HB16.out.size (by have:=HA1.out;have:=HA.out;omega) (by have:=HRS.out.high;omega)).mono ?_
      rintro e17 w17 ⟨v17,rfl,ho17,hb17⟩
      refine ⟨_,rfl,?_⟩
      rw [HL2.out] at ho17
      obtain ⟨A17,c17,rfl,-⟩:=Kd.R_reads ho17
      have HO17:=am ho17
      have hb17w:=HB16.out.trans hb17
      have HB17:=am hb17w
      have hbw17:=HB15.out.trans (hb17w.mono HB15.out.size)
      clear ho17 hb17
      refine hK.out _ _ ⟨hbw17,HRS0.out _ hbw17,HRS1.out _ hbw17⟩ (fun hHeld=>?_)
      clear hK K;refine norm_ (a':=?_) ?_ ?_;rotate_left
      ·show Act.put _ (some 116) _=_
       simp only [Act.put,sIb,sC0,sCs,i64_w,i32_w];rfl
      refine oK 17 (some 117) (fun K hK=>?_)
      refine gS Try.func55 #[.slice A17 L2.length c17] ?_
      with_reducible refine (htree_index.calls kx A17 c17 L2 X _ (Kd.R_reads' HO17.out).2.2 (Kd.R_reads' HO17.out).2.1 HKX.out).mono ?_
      rintro e18 w18 ⟨v18,rfl,ho18,hb18⟩
      refine ⟨_,rfl,?_⟩
      obtain ⟨A18,c18,rfl,-⟩:=Kd.R_reads ho18
      have HO18:=am ho18
      have HW18:=am hb18
      have hbw18:=hbw17.trans (hb18.mono hbw17.size)
      have HB18:=am hbw18
      obtain ⟨hrs19,⟨v0',hc19⟩,hf19⟩:=rows_set (i:=0) (Kd.S_mono (Kd.S_elder' (Kd.S_below HRS15.out HB17.out) (fun k hk=>Kd.R_base HO18.out k hk) HW18.out) (fun k hk=>hk.2)) (Kd.R_mono (ok':=fun _=>True) (Kd.R_lower (base':=w0.heap.size) HO18.out hbw17.size) (fun _ _=>trivial)) (Nat.succ_pos _)
      have HRS19:=am hrs19
      clear ho18 hb18 hrs19
      refine hK.out _ _ ⟨hbw18,HRS0.out _ hbw18,HRS1.out _ hbw18⟩ (fun hHeld=>?_)
      clear hK K;refine norm_ (a':=?_) ?_ ?_;rotate_left
      ·show Act.put _ (some 117) _=_
       simp only [Act.put,sIb,sC0,sCs,i64_w,i32_w];rfl
      refine pK 18 118 ?_
      refine last_ (i:=19) (N:=none) #[true,true,true,true,true,true,true,true,true,true,true,true,true,true,true,true,true,true,true,true] rfl rfl (by kernel_rfl) (by decide) (fun K hK=>?_)
      refine skip_ (w1:=?_) (by rfl) rfl ?_ ?_
      rotate_left;(go_simp;rfl);refine hK.out _ _ ?_;clear hK K
      refine done_ (by kernel_rfl) ?_
      clear hHeld;go_wp2
      go_ret2
      rw [splitP_some HS.out HC.out HN30.out (by rw [HPA.out.1,HQA.out.1,HEE.out.1]) (by rw [HPA.out.2,HQA.out.2,HEE.out.2]),if_neg (by simp),if_neg (by simp),if_neg HE1.out,HNM2.out,HBD2.out,HA1.out,HL2.out,HX.out,Ht.getD_at HA.out,HBN.out.1,Int.toNat_natCast]
      exact ⟨_,rfl,HRS19.out,HB18.out.setCell (p:=⟨g14,0,none⟩) HG14.out _⟩
    ·have h1b:(e1 != 0)=true:=bne_iff_ne.2 h01
     have HE01:=am h01
     clear h01
     go_wp2_with (first|(go_at_call 24;have hec:=leaf_Encode.calls ke1 (some ⟨g7,0,none⟩) c7 qb eb1 _ w10 (by have h:=Kd.R_reads' HR10.out;exact h.2.2) (by have h:=Kd.R_reads' HR10.out;have:=h.1;have:=h.2.1;have:=HQL.out;omega) HKE.out.2;rw [HQL.out.2] at hec;refine hec.mono ?_;rintro e w11 ⟨v11,rfl,ho11,hb11⟩;obtain ⟨A11,c11,rfl,-⟩:=Kd.R_reads ho11;have HO11:=am ho11;have HW11:=am hb11;have HB11:=am (HB10.out.trans (hb11.mono HB10.out.size));have hP11:=blk_below HP10.out hb11;have hcP:=(blk_cell hP11 1).trans rfl;have hfP:=blk_frozen hP11 1;have HP11:=am hP11;clear ho11 hb11 hec hP11)|(go_at_call 38;refine (sortN_calls w9 w0.heap.size g7 pb.length c7 pb HR9c.out HZP.out.2 HAPS.out.2 (by have:=HLT.out;have:=HLD.out;have:=HL.out;have:=HCL.out;omega)).mono ?_;rw [HQA.out.2];rintro e w10 hs10;have hb10:=hs10.below (B:=w0.heap.size) (by have:=HGG.out;have:=HB6s.out;omega);rw [Nat.min_eq_left HB9.out.size] at hb10;obtain ⟨rfl,hr10,hk10,hz10,-⟩:=hs10;have HR10:=am hr10;have HB10:=am (HB9.out.trans hb10);have HP10:=am ((hk10 P (blk_lt HP9.out) (by have:=HPN.out;have:=HGG.out;have:=HB6s.out;omega)).trans HP9.out);have HO10:=am (Kd.R_step HO9t.out (fun k hk hl=>hk10 k hl hk.2));have HZ10:=am hz10;clear hr10 hk10 hz10 hb10))
     go_ret2
     rw [splitP_some HS.out HC.out HN30.out (by rw [HPA.out.1,HQA.out.1,HEE.out.1]) (by rw [HPA.out.2,HQA.out.2,HEE.out.2]),if_neg (by simp),if_pos HE01.out]
     exact ⟨_,rfl,Kd.S_nil _ _ _ _ _,HB11.out⟩
   ·have h0b:(e0 != 0)=true:=bne_iff_ne.2 h00
    have HE00:=am h00
    clear h00
    go_wp2_with (first|(go_at_call 24;have hec:=leaf_Encode.calls ke0 (some ⟨g6,0,none⟩) c6 qa eb0 _ w7 (by have h:=Kd.R_reads' HR7.out;exact h.2.2) (by have h:=Kd.R_reads' HR7.out;have:=h.1;have:=h.2.1;have:=HQL.out;omega) HKE.out.1;rw [HQL.out.1] at hec;refine hec.mono ?_;rintro e w8 ⟨v8,rfl,ho8,hb8⟩;obtain ⟨A8,c8,rfl,-⟩:=Kd.R_reads ho8;have HO8:=am ho8;have HW8:=am hb8;have HB8:=am (HB7.out.trans (hb8.mono HB7.out.size));have hP8:=blk_below HP7.out hb8;have hcP:=(blk_cell hP8 0).trans rfl;have hfP:=blk_frozen hP8 0;have HP8:=am hP8;clear ho8 hb8 hec hP8)|(go_at_call 38;refine (sortN_calls w6 w0.heap.size g6 pa.length c6 pa HR6a.out HZP.out.1 HAPS.out.1 (by have:=HLT.out;have:=HLD.out;have:=HL.out;have:=HCL.out;omega)).mono ?_;rw [HQA.out.1];rintro e w7 hs7;have hb7:=hs7.below (B:=w0.heap.size) (by have:=HGG.out;omega);rw [Nat.min_eq_left HB6.out.size] at hb7;have HS7:=am hs7;obtain ⟨rfl,hr7,hk7,hz7,-⟩:=hs7;have HR7:=am hr7;have HB7:=am (HB6.out.trans hb7);have HP7:=am ((hk7 P (blk_lt HP6.out) (by have:=HPN.out;have:=HGG.out;omega)).trans HP6.out);have HR7b:=am (Kd.R_step HR6b.out (fun k hk hl=>hk7 k hl (by have:=HG6b.out;omega)));have HZ7:=am hz7;clear hr7 hk7 hz7 hb7))
    go_ret2
    rw [splitP_some HS.out HC.out HN30.out (by rw [HPA.out.1,HQA.out.1,HEE.out.1]) (by rw [HPA.out.2,HQA.out.2,HEE.out.2]),if_pos HE00.out]
    exact ⟨_,rfl,Kd.S_nil _ _ _ _ _,HB8.out⟩
def htree_Add.f (l0:List (List Int)) (a1_0:ByteArray) (a1_1:Int):Option (List (List Int)×Int):=if dirB l0=true then some (Ht.addP l0 ⟨a1_0,a1_1⟩) else none
set_option maxHeartbeats 8000000 in
set_option maxRecDepth 100000 in
theorem htree_Add.calls (A0:Option Addr) (c0:Nat) (l0:List (List Int)) (a1_0:ByteArray) (a1_1:Int) (r1:List (List Int)) (r2:Int) (w:World) (hr0:Kd.C (Kd.slice 5 (Kd.int .u8)) w A0 l0.length l0) (hc0:l0.length≤c0) (h:htree_Add.f l0 a1_0 a1_1=some (r1,r2)) :
  Calls Try.prog 13 #[.slice A0 l0.length c0,.agg #[.string a1_0,.int .i64 a1_1]] w fun e w'=>∃ v0_:Value,e=.returned (.tuple #[v0_,.int .i64 r2])∧Kd.S (Kd.slice 5 (Kd.int .u8)) 66 w' w.heap.size (fun _=>True) v0_ r1∧Below w.heap.size w w':=by
 unfold htree_Add.f at h
 by_cases hd:dirB l0=true
 ·rw [if_pos hd] at h
  have h:=Option.some.inj h
  obtain ⟨hd1,hd2⟩:=dirB_iff hd
  have HR0:=am hr0
  have HC0:=am hc0
  have HD:=am hd1
  have HL:=am hd2
  have HB0:=am ((Below.refl w.heap.size w).alloc (Nat.le_refl _) (.cells #[.string a1_0,.int .i64 a1_1] 30))
  unfold Ht.addP at h
  clear hd hr0 hc0 hd1 hd2
  cases hx:Ht.readP l0 with
  | none =>
   rw [hx] at h
   obtain ⟨rfl,rfl⟩:=Prod.mk.inj h
   have HX:=am hx
   clear hx h
   go_enter Try.func13,Try.ntmps13
   go_wp2_with (go_at_call 25;refine (open_calls A0 c0 l0 ⟨a1_0,a1_1⟩ _ (Kd.C_alloc HR0.out _) HC0.out HD.out HL.out).mono ?_;rintro e w2 ⟨hb2,hm⟩;rw [HX.out] at hm;dsimp only at hm;subst hm;have HB2:=am (HB0.out.trans (hb2.mono HB0.out.size));have HW2:=am hb2;clear hb2)
   go_ret2
   exact ⟨_,rfl,Kd.S_nil _ _ _ _ _,HB2.out⟩
  | some p =>
   obtain ⟨rs,ls⟩:=p
   rw [hx] at h
   dsimp only at h
   have HOKR:=am (Ht.readP_ok HD.out hx).1
   have HLV:=am (Ht.readP_ok HD.out hx).2
   have HDL:=am (Ht.readP_len HD.out hx)
   have HX:=am hx
   clear hx
   by_cases hmx:Ht.mayX (⟨a1_0,a1_1⟩:S30)=false
   ·have HM:=am hmx
    rw [if_pos hmx] at h
    obtain ⟨rfl,rfl⟩:=Prod.mk.inj h
    clear h hmx
    go_enter Try.func13,Try.ntmps13
    go_wp2_with (go_at_call 25;refine (open_calls A0 c0 l0 ⟨a1_0,a1_1⟩ _ (Kd.C_alloc HR0.out _) HC0.out HD.out HL.out).mono ?_;rintro e w2 ⟨hb2,hm⟩;rw [HX.out] at hm;dsimp only at hm;rw [if_pos HM.out] at hm;subst hm;have HB2:=am (HB0.out.trans (hb2.mono HB0.out.size));have HW2:=am hb2;clear hb2)
    go_ret2
    exact ⟨_,rfl,Kd.S_nil _ _ _ _ _,HB2.out⟩
   ·have HM:=am hmx
    rw [if_neg hmx] at h
    obtain ⟨an,han⟩:∃ an,Ht.atP rs (Ht.sumN a1_0)=an:=⟨_,rfl⟩
    have hanl:an < rs.length:=han ▸ Ht.atP_lt HOKR.out _
    obtain ⟨l,hll⟩:∃ l,ls.getD an []=l:=⟨_,rfl⟩
    have hanls:an < ls.length:=by rw [HLV.out.len];exact hanl
    have HRL:=am (show Lf.right none l=true∧Lf.sumL l≤248 from HLV.out.leaf l (by rw [← hll,Ht.getD_at hanls];exact List.getElem_mem _))
    have HLA:=am (show Ht.leafAt rs ls a1_0=l by unfold Ht.leafAt;rw [han,hll])
    obtain ⟨pp,hpp⟩:∃ pp,Ht.posP l a1_0=pp:=⟨_,rfl⟩
    obtain ⟨tt,htt⟩:∃ tt,Ht.thereP l a1_0=tt:=⟨_,rfl⟩
    have HPT:=am (⟨hpp,htt,han⟩:Ht.posP l a1_0=pp∧Ht.thereP l a1_0=tt∧Ht.atP rs (Ht.sumN a1_0)=an)
    have HLQ:=am hll
    have HAN:=am hanl
    have HL41:=am (Ht.leaf_len HRL.out)
    rw [HPT.out.2.2,HLQ.out,HPT.out.1,HPT.out.2.1,Ht.getD_at HAN.out] at h
    clear hpp htt han hll hanl hmx
    cases tt with
    | true =>
     rw [if_pos rfl] at h
     obtain ⟨rfl,rfl⟩:=Prod.mk.inj h
     clear h
     go_enter Try.func13,Try.ntmps13
     go_wp2_with (go_at_call 25;refine (open_calls A0 c0 l0 ⟨a1_0,a1_1⟩ _ (Kd.C_alloc HR0.out _) HC0.out HD.out HL.out).mono ?_;rintro e w2 ⟨hb2,hm⟩;rw [HX.out] at hm;dsimp only at hm;rw [if_neg HM.out,HLA.out,HPT.out.1,HPT.out.2.1,HPT.out.2.2] at hm;obtain ⟨B,rfl,-⟩:=hm;have HB2:=am (HB0.out.trans (hb2.mono HB0.out.size));have HW2:=am hb2;clear hb2)
     go_ret2
     exact ⟨_,rfl,Kd.S_nil _ _ _ _ _,HB2.out⟩
    | false =>
     rw [if_neg (by decide)] at h
     have HDB:=am (show ∀ b∈l0,b.length≤140737488355328 from fun b hb=>by have:=(Ht.readP_blocks HD.out HX.out) b hb;omega)
     have HPL:=am (show pp≤l.length from HPT.out.1 ▸ Ht.posP_le l a1_0)
     obtain ⟨L,hL⟩:∃ L,l.take pp++(⟨a1_0,a1_1⟩:S30)::l.drop pp=L:=⟨_,rfl⟩
     have HLE:=am hL
     have HLN:=am (show L.length=l.length+1 by rw [← hL,List.length_append,List.length_cons,List.length_take,List.length_drop];have:=HPL.out;omega)
     rw [hL] at h
     have HH:=am h
     clear h hL
     have HCLN:=am (show api_Name_27.f l=some l by unfold api_Name_27.f;rw [if_pos (by have:=HL41.out;omega)])
     go_enter Try.func13,Try.ntmps13
     go_wp2_with (go_at_call 25;refine (open_calls A0 c0 l0 ⟨a1_0,a1_1⟩ _ (Kd.C_alloc HR0.out _) HC0.out HD.out HL.out).mono ?_;rintro e w2 ⟨hb2,hm⟩;rw [HX.out] at hm;dsimp only at hm;rw [if_neg HM.out,HLA.out,HPT.out.1,HPT.out.2.1,HPT.out.2.2] at hm;obtain ⟨B,rfl,A1,c1,A2,c2,hT1,hT2,hT3,hT4,hT5⟩:=hm;have hcB:=(blk_cell hT1 2).trans rfl;obtain ⟨ad2,A5,c5,ead,hcl,hl5,hr5⟩:=leaf_at hT4 (an:Int) (by omega) (by omega);cases ead;rw [Int.toNat_natCast,HLQ.out] at hcl hl5 hr5;have HT1:=am hT1;have HT2:=am hT2;have HT3:=am hT3;have HT4:=am hT4;have HT5:=am hT5;have HR5:=am hr5;have HL5:=am hl5;clear hT1 hT2 hT3 hT4 hT5 hr5 hl5;have HX2:=am (blk_below (blk_new w (.cells #[.string a1_0,.int .i64 a1_1] 30)) hb2);have hx0:=kC HX2 0;have hx1:=kC HX2 1;have HB2:=am (HB0.out.trans (hb2.mono HB0.out.size));have HW2:=am hb2;clear hb2)
     have hb0:=below_drew1 (Below.refl w2.heap.size w2)
     have hanl:=HAN.out
     have hanls:an < ls.length:=by rw [HLV.out.len];exact hanl
     refine start_ (n:=13) (S:=fun w'=>Below w2.heap.size w2 w'∧w'.cell? ⟨B,2,none⟩=some (.slice (some ad2) ls.length c2)∧w'.cell? (ad2.add an)=some (.slice A5 l.length c5)∧w'.cell? ⟨w.heap.size,0,none⟩=some (.string a1_0)∧w'.cell? ⟨w.heap.size,1,none⟩=some (.int .i64 a1_1)) (ds:=[]) _ (by kernel_rfl) rfl rfl ⟨hb0,hcB,hcl,hx0,hx1⟩ (fun hHeld=>?_)
     refine pK 0 28 ?_;refine pK 1 29 ?_;refine pK 2 30 ?_;refine pK 4 32 ?_;refine pK 8 36 ?_;refine tK 3 31 hHeld ?_ (hy:=by rintro w' ⟨s0,s1,s2,s3,s4⟩;go_simp;with_reducible rfl);refine pK 5 33 ?_;refine tK 6 34 hHeld ?_ (hy:=by rintro w' ⟨s0,s1,s2,s3,s4⟩;go_simp;with_reducible rfl);refine tK 9 37 hHeld ?_ (hy:=by rintro w' ⟨s0,s1,s2,s3,s4⟩;go_simp;with_reducible rfl)
     refine join_ (σ:=Value×Nat) 2 #[true,true,true,true,true,true,true,true,true,true,true,false,false] (fun s_=>[(35,s_.1),(38,.slice (some ⟨s_.2,0,none⟩) 1 1)]) (fun s_ w'=>(Below w2.heap.size w2 w'∧w'.cell? ⟨B,2,none⟩=some (.slice (some ad2) ls.length c2)∧w'.cell? (ad2.add an)=some (.slice A5 l.length c5)∧w'.cell? ⟨w.heap.size,0,none⟩=some (.string a1_0)∧w'.cell? ⟨w.heap.size,1,none⟩=some (.int .i64 a1_1))∧Kd.R k30 30 w' w2.heap.size (fun _=>True) s_.1 l∧w'.heap[s_.2]? = some (.cells #[.string a1_0,.int .i64 a1_1] 30 (0,0))∧(∀ g,s_.1.ownBlock=some g→g≠s_.2)) ?_ ?_
     rotate_left
     ·intro hCont
      refine two_ (i:=7) (j:=10) (Ni:=some 35) (Nj:=some 38) #[true,true,true,true,true,true,true,true,true,true,false,false,false] #[true,true,true,true,true,true,true,false,true,true,true,false,false] rfl rfl rfl rfl (by kernel_rfl) (by decide) (by decide) (fun K hK=>?_) (fun K hK=>?_)
      ·skip
       refine gS Try.func27 #[.slice A5 l.length c5] ?_
       with_reducible refine (api_Name_27.calls A5 c5 l l _ (Kd.C_drew HR5.out) HL5.out HCLN.out).mono ?_
       rintro e3 w3 ⟨v3,rfl,ho3,hb3⟩
       refine ⟨_,rfl,?_⟩
       have hO3:Kd.R k30 30 w3 w2.heap.size (fun _=>True) v3 l:=ho3
       have hB3:=hb0.trans (hb3.mono hb0.size)
       refine hK.out _ _ ⟨hB3,(hB3.cell (World.block_lt_of_cell? _ _ hcB)).trans hcB,(hB3.cell (World.block_lt_of_cell? _ _ hcl)).trans hcl,(hB3.cell (World.block_lt_of_cell? _ _ hx0)).trans hx0,(hB3.cell (World.block_lt_of_cell? _ _ hx1)).trans hx1⟩ (fun hHeld=>?_)
       clear hK K;refine norm_ (a':=?_) ?_ ?_;rotate_left
       ·show Act.put _ (some 35) _=_
        simp only [Act.put,sIb,sC0,sCs,i64_w,i32_w];rfl
       refine oK 10 (some 38) (fun K hK=>?_)
       refine value_ (w1:=?_) (v:=?_) (by rfl) rfl ?_ ?_
       rotate_left 2
       ·go_simp
        constructor;(rfl);(rfl)
       have hO4:=Kd.R_alloc hO3 (.cells #[.string a1_0,.int .i64 a1_1] 30)
       have hV4:=blk_new w3 (.cells #[.string a1_0,.int .i64 a1_1] 30)
       have hN4:∀ g,v3.ownBlock=some g→g≠w3.heap.size:=fun g hg=>Nat.ne_of_lt (Kd.R_lt hO3 g hg)
       refine hK.out _ _ ⟨hHeld.1.alloc hHeld.1.size _,(World.cell?_alloc_lt _ _ _ (World.block_lt_of_cell? _ _ hHeld.2.1)).trans hHeld.2.1,(World.cell?_alloc_lt _ _ _ (World.block_lt_of_cell? _ _ hHeld.2.2.1)).trans hHeld.2.2.1,(World.cell?_alloc_lt _ _ _ (World.block_lt_of_cell? _ _ hHeld.2.2.2.1)).trans hHeld.2.2.2.1,(World.cell?_alloc_lt _ _ _ (World.block_lt_of_cell? _ _ hHeld.2.2.2.2)).trans hHeld.2.2.2.2⟩ (fun hHeld=>?_)
       clear hK K;refine norm_ (a':=?_) ?_ ?_;rotate_left
       ·show Act.put _ (some 38) _=_
        simp only [Act.put,sIb,sC0,sCs,i64_w,i32_w];rfl
       exact norm_ (by simp only [putAll,Act.put,List.setIfInBounds_toArray,List.set_cons_zero,List.set_cons_succ]) (hCont (v3,w3.heap.size) _ ⟨hHeld,hO4,hV4,hN4⟩)
      ·skip
       refine value_ (w1:=?_) (v:=?_) (by rfl) rfl ?_ ?_
       rotate_left 2
       ·go_simp
        constructor;(rfl);(rfl)
       have hbv:=below_drew1 ((Below.refl w2.heap.size w2).alloc (Nat.le_refl _) (.cells #[.string a1_0,.int .i64 a1_1] 30))
       have hVV:=blk_drew (blk_new w2 (.cells #[.string a1_0,.int .i64 a1_1] 30))
       refine hK.out _ _ ⟨hHeld.1.alloc hHeld.1.size _,(World.cell?_alloc_lt _ _ _ (World.block_lt_of_cell? _ _ hHeld.2.1)).trans hHeld.2.1,(World.cell?_alloc_lt _ _ _ (World.block_lt_of_cell? _ _ hHeld.2.2.1)).trans hHeld.2.2.1,(World.cell?_alloc_lt _ _ _ (World.block_lt_of_cell? _ _ hHeld.2.2.2.1)).trans hHeld.2.2.2.1,(World.cell?_alloc_lt _ _ _ (World.block_lt_of_cell? _ _ hHeld.2.2.2.2)).trans hHeld.2.2.2.2⟩ (fun hHeld=>?_)
       clear hK K;refine norm_ (a':=?_) ?_ ?_;rotate_left
       ·show Act.put _ (some 38) _=_
        simp only [Act.put,sIb,sC0,sCs,i64_w,i32_w];rfl
       refine oK 7 (some 35) (fun K hK=>?_)
       refine gS Try.func27 #[.slice A5 l.length c5] ?_
       with_reducible refine (api_Name_27.calls A5 c5 l l _ (Kd.C_below HR5.out hbv) HL5.out HCLN.out).mono ?_
       rintro e3 w3 ⟨v3,rfl,ho3,hb3⟩
       refine ⟨_,rfl,?_⟩
       have hO4:Kd.R k30 30 w3 w2.heap.size (fun _=>True) v3 l:=Kd.R_lower ho3 hbv.size
       have hV4:=blk_below hVV hb3
       have hN4:∀ g,v3.ownBlock=some g→g≠w2.heap.size:=fun g hg=>Nat.ne_of_gt (Nat.lt_of_lt_of_le (blk_lt hVV) (Kd.R_base ho3 g hg))
       have hB3:=hbv.trans (hb3.mono hbv.size)
       refine hK.out _ _ ⟨hB3,(hB3.cell (World.block_lt_of_cell? _ _ hcB)).trans hcB,(hB3.cell (World.block_lt_of_cell? _ _ hcl)).trans hcl,(hB3.cell (World.block_lt_of_cell? _ _ hx0)).trans hx0,(hB3.cell (World.block_lt_of_cell? _ _ hx1)).trans hx1⟩ (fun hHeld=>?_)
       clear hK K;refine norm_ (a':=?_) ?_ ?_;rotate_left
       ·show Act.put _ (some 35) _=_
        simp only [Act.put,sIb,sC0,sCs,i64_w,i32_w];rfl
       exact norm_ (by simp only [putAll,Act.put,List.setIfInBounds_toArray,List.set_cons_zero,List.set_cons_succ]) (hCont (v3,w2.heap.size) _ ⟨hHeld,hO4,hV4,hN4⟩)
     rintro ⟨v3,vb⟩ w3 ⟨hHeld,hO4,hV4,hN4⟩
     have HO3:=am hO4
     have HVB:=am hV4
     have HNE:=am hN4
     have HB3:=am hHeld.1
     dsimp only at HO3 HVB HNE
     clear hO4 hV4 hN4;refine norm_ (a':=?_) ?_ ?_;rotate_left;(simp only [putAll,Act.put,List.setIfInBounds_toArray,List.set_cons_zero,List.set_cons_succ];rfl)
     refine oK 11 (some 39) (fun K hK=>?_)
     refine gS Try.func26 #[v3,.int .i64 (pp:Int),.slice (some ⟨vb,0,none⟩) 1 1] ?_
     with_reducible refine (ins_calls w3 w2.heap.size v3 l ⟨a1_0,a1_1⟩ vb pp l.length rfl HO3.out HVB.out HNE.out HB3.out.size HPL.out (by have:=HL41.out;omega)).mono ?_
     rintro e4 w4 ⟨v4,rfl,ho4,hb4⟩
     refine ⟨_,rfl,?_⟩
     rw [HLE.out] at ho4
     obtain ⟨g4,c4,rfl,hg4,-⟩:=Kd.R_form ho4 (by have:=HLN.out;omega)
     have HO4:=am ho4
     have HG4:=am hg4
     have hb24:=HB3.out.trans hb4
     have HW4:=am hb24
     clear ho4 hb4 hg4
     refine hK.out _ _ ⟨hb24,(hb24.cell (World.block_lt_of_cell? _ _ hcB)).trans hcB,(hb24.cell (World.block_lt_of_cell? _ _ hcl)).trans hcl,(hb24.cell (World.block_lt_of_cell? _ _ hx0)).trans hx0,(hb24.cell (World.block_lt_of_cell? _ _ hx1)).trans hx1⟩ (fun hHeld=>?_)
     clear hK K;refine norm_ (a':=?_) ?_ ?_;rotate_left
     ·show Act.put _ (some 39) _=_
      simp only [Act.put,sIb,sC0,sCs,i64_w,i32_w];rfl
     refine pK 12 11 ?_
     refine done_ (by kernel_rfl) ?_
     clear hHeld hb24 hcB hcl hx0 hx1 hb0 hanl hanls
     have HTR:=am (show TreeAt w2 B A0 c0 l0.length rs ls from ⟨A1,c1,_,c2,HT1.out,HT2.out,HT3.out,HT4.out,HT5.out⟩)
     have HR2:=am (Kd.C_below HR0.out HB2.out)
     have HB4:=am (HB2.out.trans (HW4.out.mono HB2.out.size))
     have HRL4:=am (show k30.C w4 (some ⟨g4,0,none⟩) L.length L∧L.length≤c4 from by have h:=Kd.R_reads' HO4.out;exact ⟨h.2.2,h.2.1⟩)
     have h:=HH.out
     obtain ⟨⟨wb,we⟩,hwp⟩:∃ p,Ht.withP l0 (rs[an]'HAN.out).f1 L=p:=⟨_,rfl⟩
     rw [hwp] at h
     have HWP:=am hwp
     dsimp only at h
     by_cases h9:we=9
     ·rw [if_pos h9] at h
      subst h9
      have HSP:=am h
      have HLR:=am (show Lf.right none L=true by
       unfold Ht.withP at hwp
       split at hwp
       ·cases hwp
       ·have h8:=(Prod.mk.inj hwp).2
        unfold Lf.encR at h8
        split at h8
        ·next hr=>exact hr
        ·cases h8)
      clear h hwp HH
      go_wp2_with (first|(go_at_call 29;have hsc:=split_calls w2 w5 (HW4.out.trans (HW5.out.mono HW4.out.size)) B A0 c0 l0 rs ls an HR2.out HC0.out HTR.out HDL.out.1 HDB.out HAN.out HOKR.out g4 c4 L HG4.out (Kd.R_below HO4.out HW5.out) HLR.out (by have:=HLN.out;omega) (by have:=HLN.out;have:=HL41.out;omega);rw [HSP.out] at hsc;refine hsc.mono ?_;rintro e w6 ⟨v6,rfl,ho6,hb6⟩;have HO6:=am ho6;have HB6:=am hb6;clear ho6 hb6 hsc)|(go_at_call 28;have hwc:=with_calls w4 B A0 c0 l0 rs ls an (some ⟨g4,0,none⟩) c4 L (Kd.C_below HR0.out HB4.out) HC0.out (TreeAt.below HTR.out HW4.out) HDL.out.1 HDB.out HAN.out (HOKR.out.blk _ (List.getElem_mem HAN.out)) HRL4.out.1 HRL4.out.2 (by have:=HLN.out;have:=HL41.out;omega);rw [HWP.out] at hwc;refine hwc.mono ?_;rintro e w5 ⟨v5,rfl,ho5,hb5⟩;have HO5:=am ho5;have HW5:=am hb5;have HB5:=am (HB4.out.trans (hb5.mono HB4.out.size));clear ho5 hb5 hwc))
      go_ret2
      exact ⟨_,rfl,Kd.S_lower HO6.out HB2.out.size,HB2.out.trans (HB6.out.mono HB2.out.size)⟩
     ·rw [if_neg h9] at h
      obtain ⟨rfl,rfl⟩:=Prod.mk.inj h
      have h9b:(we==9)=false:=beq_eq_false_iff_ne.2 h9
      clear h h9 hwp HH
      go_wp2_with (go_at_call 28;have hwc:=with_calls w4 B A0 c0 l0 rs ls an (some ⟨g4,0,none⟩) c4 L (Kd.C_below HR0.out HB4.out) HC0.out (TreeAt.below HTR.out HW4.out) HDL.out.1 HDB.out HAN.out (HOKR.out.blk _ (List.getElem_mem HAN.out)) HRL4.out.1 HRL4.out.2 (by have:=HLN.out;have:=HL41.out;omega);rw [HWP.out] at hwc;refine hwc.mono ?_;rintro e w5 ⟨v5,rfl,ho5,hb5⟩;have HO5:=am ho5;have HW5:=am hb5;have HB5:=am (HB4.out.trans (hb5.mono HB4.out.size));clear ho5 hb5 hwc)
      go_ret2
      exact ⟨_,rfl,Kd.S_lower HO5.out HB4.out.size,HB5.out⟩
 ·rw [if_neg hd] at h
  cases h
theorem mayX_zero (s:ByteArray):Ht.mayX (⟨s,0⟩:S30)=Lf.mayB s:=by unfold Ht.mayX;simp
def htree_Find.f (l0:List (List Int)) (a1:ByteArray):Option (Int×Int):=if dirB l0=true then some (Ht.findP l0 a1) else none
set_option maxHeartbeats 8000000 in
set_option maxRecDepth 100000 in
theorem htree_Find.calls (A0:Option Addr) (c0:Nat) (l0:List (List Int)) (a1:ByteArray) (r1:Int) (r2:Int) (w:World) (hr0:Kd.C (Kd.slice 5 (Kd.int .u8)) w A0 l0.length l0) (hc0:l0.length≤c0) (h:htree_Find.f l0 a1=some (r1,r2)) :
  Calls Try.prog 17 #[.slice A0 l0.length c0,.string a1] w fun e w'=>e=.returned (.tuple #[.int .i64 r1,.int .i64 r2])∧Below w.heap.size w w':=by
 unfold htree_Find.f at h
 by_cases hd:dirB l0=true
 ·rw [if_pos hd] at h
  have h:=Option.some.inj h
  obtain ⟨hd1,hd2⟩:=dirB_iff hd
  have HR0:=am hr0
  have HC0:=am hc0
  have HD:=am hd1
  have HL:=am hd2
  have HB0:=am (Below.refl w.heap.size w)
  unfold Ht.findP at h
  clear hd hr0 hc0 hd1 hd2
  cases hx:Ht.readP l0 with
  | none =>
   rw [hx] at h
   obtain ⟨rfl,rfl⟩:=Prod.mk.inj h
   have HX:=am hx
   clear hx h
   go_enter Try.func17,Try.ntmps17
   go_wp2_with (go_at_call 25;refine (open_calls A0 c0 l0 ⟨a1,0⟩ _ HR0.out HC0.out HD.out HL.out).mono ?_;rintro e w2 ⟨hb2,hm⟩;rw [HX.out] at hm;dsimp only at hm;subst hm;have HB2:=am (HB0.out.trans (hb2.mono HB0.out.size));have HW2:=am hb2;clear hb2)
   go_ret2
   exact ⟨rfl,HB2.out⟩
  | some p =>
   obtain ⟨rs,ls⟩:=p
   rw [hx] at h
   dsimp only at h
   have HOKR:=am (Ht.readP_ok HD.out hx).1
   have HLV:=am (Ht.readP_ok HD.out hx).2
   have HDL:=am (Ht.readP_len HD.out hx)
   have HX:=am hx
   clear hx
   by_cases hmx:Ht.mayX (⟨a1,0⟩:S30)=false
   ·have HM:=am hmx
    rw [if_pos (show Lf.mayB a1=false from (mayX_zero a1).symm.trans hmx)] at h
    obtain ⟨rfl,rfl⟩:=Prod.mk.inj h
    clear h hmx
    go_enter Try.func17,Try.ntmps17
    go_wp2_with (go_at_call 25;refine (open_calls A0 c0 l0 ⟨a1,0⟩ _ HR0.out HC0.out HD.out HL.out).mono ?_;rintro e w2 ⟨hb2,hm⟩;rw [HX.out] at hm;dsimp only at hm;rw [if_pos HM.out] at hm;subst hm;have HB2:=am (HB0.out.trans (hb2.mono HB0.out.size));have HW2:=am hb2;clear hb2)
    go_ret2
    exact ⟨rfl,HB2.out⟩
   ·have HM:=am hmx
    rw [if_neg (show ¬ Lf.mayB a1=false from fun e=>hmx ((mayX_zero a1).trans e))] at h
    obtain ⟨an,han⟩:∃ an,Ht.atP rs (Ht.sumN a1)=an:=⟨_,rfl⟩
    have hanl:an < rs.length:=han ▸ Ht.atP_lt HOKR.out _
    obtain ⟨l,hll⟩:∃ l,ls.getD an []=l:=⟨_,rfl⟩
    have hanls:an < ls.length:=by rw [HLV.out.len];exact hanl
    have HRL:=am (show Lf.right none l=true∧Lf.sumL l≤248 from HLV.out.leaf l (by rw [← hll,Ht.getD_at hanls];exact List.getElem_mem _))
    have HLA:=am (show Ht.leafAt rs ls a1=l by unfold Ht.leafAt;rw [han,hll])
    obtain ⟨pp,hpp⟩:∃ pp,Ht.posP l a1=pp:=⟨_,rfl⟩
    obtain ⟨tt,htt⟩:∃ tt,Ht.thereP l a1=tt:=⟨_,rfl⟩
    have HPT:=am (⟨hpp,htt,han⟩:Ht.posP l a1=pp∧Ht.thereP l a1=tt∧Ht.atP rs (Ht.sumN a1)=an)
    have HLQ:=am hll
    have HAN:=am hanl
    have HL41:=am (Ht.leaf_len HRL.out)
    rw [HLA.out,HPT.out.1,HPT.out.2.1] at h
    clear hpp htt han hll hanl hmx
    cases tt with
    | false =>
     rw [if_pos rfl] at h
     obtain ⟨rfl,rfl⟩:=Prod.mk.inj h
     clear h
     go_enter Try.func17,Try.ntmps17
     go_wp2_with (go_at_call 25;refine (open_calls A0 c0 l0 ⟨a1,0⟩ _ HR0.out HC0.out HD.out HL.out).mono ?_;rintro e w2 ⟨hb2,hm⟩;rw [HX.out] at hm;dsimp only at hm;rw [if_neg HM.out,HLA.out,HPT.out.1,HPT.out.2.1,HPT.out.2.2] at hm;obtain ⟨B,rfl,-⟩:=hm;have HB2:=am (HB0.out.trans (hb2.mono HB0.out.size));have HW2:=am hb2;clear hb2)
     go_ret2
     exact ⟨rfl,HB2.out⟩
    | true =>
     rw [if_neg (by decide)] at h
     have HPL:=am (show pp < l.length by obtain ⟨h1,_⟩:=(Ht.there_at (Ht.right_iff.1 HRL.out.1).2 a1).1 HPT.out.2.1;have:=HPT.out.1;omega)
     have hpl:=HPL.out
     rw [Ht.getD_at HPL.out] at h
     obtain ⟨rfl,rfl⟩:=Prod.mk.inj h
     clear h
     go_enter Try.func17,Try.ntmps17
     go_wp2_with (go_at_call 25;refine (open_calls A0 c0 l0 ⟨a1,0⟩ _ HR0.out HC0.out HD.out HL.out).mono ?_;rintro e w2 ⟨hb2,hm⟩;rw [HX.out] at hm;dsimp only at hm;rw [if_neg HM.out,HLA.out,HPT.out.1,HPT.out.2.1,HPT.out.2.2] at hm;obtain ⟨B,rfl,A1,c1,A2,c2,hT1,hT2,hT3,hT4,hT5⟩:=hm;have hcB:=(blk_cell hT1 2).trans rfl;obtain ⟨ad2,A5,c5,ead,hcl,hl5,hr5⟩:=leaf_at hT4 (an:Int) (by omega) (by omega);cases ead;rw [Int.toNat_natCast,HLQ.out] at hcl hl5 hr5;have HT1:=am hT1;have HT2:=am hT2;have HT3:=am hT3;have HT4:=am hT4;have HT5:=am hT5;have HR5:=am hr5;have HL5:=am hl5;clear hT1 hT2 hT3 hT4 hT5 hr5 hl5;obtain ⟨ad5,ead,-,hci⟩:=at_T30 HR5.out (pp:Int) (by omega) (by have:=HPL.out;omega);cases ead;rw [Int.toNat_natCast,Lf.rdT_get HPL.out] at hci;have HB2:=am (HB0.out.trans (hb2.mono HB0.out.size));have HW2:=am hb2;clear hb2)
     go_ret2
     exact ⟨rfl,HB2.out⟩
 ·rw [if_neg hd] at h
  cases h
def l_12_alive.f (k:Nat)  : Option (Bool):=(htree_New.f k).bind fun t200=>((htree_Add.f t200 (⟨#[97]⟩:ByteArray) 7).bind fun bt203=>((htree_Find.f bt203.1 (⟨#[97]⟩:ByteArray)).bind fun bt207=>((htree_Add.f bt203.1 (⟨#[97]⟩:ByteArray) 0).bind fun bt209=>(if bt203.2=0 then (if bt207.2=0 then (if bt207.1=7 then (if bt209.2=4 then ((htree_Check.f ([]:List (List Int))).bind fun t213=>(some (t213==13))) else (some false)) else (some false)) else (some false)) else (some false)))))
set_option maxHeartbeats 8000000 in
set_option maxRecDepth 100000 in
theorem l_12_alive.calls (k:Nat)  (r:Bool) (w:World) (h:l_12_alive.f k  = some r) :
  Calls Try.prog 7 #[] w fun e w'=>e=.returned (.bool r)∧Below w.heap.size w w':=by
 have hu30:=Try.underlying30
 have HB:=am (Below.refl w.heap.size w)
 have H:((htree_New.f k).bind fun t200=>((htree_Add.f t200 (⟨#[97]⟩:ByteArray) 7).bind fun bt203=>((htree_Find.f bt203.1 (⟨#[97]⟩:ByteArray)).bind fun bt207=>((htree_Add.f bt203.1 (⟨#[97]⟩:ByteArray) 0).bind fun bt209=>(if bt203.2=0 then (if bt207.2=0 then (if bt207.1=7 then (if bt209.2=4 then ((htree_Check.f ([]:List (List Int))).bind fun t213=>(some (t213==13))) else (some false)) else (some false)) else (some false)) else (some false))))))=some r:=h
 clear h
 replace H:=Option.bind_eq_some_iff.mp H
 obtain ⟨t200,A10,H⟩:=H
 replace H:((htree_Add.f t200 (⟨#[97]⟩:ByteArray) 7).bind fun bt203=>((htree_Find.f bt203.1 (⟨#[97]⟩:ByteArray)).bind fun bt207=>((htree_Add.f bt203.1 (⟨#[97]⟩:ByteArray) 0).bind fun bt209=>(if bt203.2=0 then (if bt207.2=0 then (if bt207.1=7 then (if bt209.2=4 then ((htree_Check.f ([]:List (List Int))).bind fun t213=>(some (t213==13))) else (some false)) else (some false)) else (some false)) else (some false)))))=some r:=H
 have A1:=am A10
 clear A10
 replace H:=Option.bind_eq_some_iff.mp H
 obtain ⟨⟨t203,t206⟩,A20,H⟩:=H
 replace H:((htree_Find.f t203 (⟨#[97]⟩:ByteArray)).bind fun bt207=>((htree_Add.f t203 (⟨#[97]⟩:ByteArray) 0).bind fun bt209=>(if t206=0 then (if bt207.2=0 then (if bt207.1=7 then (if bt209.2=4 then ((htree_Check.f ([]:List (List Int))).bind fun t213=>(some (t213==13))) else (some false)) else (some false)) else (some false)) else (some false))))=some r:=H
 have A2:=am A20
 clear A20
 replace H:=Option.bind_eq_some_iff.mp H
 obtain ⟨⟨t207,t208⟩,A30,H⟩:=H
 replace H:((htree_Add.f t203 (⟨#[97]⟩:ByteArray) 0).bind fun bt209=>(if t206=0 then (if t208=0 then (if t207=7 then (if bt209.2=4 then ((htree_Check.f ([]:List (List Int))).bind fun t213=>(some (t213==13))) else (some false)) else (some false)) else (some false)) else (some false)))=some r:=H
 have A3:=am A30
 clear A30
 replace H:=Option.bind_eq_some_iff.mp H
 obtain ⟨⟨t209,t212⟩,A40,H⟩:=H
 replace H:(if t206=0 then (if t208=0 then (if t207=7 then (if t212=4 then ((htree_Check.f ([]:List (List Int))).bind fun t213=>(some (t213==13))) else (some false)) else (some false)) else (some false)) else (some false))=some r:=H
 have A4:=am A40
 clear A40
 by_cases c5:t206=0
 ·rw [if_pos c5] at H
  have c5b0:(t206==0)=true:=beq_iff_eq.mpr c5
  have c5b1:(t206 != 0)=false:=bne_eq_false_iff_eq.mpr c5
  clear c5
  by_cases c6:t208=0
  ·rw [if_pos c6] at H
   have c6b0:(t208==0)=true:=beq_iff_eq.mpr c6
   have c6b1:(t208 != 0)=false:=bne_eq_false_iff_eq.mpr c6
   clear c6
   by_cases c7:t207=7
   ·rw [if_pos c7] at H
    have c7b0:(t207==7)=true:=beq_iff_eq.mpr c7
    have c7b1:(t207 != 7)=false:=bne_eq_false_iff_eq.mpr c7
    clear c7
    by_cases c8:t212=4
    ·rw [if_pos c8] at H
     have c8b0:(t212==4)=true:=beq_iff_eq.mpr c8
     have c8b1:(t212 != 4)=false:=bne_eq_false_iff_eq.mpr c8
     clear c8
     replace H:=Option.bind_eq_some_iff.mp H
     obtain ⟨t213,A90,H⟩:=H
     replace H:(some (t213==13))=some r:=H
     have A9:=am A90
     clear A90;obtain rfl:=Option.some.inj H
     go_enter Try.func7,Try.ntmps7
     go_wp2_with (first|((with_reducible refine gate_callee (f:=12) rfl ?_);refine goesL_ (some 8) rfl rfl Try.func12 (by kernel_rfl) rfl #[] rfl (by (try simp only [List.map_toArray,List.map_cons,List.map_nil]);first|done|rfl|(simp only [List.length_drop,List.length_take];rfl)) ?_;(with_reducible refine (htree_New.calls k  t200 _ A1.out).mono ?_);rintro e w10 ⟨v201,rfl,ho0,hb⟩;refine ⟨_,rfl,?_⟩;have n0_:=am (Kd.N_lower (Kd.N_mono (ok':=fun k_=>True) ho0 (fun k_ hk_=>trivial)) (bz HB));have n1_:=bst HB hb;clear HB;have HO202:=n0_;have HB:=n1_;clear n0_ n1_;(try clear hb);(try clear hb2);(try clear hk);(try clear hi);(try clear ho0);obtain ⟨Ao11,co11,eo11⟩:=Kd.N_slice HO202.out;subst eo11)|((with_reducible refine gate_callee (f:=13) rfl ?_);refine goesL_ (some 10) rfl rfl Try.func13 (by kernel_rfl) rfl #[.slice Ao11 t200.length co11,.agg #[.string (⟨#[97]⟩:ByteArray),.int .i64 7]] rfl (by (try simp only [List.map_toArray,List.map_cons,List.map_nil]);first|done|rfl|(simp only [List.length_drop,List.length_take];rfl)) ?_;(with_reducible refine (htree_Add.calls _ _ t200 (⟨#[97]⟩:ByteArray) 7 t203 t206 _ ?side1 ?side2 A2.out).mono ?_);(case side1=>exact cc (Kd.N_reads' HO202.out).2.2);(case side2=>exact (Kd.N_reads' HO202.out).2.1);rintro e w12 ⟨v204,rfl,ho0,hb⟩;refine ⟨_,rfl,?_⟩;have n0_:=am (Kd.N_elder' (by (with_reducible repeat (first|apply Kd.N_alloc|apply Kd.N_drewN|apply Kd.N_drew));exact HO202.out) (by first|exact Kd.N_base ho0|exact Kd.S_base ho0) hb);have n1_:=am (Kd.N_lower (Kd.N_mono (ok':=fun k_=>some k_≠(.slice Ao11 t200.length co11:Value).ownBlock) (Kd.S_N (Kd.S_bound ho0)) (fun k_ hk_=>(Kd.fresh' (Kd.N_lt (by (with_reducible repeat (first|apply Kd.N_alloc|apply Kd.N_drewN|apply Kd.N_drew));exact HO202.out)) k_ hk_.2.1))) (bz HB));have n2_:=bst HB hb;clear HO202;clear HB;have HO202:=n0_;have HO205:=n1_;have HB:=n2_;clear n0_ n1_ n2_;(try clear hb);(try clear hb2);(try clear hk);(try clear hi);(try clear ho0);obtain ⟨Ao13,co13,eo13⟩:=Kd.N_slice HO205.out;subst eo13)|((with_reducible refine gate_callee (f:=17) rfl ?_);refine goesL_ (some 15) rfl rfl Try.func17 (by kernel_rfl) rfl #[.slice Ao13 t203.length co13,.string (⟨#[97]⟩:ByteArray)] rfl (by (try simp only [List.map_toArray,List.map_cons,List.map_nil]);first|done|rfl|(simp only [List.length_drop,List.length_take];rfl)) ?_;(with_reducible refine (htree_Find.calls _ _ t203 (⟨#[97]⟩:ByteArray) t207 t208 _ ?side1 ?side2 A3.out).mono ?_);(case side1=>exact cc (Kd.N_reads' HO205.out).2.2);(case side2=>exact (Kd.N_reads' HO205.out).2.1);rintro e w14 ⟨rfl,hb⟩;refine ⟨_,rfl,?_⟩;have n0_:=am (Kd.N_below (by (with_reducible repeat (first|apply Kd.N_alloc|apply Kd.N_drewN|apply Kd.N_drew));exact HO202.out) hb);have n1_:=am (Kd.N_below (by (with_reducible repeat (first|apply Kd.N_alloc|apply Kd.N_drewN|apply Kd.N_drew));exact HO205.out) hb);have n2_:=bst HB hb;clear HO202;clear HO205;clear HB;have HO202:=n0_;have HO205:=n1_;have HB:=n2_;clear n0_ n1_ n2_;(try clear hb);(try clear hb2);(try clear hk);(try clear hi))|((with_reducible refine gate_callee (f:=13) rfl ?_);refine goesL_ (some 21) rfl rfl Try.func13 (by kernel_rfl) rfl #[.slice Ao13 t203.length co13,.agg #[.string (⟨#[97]⟩:ByteArray),.int .i64 0]] rfl (by (try simp only [List.map_toArray,List.map_cons,List.map_nil]);first|done|rfl|(simp only [List.length_drop,List.length_take];rfl)) ?_;(with_reducible refine (htree_Add.calls _ _ t203 (⟨#[97]⟩:ByteArray) 0 t209 t212 _ ?side1 ?side2 A4.out).mono ?_);(case side1=>exact cc (Kd.N_reads' HO205.out).2.2);(case side2=>exact (Kd.N_reads' HO205.out).2.1);rintro e w15 ⟨v210,rfl,ho0,hb⟩;refine ⟨_,rfl,?_⟩;have n0_:=am (Kd.N_elder' (by (with_reducible repeat (first|apply Kd.N_alloc|apply Kd.N_drewN|apply Kd.N_drew));exact HO202.out) (by first|exact Kd.N_base ho0|exact Kd.S_base ho0) hb);have n1_:=am (Kd.N_elder' (by (with_reducible repeat (first|apply Kd.N_alloc|apply Kd.N_drewN|apply Kd.N_drew));exact HO205.out) (by first|exact Kd.N_base ho0|exact Kd.S_base ho0) hb);have n2_:=am (Kd.N_lower (Kd.N_mono (ok':=fun k_=>some k_≠(.slice Ao11 t200.length co11:Value).ownBlock∧some k_≠(.slice Ao13 t203.length co13:Value).ownBlock) (Kd.S_N (Kd.S_bound ho0)) (fun k_ hk_=>⟨(Kd.fresh' (Kd.N_lt (by (with_reducible repeat (first|apply Kd.N_alloc|apply Kd.N_drewN|apply Kd.N_drew));exact HO202.out)) k_ hk_.2.1),(Kd.fresh' (Kd.N_lt (by (with_reducible repeat (first|apply Kd.N_alloc|apply Kd.N_drewN|apply Kd.N_drew));exact HO205.out)) k_ hk_.2.1)⟩)) (bz HB));have n3_:=bst HB hb;clear HO202;clear HO205;clear HB;have HO202:=n0_;have HO205:=n1_;have HO211:=n2_;have HB:=n3_;clear n0_ n1_ n2_ n3_;(try clear hb);(try clear hb2);(try clear hk);(try clear hi);(try clear ho0))|(go_at_call 8;(refine (htree_Check.calls _ _ ([]:List (List Int)) t213 _ ?side1 ?side2 A9.out).mono ?_);(case side1=>exact Kd.C_nil _ _);(case side2=>exact Nat.le_refl _);rintro e w16 ⟨rfl,hb⟩;have n0_:=am (Kd.N_below (by (with_reducible repeat (first|apply Kd.N_alloc|apply Kd.N_drewN|apply Kd.N_drew));exact HO202.out) hb);have n1_:=am (Kd.N_below (by (with_reducible repeat (first|apply Kd.N_alloc|apply Kd.N_drewN|apply Kd.N_drew));exact HO205.out) hb);have n2_:=am (Kd.N_below (by (with_reducible repeat (first|apply Kd.N_alloc|apply Kd.N_drewN|apply Kd.N_drew));exact HO211.out) hb);have n3_:=bst HB hb;clear HO202;clear HO205;clear HO211;clear HB;have HO202:=n0_;have HO205:=n1_;have HO211:=n2_;have HB:=n3_;clear n0_ n1_ n2_ n3_;(try clear hb);(try clear hb2);(try clear hk);(try clear hi)))
     go_ret
     exact ⟨by first|rfl|(simp [errW_none,errW_some]<;>rfl)|(simp [*,errW_none,errW_some]<;>rfl),bb HB⟩
    ·rw [if_neg c8] at H
     have c8b0:(t212==4)=false:=beq_eq_false_iff_ne.mpr c8
     have c8b1:(t212 != 4)=true:=bne_iff_ne.mpr c8
     obtain rfl:=Option.some.inj H
     go_enter Try.func7,Try.ntmps7
     go_wp2_with (first|((with_reducible refine gate_callee (f:=12) rfl ?_);refine goesL_ (some 8) rfl rfl Try.func12 (by kernel_rfl) rfl #[] rfl (by (try simp only [List.map_toArray,List.map_cons,List.map_nil]);first|done|rfl|(simp only [List.length_drop,List.length_take];rfl)) ?_;(with_reducible refine (htree_New.calls k  t200 _ A1.out).mono ?_);rintro e w17 ⟨v201,rfl,ho0,hb⟩;refine ⟨_,rfl,?_⟩;have n0_:=am (Kd.N_lower (Kd.N_mono (ok':=fun k_=>True) ho0 (fun k_ hk_=>trivial)) (bz HB));have n1_:=bst HB hb;clear HB;have HO202:=n0_;have HB:=n1_;clear n0_ n1_;(try clear hb);(try clear hb2);(try clear hk);(try clear hi);(try clear ho0);obtain ⟨Ao18,co18,eo18⟩:=Kd.N_slice HO202.out;subst eo18)|((with_reducible refine gate_callee (f:=13) rfl ?_);refine goesL_ (some 10) rfl rfl Try.func13 (by kernel_rfl) rfl #[.slice Ao18 t200.length co18,.agg #[.string (⟨#[97]⟩:ByteArray),.int .i64 7]] rfl (by (try simp only [List.map_toArray,List.map_cons,List.map_nil]);first|done|rfl|(simp only [List.length_drop,List.length_take];rfl)) ?_;(with_reducible refine (htree_Add.calls _ _ t200 (⟨#[97]⟩:ByteArray) 7 t203 t206 _ ?side1 ?side2 A2.out).mono ?_);(case side1=>exact cc (Kd.N_reads' HO202.out).2.2);(case side2=>exact (Kd.N_reads' HO202.out).2.1);rintro e w19 ⟨v204,rfl,ho0,hb⟩;refine ⟨_,rfl,?_⟩;have n0_:=am (Kd.N_elder' (by (with_reducible repeat (first|apply Kd.N_alloc|apply Kd.N_drewN|apply Kd.N_drew));exact HO202.out) (by first|exact Kd.N_base ho0|exact Kd.S_base ho0) hb);have n1_:=am (Kd.N_lower (Kd.N_mono (ok':=fun k_=>some k_≠(.slice Ao18 t200.length co18:Value).ownBlock) (Kd.S_N (Kd.S_bound ho0)) (fun k_ hk_=>(Kd.fresh' (Kd.N_lt (by (with_reducible repeat (first|apply Kd.N_alloc|apply Kd.N_drewN|apply Kd.N_drew));exact HO202.out)) k_ hk_.2.1))) (bz HB));have n2_:=bst HB hb;clear HO202;clear HB;have HO202:=n0_;have HO205:=n1_;have HB:=n2_;clear n0_ n1_ n2_;(try clear hb);(try clear hb2);(try clear hk);(try clear hi);(try clear ho0);obtain ⟨Ao20,co20,eo20⟩:=Kd.N_slice HO205.out;subst eo20)|((with_reducible refine gate_callee (f:=17) rfl ?_);refine goesL_ (some 15) rfl rfl Try.func17 (by kernel_rfl) rfl #[.slice Ao20 t203.length co20,.string (⟨#[97]⟩:ByteArray)] rfl (by (try simp only [List.map_toArray,List.map_cons,List.map_nil]);first|done|rfl|(simp only [List.length_drop,List.length_take];rfl)) ?_;(with_reducible refine (htree_Find.calls _ _ t203 (⟨#[97]⟩:ByteArray) t207 t208 _ ?side1 ?side2 A3.out).mono ?_);(case side1=>exact cc (Kd.N_reads' HO205.out).2.2);(case side2=>exact (Kd.N_reads' HO205.out).2.1);rintro e w21 ⟨rfl,hb⟩;refine ⟨_,rfl,?_⟩;have n0_:=am (Kd.N_below (by (with_reducible repeat (first|apply Kd.N_alloc|apply Kd.N_drewN|apply Kd.N_drew));exact HO202.out) hb);have n1_:=am (Kd.N_below (by (with_reducible repeat (first|apply Kd.N_alloc|apply Kd.N_drewN|apply Kd.N_drew));exact HO205.out) hb);have n2_:=bst HB hb;clear HO202;clear HO205;clear HB;have HO202:=n0_;have HO205:=n1_;have HB:=n2_;clear n0_ n1_ n2_;(try clear hb);(try clear hb2);(try clear hk);(try clear hi))|((with_reducible refine gate_callee (f:=13) rfl ?_);refine goesL_ (some 21) rfl rfl Try.func13 (by kernel_rfl) rfl #[.slice Ao20 t203.length co20,.agg #[.string (⟨#[97]⟩:ByteArray),.int .i64 0]] rfl (by (try simp only [List.map_toArray,List.map_cons,List.map_nil]);first|done|rfl|(simp only [List.length_drop,List.length_take];rfl)) ?_;(with_reducible refine (htree_Add.calls _ _ t203 (⟨#[97]⟩:ByteArray) 0 t209 t212 _ ?side1 ?side2 A4.out).mono ?_);(case side1=>exact cc (Kd.N_reads' HO205.out).2.2);(case side2=>exact (Kd.N_reads' HO205.out).2.1);rintro e w22 ⟨v210,rfl,ho0,hb⟩;refine ⟨_,rfl,?_⟩;have n0_:=am (Kd.N_elder' (by (with_reducible repeat (first|apply Kd.N_alloc|apply Kd.N_drewN|apply Kd.N_drew));exact HO202.out) (by first|exact Kd.N_base ho0|exact Kd.S_base ho0) hb);have n1_:=am (Kd.N_elder' (by (with_reducible repeat (first|apply Kd.N_alloc|apply Kd.N_drewN|apply Kd.N_drew));exact HO205.out) (by first|exact Kd.N_base ho0|exact Kd.S_base ho0) hb);have n2_:=am (Kd.N_lower (Kd.N_mono (ok':=fun k_=>some k_≠(.slice Ao18 t200.length co18:Value).ownBlock∧some k_≠(.slice Ao20 t203.length co20:Value).ownBlock) (Kd.S_N (Kd.S_bound ho0)) (fun k_ hk_=>⟨(Kd.fresh' (Kd.N_lt (by (with_reducible repeat (first|apply Kd.N_alloc|apply Kd.N_drewN|apply Kd.N_drew));exact HO202.out)) k_ hk_.2.1),(Kd.fresh' (Kd.N_lt (by (with_reducible repeat (first|apply Kd.N_alloc|apply Kd.N_drewN|apply Kd.N_drew));exact HO205.out)) k_ hk_.2.1)⟩)) (bz HB));have n3_:=bst HB hb;clear HO202;clear HO205;clear HB;have HO202:=n0_;have HO205:=n1_;have HO211:=n2_;have HB:=n3_;clear n0_ n1_ n2_ n3_;(try clear hb);(try clear hb2);(try clear hk);(try clear hi);(try clear ho0)))
     go_ret
     exact ⟨by first|rfl|(simp [errW_none,errW_some]<;>rfl)|(simp [*,errW_none,errW_some]<;>rfl),bb HB⟩
   ·rw [if_neg c7] at H
    have c7b0:(t207==7)=false:=beq_eq_false_iff_ne.mpr c7
    have c7b1:(t207 != 7)=true:=bne_iff_ne.mpr c7
    obtain rfl:=Option.some.inj H
    go_enter Try.func7,Try.ntmps7
    go_wp2_with (first|((with_reducible refine gate_callee (f:=12) rfl ?_);refine goesL_ (some 8) rfl rfl Try.func12 (by kernel_rfl) rfl #[] rfl (by (try simp only [List.map_toArray,List.map_cons,List.map_nil]);first|done|rfl|(simp only [List.length_drop,List.length_take];rfl)) ?_;(with_reducible refine (htree_New.calls k  t200 _ A1.out).mono ?_);rintro e w23 ⟨v201,rfl,ho0,hb⟩;refine ⟨_,rfl,?_⟩;have n0_:=am (Kd.N_lower (Kd.N_mono (ok':=fun k_=>True) ho0 (fun k_ hk_=>trivial)) (bz HB));have n1_:=bst HB hb;clear HB;have HO202:=n0_;have HB:=n1_;clear n0_ n1_;(try clear hb);(try clear hb2);(try clear hk);(try clear hi);(try clear ho0);obtain ⟨Ao24,co24,eo24⟩:=Kd.N_slice HO202.out;subst eo24)|((with_reducible refine gate_callee (f:=13) rfl ?_);refine goesL_ (some 10) rfl rfl Try.func13 (by kernel_rfl) rfl #[.slice Ao24 t200.length co24,.agg #[.string (⟨#[97]⟩:ByteArray),.int .i64 7]] rfl (by (try simp only [List.map_toArray,List.map_cons,List.map_nil]);first|done|rfl|(simp only [List.length_drop,List.length_take];rfl)) ?_;(with_reducible refine (htree_Add.calls _ _ t200 (⟨#[97]⟩:ByteArray) 7 t203 t206 _ ?side1 ?side2 A2.out).mono ?_);(case side1=>exact cc (Kd.N_reads' HO202.out).2.2);(case side2=>exact (Kd.N_reads' HO202.out).2.1);rintro e w25 ⟨v204,rfl,ho0,hb⟩;refine ⟨_,rfl,?_⟩;have n0_:=am (Kd.N_elder' (by (with_reducible repeat (first|apply Kd.N_alloc|apply Kd.N_drewN|apply Kd.N_drew));exact HO202.out) (by first|exact Kd.N_base ho0|exact Kd.S_base ho0) hb);have n1_:=am (Kd.N_lower (Kd.N_mono (ok':=fun k_=>some k_≠(.slice Ao24 t200.length co24:Value).ownBlock) (Kd.S_N (Kd.S_bound ho0)) (fun k_ hk_=>(Kd.fresh' (Kd.N_lt (by (with_reducible repeat (first|apply Kd.N_alloc|apply Kd.N_drewN|apply Kd.N_drew));exact HO202.out)) k_ hk_.2.1))) (bz HB));have n2_:=bst HB hb;clear HO202;clear HB;have HO202:=n0_;have HO205:=n1_;have HB:=n2_;clear n0_ n1_ n2_;(try clear hb);(try clear hb2);(try clear hk);(try clear hi);(try clear ho0);obtain ⟨Ao26,co26,eo26⟩:=Kd.N_slice HO205.out;subst eo26)|((with_reducible refine gate_callee (f:=17) rfl ?_);refine goesL_ (some 15) rfl rfl Try.func17 (by kernel_rfl) rfl #[.slice Ao26 t203.length co26,.string (⟨#[97]⟩:ByteArray)] rfl (by (try simp only [List.map_toArray,List.map_cons,List.map_nil]);first|done|rfl|(simp only [List.length_drop,List.length_take];rfl)) ?_;(with_reducible refine (htree_Find.calls _ _ t203 (⟨#[97]⟩:ByteArray) t207 t208 _ ?side1 ?side2 A3.out).mono ?_);(case side1=>exact cc (Kd.N_reads' HO205.out).2.2);(case side2=>exact (Kd.N_reads' HO205.out).2.1);rintro e w27 ⟨rfl,hb⟩;refine ⟨_,rfl,?_⟩;have n0_:=am (Kd.N_below (by (with_reducible repeat (first|apply Kd.N_alloc|apply Kd.N_drewN|apply Kd.N_drew));exact HO202.out) hb);have n1_:=am (Kd.N_below (by (with_reducible repeat (first|apply Kd.N_alloc|apply Kd.N_drewN|apply Kd.N_drew));exact HO205.out) hb);have n2_:=bst HB hb;clear HO202;clear HO205;clear HB;have HO202:=n0_;have HO205:=n1_;have HB:=n2_;clear n0_ n1_ n2_;(try clear hb);(try clear hb2);(try clear hk);(try clear hi))|((with_reducible refine gate_callee (f:=13) rfl ?_);refine goesL_ (some 21) rfl rfl Try.func13 (by kernel_rfl) rfl #[.slice Ao26 t203.length co26,.agg #[.string (⟨#[97]⟩:ByteArray),.int .i64 0]] rfl (by (try simp only [List.map_toArray,List.map_cons,List.map_nil]);first|done|rfl|(simp only [List.length_drop,List.length_take];rfl)) ?_;(with_reducible refine (htree_Add.calls _ _ t203 (⟨#[97]⟩:ByteArray) 0 t209 t212 _ ?side1 ?side2 A4.out).mono ?_);(case side1=>exact cc (Kd.N_reads' HO205.out).2.2);(case side2=>exact (Kd.N_reads' HO205.out).2.1);rintro e w28 ⟨v210,rfl,ho0,hb⟩;refine ⟨_,rfl,?_⟩;have n0_:=am (Kd.N_elder' (by (with_reducible repeat (first|apply Kd.N_alloc|apply Kd.N_drewN|apply Kd.N_drew));exact HO202.out) (by first|exact Kd.N_base ho0|exact Kd.S_base ho0) hb);have n1_:=am (Kd.N_elder' (by (with_reducible repeat (first|apply Kd.N_alloc|apply Kd.N_drewN|apply Kd.N_drew));exact HO205.out) (by first|exact Kd.N_base ho0|exact Kd.S_base ho0) hb);have n2_:=am (Kd.N_lower (Kd.N_mono (ok':=fun k_=>some k_≠(.slice Ao24 t200.length co24:Value).ownBlock∧some k_≠(.slice Ao26 t203.length co26:Value).ownBlock) (Kd.S_N (Kd.S_bound ho0)) (fun k_ hk_=>⟨(Kd.fresh' (Kd.N_lt (by (with_reducible repeat (first|apply Kd.N_alloc|apply Kd.N_drewN|apply Kd.N_drew));exact HO202.out)) k_ hk_.2.1),(Kd.fresh' (Kd.N_lt (by (with_reducible repeat (first|apply Kd.N_alloc|apply Kd.N_drewN|apply Kd.N_drew));exact HO205.out)) k_ hk_.2.1)⟩)) (bz HB));have n3_:=bst HB hb;clear HO202;clear HO205;clear HB;have HO202:=n0_;have HO205:=n1_;have HO211:=n2_;have HB:=n3_;clear n0_ n1_ n2_ n3_;(try clear hb);(try clear hb2);(try clear hk);(try clear hi);(try clear ho0)))
    go_ret
    exact ⟨by first|rfl|(simp [errW_none,errW_some]<;>rfl)|(simp [*,errW_none,errW_some]<;>rfl),bb HB⟩
  ·rw [if_neg c6] at H
   have c6b0:(t208==0)=false:=beq_eq_false_iff_ne.mpr c6
   have c6b1:(t208 != 0)=true:=bne_iff_ne.mpr c6
   obtain rfl:=Option.some.inj H
   go_enter Try.func7,Try.ntmps7
   go_wp2_with (first|((with_reducible refine gate_callee (f:=12) rfl ?_);refine goesL_ (some 8) rfl rfl Try.func12 (by kernel_rfl) rfl #[] rfl (by (try simp only [List.map_toArray,List.map_cons,List.map_nil]);first|done|rfl|(simp only [List.length_drop,List.length_take];rfl)) ?_;(with_reducible refine (htree_New.calls k  t200 _ A1.out).mono ?_);rintro e w29 ⟨v201,rfl,ho0,hb⟩;refine ⟨_,rfl,?_⟩;have n0_:=am (Kd.N_lower (Kd.N_mono (ok':=fun k_=>True) ho0 (fun k_ hk_=>trivial)) (bz HB));have n1_:=bst HB hb;clear HB;have HO202:=n0_;have HB:=n1_;clear n0_ n1_;(try clear hb);(try clear hb2);(try clear hk);(try clear hi);(try clear ho0);obtain ⟨Ao30,co30,eo30⟩:=Kd.N_slice HO202.out;subst eo30)|((with_reducible refine gate_callee (f:=13) rfl ?_);refine goesL_ (some 10) rfl rfl Try.func13 (by kernel_rfl) rfl #[.slice Ao30 t200.length co30,.agg #[.string (⟨#[97]⟩:ByteArray),.int .i64 7]] rfl (by (try simp only [List.map_toArray,List.map_cons,List.map_nil]);first|done|rfl|(simp only [List.length_drop,List.length_take];rfl)) ?_;(with_reducible refine (htree_Add.calls _ _ t200 (⟨#[97]⟩:ByteArray) 7 t203 t206 _ ?side1 ?side2 A2.out).mono ?_);(case side1=>exact cc (Kd.N_reads' HO202.out).2.2);(case side2=>exact (Kd.N_reads' HO202.out).2.1);rintro e w31 ⟨v204,rfl,ho0,hb⟩;refine ⟨_,rfl,?_⟩;have n0_:=am (Kd.N_elder' (by (with_reducible repeat (first|apply Kd.N_alloc|apply Kd.N_drewN|apply Kd.N_drew));exact HO202.out) (by first|exact Kd.N_base ho0|exact Kd.S_base ho0) hb);have n1_:=am (Kd.N_lower (Kd.N_mono (ok':=fun k_=>some k_≠(.slice Ao30 t200.length co30:Value).ownBlock) (Kd.S_N (Kd.S_bound ho0)) (fun k_ hk_=>(Kd.fresh' (Kd.N_lt (by (with_reducible repeat (first|apply Kd.N_alloc|apply Kd.N_drewN|apply Kd.N_drew));exact HO202.out)) k_ hk_.2.1))) (bz HB));have n2_:=bst HB hb;clear HO202;clear HB;have HO202:=n0_;have HO205:=n1_;have HB:=n2_;clear n0_ n1_ n2_;(try clear hb);(try clear hb2);(try clear hk);(try clear hi);(try clear ho0);obtain ⟨Ao32,co32,eo32⟩:=Kd.N_slice HO205.out;subst eo32)|((with_reducible refine gate_callee (f:=17) rfl ?_);refine goesL_ (some 15) rfl rfl Try.func17 (by kernel_rfl) rfl #[.slice Ao32 t203.length co32,.string (⟨#[97]⟩:ByteArray)] rfl (by (try simp only [List.map_toArray,List.map_cons,List.map_nil]);first|done|rfl|(simp only [List.length_drop,List.length_take];rfl)) ?_;(with_reducible refine (htree_Find.calls _ _ t203 (⟨#[97]⟩:ByteArray) t207 t208 _ ?side1 ?side2 A3.out).mono ?_);(case side1=>exact cc (Kd.N_reads' HO205.out).2.2);(case side2=>exact (Kd.N_reads' HO205.out).2.1);rintro e w33 ⟨rfl,hb⟩;refine ⟨_,rfl,?_⟩;have n0_:=am (Kd.N_below (by (with_reducible repeat (first|apply Kd.N_alloc|apply Kd.N_drewN|apply Kd.N_drew));exact HO202.out) hb);have n1_:=am (Kd.N_below (by (with_reducible repeat (first|apply Kd.N_alloc|apply Kd.N_drewN|apply Kd.N_drew));exact HO205.out) hb);have n2_:=bst HB hb;clear HO202;clear HO205;clear HB;have HO202:=n0_;have HO205:=n1_;have HB:=n2_;clear n0_ n1_ n2_;(try clear hb);(try clear hb2);(try clear hk);(try clear hi))|((with_reducible refine gate_callee (f:=13) rfl ?_);refine goesL_ (some 21) rfl rfl Try.func13 (by kernel_rfl) rfl #[.slice Ao32 t203.length co32,.agg #[.string (⟨#[97]⟩:ByteArray),.int .i64 0]] rfl (by (try simp only [List.map_toArray,List.map_cons,List.map_nil]);first|done|rfl|(simp only [List.length_drop,List.length_take];rfl)) ?_;(with_reducible refine (htree_Add.calls _ _ t203 (⟨#[97]⟩:ByteArray) 0 t209 t212 _ ?side1 ?side2 A4.out).mono ?_);(case side1=>exact cc (Kd.N_reads' HO205.out).2.2);(case side2=>exact (Kd.N_reads' HO205.out).2.1);rintro e w34 ⟨v210,rfl,ho0,hb⟩;refine ⟨_,rfl,?_⟩;have n0_:=am (Kd.N_elder' (by (with_reducible repeat (first|apply Kd.N_alloc|apply Kd.N_drewN|apply Kd.N_drew));exact HO202.out) (by first|exact Kd.N_base ho0|exact Kd.S_base ho0) hb);have n1_:=am (Kd.N_elder' (by (with_reducible repeat (first|apply Kd.N_alloc|apply Kd.N_drewN|apply Kd.N_drew));exact HO205.out) (by first|exact Kd.N_base ho0|exact Kd.S_base ho0) hb);have n2_:=am (Kd.N_lower (Kd.N_mono (ok':=fun k_=>some k_≠(.slice Ao30 t200.length co30:Value).ownBlock∧some k_≠(.slice Ao32 t203.length co32:Value).ownBlock) (Kd.S_N (Kd.S_bound ho0)) (fun k_ hk_=>⟨(Kd.fresh' (Kd.N_lt (by (with_reducible repeat (first|apply Kd.N_alloc|apply Kd.N_drewN|apply Kd.N_drew));exact HO202.out)) k_ hk_.2.1),(Kd.fresh' (Kd.N_lt (by (with_reducible repeat (first|apply Kd.N_alloc|apply Kd.N_drewN|apply Kd.N_drew));exact HO205.out)) k_ hk_.2.1)⟩)) (bz HB));have n3_:=bst HB hb;clear HO202;clear HO205;clear HB;have HO202:=n0_;have HO205:=n1_;have HO211:=n2_;have HB:=n3_;clear n0_ n1_ n2_ n3_;(try clear hb);(try clear hb2);(try clear hk);(try clear hi);(try clear ho0)))
   go_ret
   exact ⟨by first|rfl|(simp [errW_none,errW_some]<;>rfl)|(simp [*,errW_none,errW_some]<;>rfl),bb HB⟩
 ·rw [if_neg c5] at H
  have c5b0:(t206==0)=false:=beq_eq_false_iff_ne.mpr c5
  have c5b1:(t206 != 0)=true:=bne_iff_ne.mpr c5
  obtain rfl:=Option.some.inj H
  go_enter Try.func7,Try.ntmps7
  go_wp2_with (first|((with_reducible refine gate_callee (f:=12) rfl ?_);refine goesL_ (some 8) rfl rfl Try.func12 (by kernel_rfl) rfl #[] rfl (by (try simp only [List.map_toArray,List.map_cons,List.map_nil]);first|done|rfl|(simp only [List.length_drop,List.length_take];rfl)) ?_;(with_reducible refine (htree_New.calls k  t200 _ A1.out).mono ?_);rintro e w35 ⟨v201,rfl,ho0,hb⟩;refine ⟨_,rfl,?_⟩;have n0_:=am (Kd.N_lower (Kd.N_mono (ok':=fun k_=>True) ho0 (fun k_ hk_=>trivial)) (bz HB));have n1_:=bst HB hb;clear HB;have HO202:=n0_;have HB:=n1_;clear n0_ n1_;(try clear hb);(try clear hb2);(try clear hk);(try clear hi);(try clear ho0);obtain ⟨Ao36,co36,eo36⟩:=Kd.N_slice HO202.out;subst eo36)|((with_reducible refine gate_callee (f:=13) rfl ?_);refine goesL_ (some 10) rfl rfl Try.func13 (by kernel_rfl) rfl #[.slice Ao36 t200.length co36,.agg #[.string (⟨#[97]⟩:ByteArray),.int .i64 7]] rfl (by (try simp only [List.map_toArray,List.map_cons,List.map_nil]);first|done|rfl|(simp only [List.length_drop,List.length_take];rfl)) ?_;(with_reducible refine (htree_Add.calls _ _ t200 (⟨#[97]⟩:ByteArray) 7 t203 t206 _ ?side1 ?side2 A2.out).mono ?_);(case side1=>exact cc (Kd.N_reads' HO202.out).2.2);(case side2=>exact (Kd.N_reads' HO202.out).2.1);rintro e w37 ⟨v204,rfl,ho0,hb⟩;refine ⟨_,rfl,?_⟩;have n0_:=am (Kd.N_elder' (by (with_reducible repeat (first|apply Kd.N_alloc|apply Kd.N_drewN|apply Kd.N_drew));exact HO202.out) (by first|exact Kd.N_base ho0|exact Kd.S_base ho0) hb);have n1_:=am (Kd.N_lower (Kd.N_mono (ok':=fun k_=>some k_≠(.slice Ao36 t200.length co36:Value).ownBlock) (Kd.S_N (Kd.S_bound ho0)) (fun k_ hk_=>(Kd.fresh' (Kd.N_lt (by (with_reducible repeat (first|apply Kd.N_alloc|apply Kd.N_drewN|apply Kd.N_drew));exact HO202.out)) k_ hk_.2.1))) (bz HB));have n2_:=bst HB hb;clear HO202;clear HB;have HO202:=n0_;have HO205:=n1_;have HB:=n2_;clear n0_ n1_ n2_;(try clear hb);(try clear hb2);(try clear hk);(try clear hi);(try clear ho0);obtain ⟨Ao38,co38,eo38⟩:=Kd.N_slice HO205.out;subst eo38)|((with_reducible refine gate_callee (f:=17) rfl ?_);refine goesL_ (some 15) rfl rfl Try.func17 (by kernel_rfl) rfl #[.slice Ao38 t203.length co38,.string (⟨#[97]⟩:ByteArray)] rfl (by (try simp only [List.map_toArray,List.map_cons,List.map_nil]);first|done|rfl|(simp only [List.length_drop,List.length_take];rfl)) ?_;(with_reducible refine (htree_Find.calls _ _ t203 (⟨#[97]⟩:ByteArray) t207 t208 _ ?side1 ?side2 A3.out).mono ?_);(case side1=>exact cc (Kd.N_reads' HO205.out).2.2);(case side2=>exact (Kd.N_reads' HO205.out).2.1);rintro e w39 ⟨rfl,hb⟩;refine ⟨_,rfl,?_⟩;have n0_:=am (Kd.N_below (by (with_reducible repeat (first|apply Kd.N_alloc|apply Kd.N_drewN|apply Kd.N_drew));exact HO202.out) hb);have n1_:=am (Kd.N_below (by (with_reducible repeat (first|apply Kd.N_alloc|apply Kd.N_drewN|apply Kd.N_drew));exact HO205.out) hb);have n2_:=bst HB hb;clear HO202;clear HO205;clear HB;have HO202:=n0_;have HO205:=n1_;have HB:=n2_;clear n0_ n1_ n2_;(try clear hb);(try clear hb2);(try clear hk);(try clear hi))|((with_reducible refine gate_callee (f:=13) rfl ?_);refine goesL_ (some 21) rfl rfl Try.func13 (by kernel_rfl) rfl #[.slice Ao38 t203.length co38,.agg #[.string (⟨#[97]⟩:ByteArray),.int .i64 0]] rfl (by (try simp only [List.map_toArray,List.map_cons,List.map_nil]);first|done|rfl|(simp only [List.length_drop,List.length_take];rfl)) ?_;(with_reducible refine (htree_Add.calls _ _ t203 (⟨#[97]⟩:ByteArray) 0 t209 t212 _ ?side1 ?side2 A4.out).mono ?_);(case side1=>exact cc (Kd.N_reads' HO205.out).2.2);(case side2=>exact (Kd.N_reads' HO205.out).2.1);rintro e w40 ⟨v210,rfl,ho0,hb⟩;refine ⟨_,rfl,?_⟩;have n0_:=am (Kd.N_elder' (by (with_reducible repeat (first|apply Kd.N_alloc|apply Kd.N_drewN|apply Kd.N_drew));exact HO202.out) (by first|exact Kd.N_base ho0|exact Kd.S_base ho0) hb);have n1_:=am (Kd.N_elder' (by (with_reducible repeat (first|apply Kd.N_alloc|apply Kd.N_drewN|apply Kd.N_drew));exact HO205.out) (by first|exact Kd.N_base ho0|exact Kd.S_base ho0) hb);have n2_:=am (Kd.N_lower (Kd.N_mono (ok':=fun k_=>some k_≠(.slice Ao36 t200.length co36:Value).ownBlock∧some k_≠(.slice Ao38 t203.length co38:Value).ownBlock) (Kd.S_N (Kd.S_bound ho0)) (fun k_ hk_=>⟨(Kd.fresh' (Kd.N_lt (by (with_reducible repeat (first|apply Kd.N_alloc|apply Kd.N_drewN|apply Kd.N_drew));exact HO202.out)) k_ hk_.2.1),(Kd.fresh' (Kd.N_lt (by (with_reducible repeat (first|apply Kd.N_alloc|apply Kd.N_drewN|apply Kd.N_drew));exact HO205.out)) k_ hk_.2.1)⟩)) (bz HB));have n3_:=bst HB hb;clear HO202;clear HO205;clear HB;have HO202:=n0_;have HO205:=n1_;have HO211:=n2_;have HB:=n3_;clear n0_ n1_ n2_ n3_;(try clear hb);(try clear hb2);(try clear hk);(try clear hi);(try clear ho0)))
  go_ret
  exact ⟨by first|rfl|(simp [errW_none,errW_some]<;>rfl)|(simp [*,errW_none,errW_some]<;>rfl),bb HB⟩
end Go.Proofs.Yteglhbfhibfodaa.Pr
end
section
namespace Go.Proofs.Yteglhbfhibfodaa.Pr
open Go Go.RowKit Go.Shelf Go.Proofs.YteglhbfhibfodaaW.PrintWords Go.Proofs.YteglhbfhibfodaaW.PrintLast Go.Proofs.YteglhbfhibfodaaW.PrintMore Go.Proofs.Yteglhbfhibfodaa.Sq
set_option linter.unusedVariables false
set_option linter.unusedSimpArgs false
def OffRow (W : World) (b k : Nat) : Prop := ∀ v, W.cell? ⟨b, 0, none⟩ = some v → v.ownBlock ≠ some k
def Free (d : Nat) (bs : List Nat) (W : World) (k : Nat) : Prop := k ≠ d + 1 ∧ ∀ b ∈ bs, k ≠ b ∧ OffRow W b k
def KpF (d : Nat) (bs : List Nat) (W W' : World) : Prop := W.heap.size ≤ W'.heap.size ∧ ∀ k cs t, W.heap[k]? = some (.cells cs t (0, 0)) → Free d bs W k → W'.heap[k]? = some (.cells cs t (0, 0)) ∧ Free d bs W' k
theorem KpF.trans {d : Nat} {bs : List Nat} {A B C : World} (h : KpF d bs A B) (g : KpF d bs B C) : KpF d bs A C :=
  ⟨Nat.le_trans h.1 g.1, fun k cs t hk hf => by
    obtain ⟨h1, h2⟩ := h.2 k cs t hk hf
    exact g.2 k cs t h1 h2⟩
theorem cell_of_heap {A B : World} {b : Nat} (h : B.heap[b]? = A.heap[b]?) : B.cell? ⟨b, 0, none⟩ = A.cell? ⟨b, 0, none⟩ := by
  unfold World.cell?; rw [h]
theorem KpF.put {d : Nat} {bs : List Nat} (hb : ∀ b ∈ bs, b < d) (W : World) (o : Obj) : KpF d bs W (W.putObj (d + 1) o) :=
  ⟨by simp [World.putObj], fun k cs t hk hf => ⟨(World.putObj_heap_other hf.1).trans hk, hf.1, fun b hbb => ⟨(hf.2 b hbb).1, fun v hv => (hf.2 b hbb).2 v (by
    rw [cell_of_heap (World.putObj_heap_other (by have := hb b hbb; omega))] at hv; exact hv)⟩⟩⟩
theorem Free.below {d : Nat} {bs : List Nat} {A B : World} {k : Nat} (hA : ∀ b ∈ bs, b < A.heap.size) (h : Below A.heap.size A B) (hf : Free d bs A k) : Free d bs B k :=
  ⟨hf.1, fun b hb => ⟨(hf.2 b hb).1, fun v hv => (hf.2 b hb).2 v (by
    rw [cell_of_heap (h.block b (hA b hb))] at hv; exact hv)⟩⟩
structure Own1 (d : Nat) (bs : List Nat) (W : World) (k : Nat) (cs : Array Value) (t : TypeId) : Prop where
  at_ : W.heap[k]? = some (.cells cs t (0, 0))
  free : Free d bs W k
theorem Own1.kept {d : Nat} {bs : List Nat} {A B : World} {k : Nat} {cs : Array Value} {t : TypeId} (h : Own1 d bs A k cs t) (hk : KpF d bs A B) : Own1 d bs B k cs t := by
  obtain ⟨h1, h2⟩ := hk.2 k _ _ h.at_ h.free
  exact ⟨h1, h2⟩
theorem Own1.below {d : Nat} {bs : List Nat} {A B : World} {k : Nat} {cs : Array Value} {t : TypeId} (h : Own1 d bs A k cs t) (hA : ∀ b ∈ bs, b < A.heap.size) (hk : Below A.heap.size A B) : Own1 d bs B k cs t :=
  ⟨blk_below h.at_ hk, h.free.below hA hk⟩
theorem own_ge {W : World} {base : Nat} {e : TypeId} {size : Nat} {v : Value} {k : Nat} {xs : List Value} (h : W.ownsRow base e size v k xs) {g : Nat} (hg : v.ownBlock = some g) : base ≤ g ∧ ∃ cs, W.heap[g]? = some (.cells cs e (0, 0)) := by
  rcases h.2 with ⟨rfl, _⟩ | ⟨g', cap, cur, rfl, hb, hh, _⟩
  · simp [Value.ownBlock] at hg
  · obtain rfl : g' = g := by simpa [Value.ownBlock] using hg
    exact ⟨hb, cur, hh⟩
theorem own_of_heap {W W' : World} {base : Nat} {e : TypeId} {size : Nat} {v : Value} {k : Nat} {xs : List Value} (h : W.ownsRow base e size v k xs) (hs : ∀ g, v.ownBlock = some g → W'.heap[g]? = W.heap[g]?) : W'.ownsRow base e size v k xs :=
  ⟨h.1, h.2.imp id (fun ⟨g, cap, cur, ev, hb, hg, r⟩ => ⟨g, cap, cur, ev, hb, (hs g (by rw [ev]; rfl)).trans hg, r⟩)⟩
structure LB {α : Type} (e sz tb : Nat) (cells : α → List Value) (bb b : Nat) (xs : List α) (v : Value) (W : World) : Prop where
  box : W.heap[b]? = some (.cells #[v] tb (0, 0))
  row : W.ownsRow bb e sz v xs.length (xs.flatMap cells)
section
variable {α : Type} {e sz tb bb b : Nat} {cells : α → List Value} {xs : List α} {v : Value} {W W' : World}
theorem LB.heap (h : LB e sz tb cells bb b xs v W) (h1 : W'.heap[b]? = W.heap[b]?) (h2 : ∀ g, v.ownBlock = some g → W'.heap[g]? = W.heap[g]?) : LB e sz tb cells bb b xs v W' :=
  ⟨h1.trans h.box, own_of_heap h.row h2⟩
theorem LB.below (h : LB e sz tb cells bb b xs v W) (hb : Below W.heap.size W W') : LB e sz tb cells bb b xs v W' :=
  h.heap (hb.block b (blk_lt h.box)) (fun g hg => by obtain ⟨_, cs, hh⟩ := own_ge h.row hg; exact hb.block g (blk_lt hh))
theorem LB.grown (h : LB e sz tb cells bb b xs v W) {row : Option Nat} (hg : W.grownBy W' row) (hr : ∀ r, row = some r → ∃ o : Obj, W.heap[r]? = some o ∧ o.isCells = false) : LB e sz tb cells bb b xs v W' := by
  have key : ∀ k cs t fr, W.heap[k]? = some (Obj.cells cs t fr) → W'.heap[k]? = W.heap[k]? := fun k cs t fr hk => hg.block k (blk_lt hk) (fun ee => by
    obtain ⟨o, ho, hc⟩ := hr k ee.symm
    rw [hk] at ho; cases ho; cases hc)
  exact h.heap (key b _ _ _ h.box) (fun g hgv => by obtain ⟨_, cs, hh⟩ := own_ge h.row hgv; exact key g _ _ _ hh)
theorem LB.cell (h : LB e sz tb cells bb b xs v W) : W.cell? ⟨b, 0, none⟩ = some v := blk_cell h.box 0
theorem LB.off (h : LB e sz tb cells bb b xs v W) {k : Nat} (hk : W.heap.size ≤ k) : OffRow W b k := fun u hu eo => by
  rw [h.cell] at hu
  injection hu with hu
  subst hu
  obtain ⟨_, cs, hh⟩ := own_ge h.row eo
  have := blk_lt hh
  omega
theorem LB.slice (h : LB e sz tb cells bb b xs v W) : ∃ A c, v = .slice A xs.length c := by
  rcases h.row.2 with ⟨e1, e2⟩ | ⟨g, cap, cur, e1, _⟩
  · exact ⟨none, 0, by rw [e1, e2]⟩
  · exact ⟨_, _, e1⟩
theorem LB.app (h : LB e sz tb cells bb b xs v W) (hbb : b < bb) {tmp : Obj} {w1 : World} {v' : Value} {y : α} (hgrow : (W.alloc tmp).grownBy w1 v.ownBlock) (hown : w1.ownsRow bb e sz v' (xs.length + 1) (xs.flatMap cells ++ cells y)) :
    w1.heap[b]? = some (.cells #[v] tb (0, 0)) ∧ LB e sz tb cells bb b (xs ++ [y]) v' (w1.setCell ⟨b, 0, none⟩ v') := by
  have h1 : w1.heap[b]? = some (.cells #[v] tb (0, 0)) := (hgrow.block b (by have := blk_lt h.box; simp; omega) (fun ee => by have := (own_ge h.row ee.symm).1; omega)).trans (blk_alloc h.box tmp)
  refine ⟨h1, blk_put h1 0 v' rfl, own_of_heap (W := w1) ?_ (fun g hg => Below.heap_setCell w1 ⟨b, 0, none⟩ v' g (fun ee => by have := (own_ge hown hg).1; have e2 : g = b := ee; omega))⟩
  rw [List.length_append, List.flatMap_append]
  simpa using hown
theorem LB.keeps (h : LB e sz tb cells bb b xs v W) {tmp : Obj} {w1 : World} (v' : Value) (hgrow : (W.alloc tmp).grownBy w1 v.ownBlock) : KeepsOthers W (w1.setCell ⟨b, 0, none⟩ v') := by
  refine ((KeepsOthers.alloc W tmp).trans (KeepsOthers.of_grownBy hgrow fun j o ej hj => ?_)).trans (KeepsOthers.setCell _ _ _)
  obtain ⟨_, cs, hh⟩ := own_ge h.row ej
  rw [blk_alloc hh tmp] at hj
  cases hj; rfl
theorem LB.bel (h : LB e sz tb cells bb b xs v W) (hbb : b < bb) {w0 : Nat} {w : World} (hw : w0 ≤ b) (hb : Below w0 w W) {tmp : Obj} {w1 : World} (v' : Value) (hgrow : (W.alloc tmp).grownBy w1 v.ownBlock) : Below w0 w (w1.setCell ⟨b, 0, none⟩ v') ∧ W.heap.size ≤ (w1.setCell ⟨b, 0, none⟩ v').heap.size := by
  have hbl := blk_lt h.box
  have h1 : Below w0 w w1 := (hb.alloc (by omega) tmp).grown hgrow (by simp; omega) (fun k ek => by have := (own_ge h.row ek).1; omega)
  refine ⟨h1.setCell (p := ⟨b, 0, none⟩) hw _, ?_⟩
  have := hgrow.size
  simp [World.setCell] at this ⊢
  omega
theorem KpF.app {d : Nat} {bs : List Nat} (h : LB e sz tb cells bb b xs v W) (hb : b ∈ bs) (hbs : ∀ q ∈ bs, q < bb ∧ q < W.heap.size) {tmp : Obj} {w1 : World} {v' : Value} (hgrow : (W.alloc tmp).grownBy w1 v.ownBlock)
    (hat : v'.ownBlock = v.ownBlock ∨ v'.ownBlock = some (W.alloc tmp).heap.size) (hcell : w1.heap[b]? = some (.cells #[v] tb (0, 0))) : KpF d bs W (w1.setCell ⟨b, 0, none⟩ v') := by
  have hs : W.heap.size < (W.alloc tmp).heap.size := by simp
  refine ⟨by have := hgrow.size; simp [World.setCell]; omega, fun k cs t hk hf => ?_⟩
  have hkl := blk_lt hk
  have hoff := (hf.2 b hb).2 v h.cell
  have hne := (hf.2 b hb).1
  have h1 : (w1.setCell ⟨b, 0, none⟩ v').heap[k]? = some (.cells cs t (0, 0)) :=
    (Below.heap_setCell w1 ⟨b, 0, none⟩ v' k hne).trans ((hgrow.block k (by omega) (fun ee => hoff ee.symm)).trans (blk_alloc hk tmp))
  refine ⟨h1, hf.1, fun q hq => ⟨(hf.2 q hq).1, fun u hu => ?_⟩⟩
  by_cases e1 : q = b
  · subst e1
    have hq2 : (w1.setCell ⟨q, 0, none⟩ v').cell? ⟨q, 0, none⟩ = some v' := blk_cell (blk_put hcell 0 v' rfl) 0
    rw [hq2] at hu
    injection hu with hu
    subst hu
    intro eo
    rcases hat with hat | hat
    · exact hoff (hat.symm.trans eo)
    · have := hat.symm.trans eo
      injection this with this
      omega
  · have hqb := hbs q hq
    have h2 : (w1.setCell ⟨b, 0, none⟩ v').heap[q]? = W.heap[q]? :=
      (Below.heap_setCell w1 ⟨b, 0, none⟩ v' q e1).trans ((hgrow.block q (by omega) (fun ee => by have := (own_ge h.row ee.symm).1; omega)).trans (Below.heap_alloc W tmp q hqb.2))
    rw [cell_of_heap h2] at hu
    exact (hf.2 q hq).2 u hu
end
def AsG (bs : List Nat) (act : Nat → S30 → Act) (I : List S30 → World → Prop) (a' : Act) (s : List S30 × S30 × World) (W : World) : Prop :=
  ∃ eb : Nat, a' = act eb s.2.1 ∧ W.heap[eb]? = some (.cells #[.string s.2.1.f0, .int .i64 s.2.1.f1] 30 (0, 0)) ∧ I s.1 W ∧ s.2.2.heap.size = eb ∧
    (∀ (k : Nat) (cs : Array Value) (t : TypeId), s.2.2.heap[k]? = some (Obj.cells cs t (0, 0)) → W.heap[k]? = some (Obj.cells cs t (0, 0))) ∧ ∀ b ∈ bs, OffRow W b eb ∧ ∃ (cs : Array Value) (t : TypeId), s.2.2.heap[b]? = some (Obj.cells cs t (0, 0))
theorem AsG.own {B : Nat} {bs : List Nat} {act : Nat → S30 → Act} {I : List S30 → World → Prop} (hI : OwnFrom B I) (a' : Act) : OwnFrom B (AsG bs act I a') := by
  rintro s A A' row ⟨eb, h1, h2, h3, h4, h5, h6⟩ hg hr
  have key : ∀ k cs t, A.heap[k]? = some (Obj.cells cs t (0, 0)) → A'.heap[k]? = some (Obj.cells cs t (0, 0)) := fun k cs t hk => (hg.block k (blk_lt hk) (fun ee => by
    obtain ⟨_, o, ho, hc⟩ := hr k ee.symm
    rw [hk] at ho; cases ho; cases hc)).trans hk
  refine ⟨eb, h1, key _ _ _ h2, hI _ _ _ _ h3 hg hr, h4, fun k cs t hk => key _ _ _ (h5 k cs t hk), fun b hb => ⟨fun v hv => ?_, (h6 b hb).2⟩⟩
  obtain ⟨cs, t, hc⟩ := (h6 b hb).2
  have e1 := h5 b cs t hc
  rw [cell_of_heap ((key b cs t e1).trans e1.symm)] at hv
  exact (h6 b hb).1 v hv
theorem AsG.kp {d : Nat} {bs : List Nat} {act : Nat → S30 → Act} {I : List S30 → World → Prop} {a' : Act} {s : List S30 × S30 × World} {W W1 : World} (h : AsG bs act I a' s W)
    (hW : W.heap.size ≤ W1.heap.size) (h1 : ∀ k, k ≠ s.2.2.heap.size → W1.heap[k]? = W.heap[k]?) : KpF d bs s.2.2 W1 := by
  obtain ⟨eb, _, h2, _, h4, h5, h6⟩ := h
  have key : ∀ k cs t, s.2.2.heap[k]? = some (Obj.cells cs t (0, 0)) → W1.heap[k]? = some (Obj.cells cs t (0, 0)) := fun k cs t hk => (h1 k (by have := blk_lt hk; omega)).trans (h5 k cs t hk)
  refine ⟨by have := blk_lt h2; omega, fun k cs t hk hf => ⟨key k cs t hk, hf.1, fun b hb => ⟨(hf.2 b hb).1, fun v hv => ?_⟩⟩⟩
  obtain ⟨cs', t', hc⟩ := (h6 b hb).2
  rw [cell_of_heap ((key b cs' t' hc).trans hc.symm)] at hv
  exact (hf.2 b hb).2 v hv
theorem AsG.start {bs : List Nat} {act : Nat → S30 → Act} {I : List S30 → World → Prop} {pre : List S30} {x : S30} {W : World} (hI : I pre W) (hIB : ∀ W', Below W.heap.size W W' → I pre W')
    (hb : ∀ b ∈ bs, (∀ k, W.heap.size ≤ k → OffRow W b k) ∧ ∃ cs t, W.heap[b]? = some (.cells cs t (0, 0))) : AsG bs act I (act W.heap.size x) (pre, x, W) (W.alloc (.cells #[.string x.f0, .int .i64 x.f1] 30)) := by
  have hB := (Below.refl W.heap.size W).alloc (Nat.le_refl _) (.cells #[.string x.f0, .int .i64 x.f1] 30)
  refine ⟨W.heap.size, rfl, blk_new W _, hIB _ hB, rfl, fun k cs t hk => blk_below hk hB, fun b hbb => ⟨fun v hv => ?_, (hb b hbb).2⟩⟩
  obtain ⟨cs, t, hc⟩ := (hb b hbb).2
  rw [cell_of_heap ((blk_below hc hB).trans hc.symm)] at hv
  exact (hb b hbb).1 _ (Nat.le_refl _) v hv
end Go.Proofs.Yteglhbfhibfodaa.Pr
end
section
namespace Go.Proofs.Yteglhbfhibfodaa.Pr
open Go.RowKit Go.Proofs.YteglhbfhibfodaaW.PrintWords Go.Proofs.YteglhbfhibfodaaW.PrintLast Go.Proofs.YteglhbfhibfodaaW.PrintMore
attribute [local go_sem] max2_int min2_int max_two min_two max_three min_three max_four min_four
attribute [local go_sem] Go.Proofs.Yteglhbfhibfodaa.Hl.str_geq Go.Proofs.Yteglhbfhibfodaa.Hl.str_gtr Go.Proofs.Yteglhbfhibfodaa.Hl.str_leq
set_option linter.unusedVariables false
set_option linter.unusedSimpArgs false
open Go.Shelf Go.Proofs.Yteglhbfhibfodaa.Sq
theorem values_made (A0:Option Addr) (n c:Nat) (w:World):Calls Try.prog 21 #[.slice A0 n c] w fun e w' =>
  e=.returned (.func (.func 39) #[] #[.pointer (some ⟨w.heap.size,0,none⟩)])∧w'=w.alloc (.cells #[.slice A0 n c] 26):=by
 go_enter Try.func21,Try.ntmps21
 go_wp2;go_ret
 exact ⟨rfl,rfl⟩
set_option maxHeartbeats 8000000 in
set_option maxRecDepth 100000 in
theorem values_in (n:Nat) (hn:1≤n) (lp d:Nat) (bs:List Nat) (hbs:∀ b∈bs,b < d) (vb:Nat) (A:Option Addr) (c0:Nat) (l:List S30) (hl:l.length < 1000)
  (I:List S30→World→Prop) (R:World→Prop) (Rx:Code→World→Prop) (N:Nat) (hN:l.length≤N) (hC:∀ pre W,I pre W→Kd.C k30 W A l.length l)
  (hIB:∀ pre W W',I pre W→Below W.heap.size W W'→I pre W') (hRB:∀ W W',R W→Below W.heap.size W W'→R W') (hRd:∀ W,R W→d+1 < W.heap.size)
  (hY:∀ pre x W1,I pre W1→R W1→pre.length < N→YieldAt Fence.wide (n - 1) Try.prog lp #[.agg #[.string x.f0,.int .i64 x.f1]] W1 fun e W' =>
    (e=.returned (.bool true)∧I (pre++[x]) W'∧R W'∧KpF d bs W1 W')∨(e=.returned (.bool false)∧∃ c:Code,False∧Rx c W'))
  (W:World) (hv:Own1 d bs W vb #[.slice A l.length c0] 26) (h0:I [] W) (hr0:R W) :
  CallsIn Fence.wide n Try.prog 39 #[.func (.yield lp) #[] #[],.pointer (some ⟨vb,0,none⟩)] W fun e W'=>(∃ v,e=.returned v)∧I l W'∧R W':=by
 refine callsIn_of_wp Try.func39 rfl trivial ?_ rfl
 simp only [Try.ntmps39,List.size_toArray,List.length_cons,List.length_nil,Nat.reduceAdd,Nat.reduceSub,Array.replicate_succ,Array.replicate_zero,List.push_toArray,List.append_toArray,List.nil_append,List.cons_append]
 refine wpIn_wide.2 ?_
 have HV:=am hv
 have H0:=am h0
 have HR0:=am hr0
 have HL:=am hl
 have HN:=am hN
 have hcv:=(blk_cell hv.at_ 0).trans rfl
 clear hv h0 hr0 hl hN;go_wp2
 go_loopg [7] l.length (fun kq v7 w'=>∃ (j:Nat),v7=.int .i64 (j:Int)∧Aside0 (j+kq=l.length)∧Aside0 (I (l.take j) w')∧Aside0 (R w'))
 case atStart=>exact ⟨0,rfl,⟨Nat.zero_add _⟩,H0,HR0⟩
 case round =>
  obtain ⟨j,rfl,HJ,HI,HR⟩:=hrel
  clear hcv
  cases gk with
  | zero =>
   have hge:¬ (j < l.length):=by have:=HJ.out;omega
   have HI2:=am (show I l wr by have:=HI.out;rwa [List.take_of_length_le (by omega)] at this)
   go_wp2
   go_end0
   exact ⟨⟨_,rfl⟩,HI2.out,HR.out⟩
  | succ g =>
   have hlt:j < l.length:=by have:=HJ.out;omega
   have HLT:=am hlt
   obtain ⟨ad,ead,hcm,hci⟩:=at_T30 (hC _ _ HI.out) (j:Int) (by omega) (by omega)
   cases ead
   rw [Int.toNat_natCast,Lf.rdT_get hlt] at hcm hci
   obtain ⟨x,hx⟩:∃ x,l[j]=x:=⟨_,rfl⟩
   rw [hx] at hcm hci
   have HS:=am (show l.take (j+1)=l.take j++[x] by rw [List.take_succ_eq_append_getElem hlt,hx])
   have hbv:Below wr.heap.size wr (wr.alloc (.cells #[.string x.f0,.int .i64 x.f1] 30)):=(Below.refl _ _).alloc (Nat.le_refl _) _
   obtain ⟨fn,tmps,assign,body,hy,hRd4⟩:=hY (l.take j) x _ (hIB _ _ _ HI.out hbv) (hRB _ _ HR.out hbv) (by rw [List.length_take];have:=HN.out;omega)
   have HW:=am (show wrap64 ((j:Int)+1)=((j+1:Nat):Int) by have:=HL.out;unfold wrap64;omega)
   clear hbv hx HI HR
   refine (wpIn_wide (n:=n)).1 ?_
   gi_wp2
   refine hRd4.mono ?_
   clear hcm hci
   intro r w4 h9
   obtain ⟨rfl,hI4,hR4,hK4⟩:=h9.elim id (fun h=>by obtain ⟨_,c,hF,_⟩:=h;exact hF.elim)
   have HI4:=am hI4
   have HR4:=am hR4
   clear hI4 hR4 hK4 hy hRd4
   gi_wp2
   go_wp2
   go_roundg g
   case measure=>omega
   case rel=>exact ⟨j+1,by rw [HW.out],⟨by have:=HJ.out;omega⟩,⟨by rw [HS.out];exact HI4.out⟩,HR4⟩
def CoI (n0 w0:Nat) (w:World) (pre:List S30) (W:World):Prop:=(∃ v,LB 30 2 26 Rw.cells2 (n0+1) n0 pre v W)∧Below w0 w W∧n0+1≤W.heap.size
theorem CoI.own (n0 w0:Nat) (hw0:w0≤n0) (w:World):OwnFrom (n0+1) (CoI n0 w0 w):=by
 rintro s A B row ⟨⟨v,h⟩,hb,hs⟩ hg hr
 exact ⟨⟨v,h.grown hg (fun r e=>(hr r e).2)⟩,hb.grown hg (by omega) (fun k e=>by have:=(hr k e).1;omega),Nat.le_trans hs hg.size⟩
theorem CoI.below {n0 w0:Nat} (hw0:w0≤n0) {w:World} {pre:List S30} {W W':World} (h:CoI n0 w0 w pre W) (hb:Below W.heap.size W W'):CoI n0 w0 w pre W':=by
 obtain ⟨⟨v,h1⟩,h2,h3⟩:=h
 exact ⟨⟨v,h1.below hb⟩,h2.trans (hb.mono (by omega)),Nat.le_trans h3 hb.size⟩
abbrev seqV (vb:Nat):Value:=.func (.func 39) #[] #[.pointer (some ⟨vb,0,none⟩)]
abbrev actA (vb n0 eb:Nat) (x:S30):Act:={ tmps:=#[.slice none 0 0,seqV vb,.pointer (some ⟨n0,0,none⟩),undef,.slice none 0 0,.pointer (some ⟨eb,0,none⟩),seqV vb,.agg #[.string x.f0,.int .i64 x.f1],undef,undef,undef,undef,undef],defers:=[] }
attribute [local go_sem] Go.Oper.semAt_some
set_option maxHeartbeats 8000000 in
set_option maxRecDepth 100000 in
theorem appendSeq_calls (w:World) (vb:Nat) (A:Option Addr) (c0:Nat) (l:List S30) (hv:w.heap[vb]? = some (.cells #[.slice A l.length c0] 26 (0,0))) (hC:Kd.C k30 w A l.length l) (hl:l.length < 100) :
  Calls Try.prog 63 #[.slice none 0 0,seqV vb] w fun e w'=>∃ v,e=.returned v∧Kd.R k30 30 w' w.heap.size (fun _=>True) v l∧Below w.heap.size w w':=by
 have HC:=am hC
 have HL:=am hl
 have HV:=am hv
 clear hC hl hv
 refine (callsIn_wide (n:=6)).1 ?_
 refine callsIn_of_wp_marks Try.func63 rfl trivial ?_ rfl
 simp only [Try.ntmps63,List.size_toArray,List.length_cons,List.length_nil,Nat.reduceAdd,Nat.reduceSub,Array.replicate_succ,Array.replicate_zero,List.push_toArray,List.append_toArray,List.nil_append,List.cons_append]
 gi_wp2
 have hbx0:=blk_new w (.cells #[.slice none 0 0] 26)
 have hb3:=(Below.refl w.heap.size w).alloc (Nat.le_refl _) (.cells #[.slice none 0 0] 26)
 have hsz:(w.alloc (.cells #[.slice none 0 0] 26)).heap.size=w.heap.size+1:=by simp
 generalize (w.alloc (.cells #[.slice none 0 0] 26))=w3 at hbx0 hb3 hsz ⊢
 have HVW:=am (blk_below HV.out hb3)
 have HVL:=am (show vb < w.heap.size from blk_lt HV.out)
 have HB3:=am hb3
 obtain ⟨n0,hn0⟩:∃ n0,w.heap.size=n0:=⟨_,rfl⟩
 have HW0:=am (show w.heap.size≤n0 by omega)
 have HN0:=am hn0
 have hI0:CoI n0 w.heap.size w [] w3:=⟨⟨_,by rw [← hn0];exact hbx0,World.ownsRow_nil _ _ _ _⟩,hb3,by omega⟩
 have hoff:∀ k,OffRow w3 n0 k:=fun k v hv=>by
  rw [← hn0,blk_cell hbx0 0] at hv
  have:v=.slice none 0 0:=(Option.some.inj hv).symm
  rw [this];simp [Value.ownBlock]
 have hsz2:w3.heap.size=n0+1:=by omega
 have HBX0:=am (show w3.heap[n0]? = some (.cells #[.slice none 0 0] 26 (0,0)) from hn0 ▸ hbx0)
 have HI0:=am hI0
 have HOFF:=am hoff
 obtain ⟨i0,hi0,hz3⟩:=Option.map_eq_some_iff.1 info30
 simp only [Prod.mk.injEq] at hz3
 have HZ:=am hz3
 have HI:=am hi0
 rw [hn0]
 clear hbx0 hb3 hsz hI0 hoff hz3 hi0 hn0
 refine range_state (α:=S30) rfl (by decide) (gf:=39) (lb:=#[.pointer (some ⟨vb,0,none⟩)]) rfl trivial (enters_of Try.func39 (by kernel_rfl) rfl)
  (fun x=>#[.agg #[.string x.f0,.int .i64 x.f1]]) (fun _=>rfl) (KpF (n0+1) [n0]) (fun xs=>xs=l) (fun _=>False) 180 KpF.trans (fun W o=>by rw [hsz2];exact KpF.put (by intro b hb;simp at hb;omega) W o)
  (CoI n0 w.heap.size w) (fun _ _ _=>False) (by rw [hsz2];exact CoI.own n0 w.heap.size HW0.out w) (fun c=>by rintro s A B row h _ _;exact h) HI0.out
  (AsG [n0] (actA vb n0) (CoI n0 w.heap.size w)) (fun a'=>by rw [hsz2];exact AsG.own (CoI.own n0 w.heap.size HW0.out w) a') ?hit ?assign ?body ?done ?stop
 case hit =>
  intro lp R Rx W hRk hRxk hRs hBW hY hI0 hR0
  have ow:∀ {k cs t},k≠n0→w3.heap[k]? = some (.cells cs t (0,0))→Own1 (n0+1) [n0] W k cs t:=fun {k cs t} hk hh=>⟨(hBW.block k (blk_lt hh)).trans hh,by have:=blk_lt hh;rw [hsz2] at this;omega,fun b hb=>by
   obtain rfl:b=n0:=by simpa using hb
   refine ⟨hk,fun v hv=>?_⟩
   rw [cell_of_heap (hBW.block b (blk_lt HBX0.out))] at hv
   exact HOFF.out k v hv⟩
  refine (values_in 5 (by decide) lp (n0+1) [n0] (by intro b hb;simp at hb;omega) vb A c0 l (by have:=HL.out;omega) (CoI n0 w.heap.size w) R Rx 180 (by have:=HL.out;omega)
   (fun pre W h=>Kd.C_below HC.out h.2.1) (fun pre W W' h hb=>h.below HW0.out hb)
   (fun W W' h hb=>hRk _ _ ⟨hb.size,fun k o _ hk _=>(hb.block k (Array.getElem?_eq_some_iff.1 hk).1).trans hk⟩ h) (fun W h=>by have:=hRs W h;rw [hsz2] at this;exact this) hY W (ow (by have:=HVL.out;have:=HN0.out;omega) HVW.out) hI0 hR0).mono ?_
  rintro e W' ⟨⟨v,rfl⟩,hI9,hR9⟩
  exact ⟨⟨v,rfl⟩,.inl ⟨_,rfl,hI9,hR9⟩⟩
 case assign =>
  intro lp pre x W K hIp hlen hszW hK
  have hq:=AsG.start (bs:=[n0]) (act:=actA vb n0) (x:=x) hIp (fun W' hb=>hIp.below HW0.out hb) (fun b hb=>(List.mem_singleton.1 hb) ▸ ⟨fun k hk=>hIp.1.choose_spec.off hk,_,_,hIp.1.choose_spec.box⟩)
  gi_wp2
  exact hK _ _ ((KeepsOthers.alloc W _).from _) hq
 case body =>
  rintro lp pre x a' W0 W has hlen
  have has2:=has
  obtain ⟨eb,rfl,hE,⟨⟨v,hLB⟩,hBel,hszW⟩,heb,hkeep,hbb⟩:=has2
  dsimp only at hE hLB heb hkeep hbb
  obtain ⟨M,hM⟩:∃ M,M=pre:=⟨_,rfl⟩
  have HM2:=am hM
  have HLEN:=am (show M.length≤180 by rw [hM];omega)
  rw [← hM] at hLB
  clear hM
  obtain ⟨A,c,rfl⟩:=hLB.slice
  have HLB1:=am hLB
  have HAS:=am has
  have HBEL1:=am hBel
  have hv:=hLB.cell
  have hfv:=blk_frozen hLB.box 0
  have hce0:=(blk_cell hE 0).trans rfl
  have hce1:=(blk_cell hE 1).trans rfl
  have HNEW:=am (show ∀ (j:Nat) (q:Value),(Rw.cells2 x)[j]? = some q→(W.alloc (.cells #[.string x.f0,.int .i64 x.f1] 30)).cell? ((⟨W.heap.size,0,none⟩:Addr).add j)=some q by
   intro j q hq
   rw [Go.Proofs.YteglhbfhibfodaaW.PrintWords.add_plain,blk_cell (blk_new W _) j,← hq];simp [Rw.cells2])
  have HONE:=am (show ∀ q∈Rw.cells2 x,q.oneCell'=true by intro q hq;simp only [Rw.cells2,List.mem_cons,List.not_mem_nil,or_false] at hq;rcases hq with rfl|rfl<;>rfl)
  clear has hLB hE hbb hkeep hBel
  gi_wp2_with (gi_at_builtin;refine wpListIn_append_own_at _ rfl _ _ 26 rfl (n0+1) 30 i0 (.agg #[.string ⟨#[]⟩,.int .i64 0]) 2 24 Try.underlying26 HI.out HZ.out.1 HZ.out.2.1 HZ.out.2.2 rfl (by decide) _ _ _ rfl (HLB1.out.row.alloc _) ⟨W.heap.size,0,none⟩ 1 1 (Rw.cells2 x) rfl rfl HNEW.out HONE.out (by have:=HLEN.out;unfold maxLen;omega) (by have:=HLEN.out;omega) (by simp;omega) ?_;intro v' w1 hown' hgrow _ hat;obtain ⟨g',cap',rfl⟩:=ownsRow_succ hown';obtain ⟨hq1,hLBq⟩:=HLB1.out.app (by omega) hgrow hown';have hqc:=blk_cell hq1 0;have hqf:=blk_frozen hq1 0;have HGROW:=am hgrow;have HAT:=am hat;have HLBQ:=am hLBq;have HQ1:=am hq1;clear hgrow hat hLBq hq1 hown')
  obtain ⟨hbel9,hsz9⟩:=HLB1.out.bel (by omega) HW0.out HBEL1.out (.slice (some ⟨g',0,none⟩) (M.length+1) cap') HGROW.out
  refine ⟨(HLB1.out.keeps (.slice (some ⟨g',0,none⟩) (M.length+1) cap') HGROW.out).from _,(HAS.out.kp (Nat.le_refl _) (fun k hk=>rfl)).trans (KpF.app HLB1.out (by simp) (by intro q hq;simp at hq;omega) HGROW.out HAT.out HQ1.out),⟨_,by rw [← HM2.out];exact HLBQ.out⟩,hbel9,Nat.le_trans hszW hsz9⟩
 case done =>
  rintro D xs W hD rfl ⟨⟨v,hLB⟩,hBel,hszW⟩ hK
  obtain ⟨A2,c,rfl⟩:=hLB.slice
  have HR:=am (Rw.flat_R (ok:=fun _=>True) hLB.row (fun _ _=>trivial))
  have HBEL:=am hBel
  have HKD:=am hK
  have hv:=hLB.cell
  have hDw:w.heap.size≤D:=by have:=HW0.out;omega
  clear hLB hBel hK
  gi_wp2
  have hneD:(some D)≠(Value.slice A2 xs.length c).ownBlock:=fun ee=>by
   obtain ⟨cs,hh⟩:=Kd.R_typed HR.out D ee.symm
   rw [HKD.out] at hh;cases hh
  refine ⟨by simp,.inl ⟨_,_,rfl,run_takeDeferred HKD.out,?_⟩⟩
  exact ⟨_,by simp [results,Try.results63,go_sem],_,rfl,Kd.R_grown1 (Kd.R_lower HR.out (by have:=HN0.out;omega)) rfl (grownBy_putObj' W D _) hneD,HBEL.out.grown (grownBy_putObj' W D _) HBEL.out.size (fun k ek=>by have:=Option.some.inj ek;omega)⟩
 case stop =>
  intro D c pre W _ _ h _
  exact h.elim
set_option maxHeartbeats 8000000 in
set_option maxRecDepth 100000 in
theorem collect_calls (w:World) (vb:Nat) (A:Option Addr) (c0:Nat) (l:List S30) (hv:w.heap[vb]? = some (.cells #[.slice A l.length c0] 26 (0,0))) (hC:Kd.C k30 w A l.length l) (hl:l.length < 100) :
  Calls Try.prog 37 #[seqV vb] w fun e w'=>∃ v,e=.returned v∧Kd.R k30 30 w' w.heap.size (fun _=>True) v l∧Below w.heap.size w w':=by
 have HA:=am (appendSeq_calls w vb A c0 l hv hC hl)
 clear hC hl hv
 go_enter Try.func37,Try.ntmps37
 go_wp2_with (go_at_call 63;refine HA.out.mono ?_;rintro e w2 ⟨v,rfl,hr,hb⟩;obtain ⟨A2,c2,rfl⟩:=Kd.R_slice hr;have HR2:=am hr;have HB2:=am hb;clear hr hb)
 go_ret
 exact ⟨_,rfl,HR2.out,HB2.out⟩
theorem sort_none (w:World) (A:Option Addr) (c:Nat) (fv:Value):Calls Try.prog 38 #[.slice A 0 c,fv] w fun e w'=>e=.returned (.tuple #[])∧w'=w:=by
 have h:=AnyF.slices_SortFunc_none (P:=Try.prog) Try.sortNm A c fv w
 change Calls Try.prog 38 _ _ _ at h
 exact h
theorem sortV_calls (w:World) (base c:Nat) (A:Option Addr) (xs:List S30) (hR:Kd.R k30 30 w base (fun _=>True) (.slice A xs.length c) xs) (hz:∀ x∈xs,x.f0.size < 512) (hap:Ht.Apart Ht.ltE xs) (hl:xs.length < 4611686018427387904) :
  Calls Try.prog 38 #[.slice A xs.length c,.func (.func 22) #[] #[]] w fun e w'=>e=.returned (.tuple #[])∧Kd.R k30 30 w' base (fun _=>True) (.slice A xs.length c) (Ht.isort Ht.ltE xs)∧Below (min base w.heap.size) w w':=by
 match xs,hR,hz,hap,hl with
 | [],hR,_,_,_ =>
  refine (sort_none w A c _).mono ?_
  rintro e w' ⟨rfl,rfl⟩
  exact ⟨rfl,hR,Below.refl _ _⟩
 | x::xs,hR,hz,hap,hl =>
  obtain ⟨g,cap,he,hb,hg,_⟩:=Kd.R_form hR (by simp)
  cases he
  refine (sortO_calls w base g _ _ (x::xs) hR hz hap hl).mono ?_
  rintro e w' hs
  exact ⟨hs.1,hs.2.1,hs.below hb⟩
set_option maxHeartbeats 8000000 in
set_option maxRecDepth 100000 in
theorem sorted_calls (w:World) (vb:Nat) (A:Option Addr) (c0:Nat) (l:List S30) (hv:w.heap[vb]? = some (.cells #[.slice A l.length c0] 26 (0,0))) (hC:Kd.C k30 w A l.length l) (hl:l.length < 100) (hz:∀ x∈l,x.f0.size < 512) (hap:Ht.Apart Ht.ltE l) :
  Calls Try.prog 20 #[seqV vb,.func (.func 22) #[] #[]] w fun e w'=>∃ v,e=.returned v∧Kd.R k30 30 w' w.heap.size (fun _=>True) v (Ht.isort Ht.ltE l)∧Below w.heap.size w w':=by
 have HC:=am (collect_calls w vb A c0 l hv hC hl)
 have HL:=am (show l.length < 4611686018427387904 by omega)
 have HZ:=am hz
 have HP:=am hap
 clear hC hl hv hz hap
 go_enter Try.func20,Try.ntmps20
 go_wp2_with (first|(go_at_call 38;refine (sortV_calls w2 w.heap.size c2 A2 l HR2.out HZ.out HP.out HL.out).mono ?_;rintro e w3 ⟨rfl,hr,hb⟩;have HR3:=am hr;have HB3:=am hb;clear hr hb)|(go_at_call 37;refine HC.out.mono ?_;rintro e w2 ⟨v,rfl,hr,hb⟩;obtain ⟨A2,c2,rfl⟩:=Kd.R_slice hr;have HR2:=am hr;have HB2:=am hb;clear hr hb))
 go_ret
 exact ⟨_,rfl,HR3.out,HB2.out.trans (HB3.out.mono (by rw [Nat.min_eq_left HB2.out.size];exact Nat.le_refl _))⟩
end Go.Proofs.Yteglhbfhibfodaa.Pr
end
section
namespace Go.Proofs.Yteglhbfhibfodaa.Pr
open Go.RowKit Go.Proofs.YteglhbfhibfodaaW.PrintWords Go.Proofs.YteglhbfhibfodaaW.PrintLast Go.Proofs.YteglhbfhibfodaaW.PrintMore
attribute [local go_sem] max2_int min2_int max_two min_two max_three min_three max_four min_four
attribute [local go_sem] Go.Proofs.Yteglhbfhibfodaa.Hl.str_geq Go.Proofs.Yteglhbfhibfodaa.Hl.str_gtr Go.Proofs.Yteglhbfhibfodaa.Hl.str_leq
set_option linter.unusedVariables false
set_option linter.unusedSimpArgs false
theorem aft_stop {α:Type} {P:α→Bool} {all done rest out:List α} {n:Int} (h1:all=done++rest) (h2:out=done.filter P) (h3:out.length≤n.toNat) (h4:n≤(out.length:Int)):(all.filter P).take n.toNat=out:=by
 rw [h1,List.filter_append,← h2,List.take_append_of_le_length (by omega),List.take_of_length_le h3]
theorem aft_end {α:Type} {P:α→Bool} {all out:List α} {n:Int} (h2:out=all.filter P) (h3:out.length≤n.toNat):(all.filter P).take n.toNat=out:=by
 rw [← h2,List.take_of_length_le h3]
theorem aft_next {α β:Type} (g:α→List β) (ms:List α) (j:Nat) (hj:j < ms.length):(ms.take (j+1)).flatMap g=(ms.take j).flatMap g++g ms[j]:=by
 rw [List.take_succ_eq_append_getElem hj,List.flatMap_append];simp
theorem aft_split {α β:Type} (g:α→List β) (ms:List α) (j:Nat) (hj:j < ms.length):ms.flatMap g=(ms.take j).flatMap g++(g ms[j]++(ms.drop (j+1)).flatMap g):=by
 conv=>lhs;rw [← List.take_append_drop j ms,List.flatMap_append,List.drop_eq_getElem_cons hj,List.flatMap_cons]
theorem add_add (ad:Addr) (i j:Nat):(ad.add i).add j=ad.add (i+j):=by
 by_cases hi:i=0<;>by_cases hj:j=0<;>simp [Addr.add,hi,hj,Nat.add_assoc]
theorem aft_len (xs:List (List S30)) (h:∀ l∈xs,l.length≤41):(xs.flatMap (Ht.isort Ht.ltE)).length≤41*xs.length:=by
 induction xs with
 | nil=>simp
 | cons l r ih =>
  have h1:=h l (by simp)
  have h2:=ih (fun x hx=>h x (by simp [hx]))
  have h3:=(Ht.isort_perm Ht.ltE l).length_eq
  rw [List.flatMap_cons,List.length_append,List.length_cons]
  omega
def aftP (nm:ByteArray) (x:S30):Bool:=decide (nm.size=0)||Ht.ltE ⟨nm,0⟩ x
def htree_After.f (l0:List (List Int)) (a1:ByteArray) (a2:Int):Option (List S30×Int):=if dirB l0=true∧a1.size < 512 then some (Ht.afterP l0 a1 a2) else none
set_option maxHeartbeats 8000000 in
set_option maxRecDepth 100000 in
theorem htree_After.calls (A0:Option Addr) (c0:Nat) (l0:List (List Int)) (a1:ByteArray) (a2:Int) (r1:List (S30)) (r2:Int) (w:World) (hr0:Kd.C (Kd.slice 5 (Kd.int .u8)) w A0 l0.length l0) (hc0:l0.length≤c0) (h:htree_After.f l0 a1 a2=some (r1,r2)) :
  Calls Try.prog 9 #[.slice A0 l0.length c0,.string a1,.int .i64 a2] w fun e w'=>∃ v0_:Value,e=.returned (.tuple #[v0_,.int .i64 r2])∧Kd.R k30 30 w' w.heap.size (fun _=>True) v0_ r1∧Below w.heap.size w w':=by
 unfold htree_After.f at h
 by_cases hd:dirB l0=true∧a1.size < 512
 ·rw [if_pos hd] at h
  have h:=Option.some.inj h
  obtain ⟨hd,hz⟩:=hd
  obtain ⟨hd1,hd2⟩:=dirB_iff hd
  have HR0:=am hr0
  have HC0:=am hc0
  have HD:=am hd1
  have HL:=am hd2
  have HZ:=am hz
  unfold Ht.afterP at h
  clear hd hr0 hc0 hd1 hd2 hz
  cases hx:Ht.readP l0 with
  | none =>
   rw [hx] at h
   obtain ⟨rfl,rfl⟩:=Prod.mk.inj h
   have HX:=am hx
   clear hx h
   go_enter Try.func9,Try.ntmps9
   go_wp2_with (go_at_call 18;refine (read_calls A0 c0 l0 w HR0.out HC0.out HD.out HL.out).mono ?_;rintro e w2 ⟨hb2,hm⟩;rw [HX.out] at hm;subst hm;have HB2:=am hb2;clear hb2)
   go_ret2
   exact ⟨_,rfl,Kd.R_nil _ _ _ _ _,HB2.out⟩
  | some p =>
   obtain ⟨rs,ls⟩:=p
   rw [hx] at h
   dsimp only at h
   have HOKR:=am (Ht.readP_ok HD.out hx).1
   have HLV:=am (Ht.readP_ok HD.out hx).2
   have HX:=am hx
   clear hx
   obtain ⟨rfl,rfl⟩:=Prod.mk.inj h
   clear h
   by_cases hne:a1.size=0
   ·have hnm:a1=⟨#[]⟩:=Od.str_ext (by
     have:a1.data.toList.length=0:=hne
     rw [List.eq_nil_of_length_eq_zero this])
    have hnmb:a1.toList.isEmpty=true:=by rw [hnm,ByteArray.toList_eq];rfl
    have HNE:=am hne
    clear hnm hne
    rw [if_pos HNE.out,show (ls.drop 0)=ls from rfl]
    obtain ⟨ans,hans⟩:∃ ans,List.take a2.toNat (List.filter (aftP a1) (List.flatMap (Ht.isort Ht.ltE) ls))=ans:=⟨_,rfl⟩
    have HAN:=am hans
    change Calls _ _ _ _ (fun e w'=>∃ v0_,e=_∧Kd.R _ _ _ _ _ v0_ (List.take a2.toNat (List.filter (aftP a1) (List.flatMap (Ht.isort Ht.ltE) ls)))∧_)
    rw [hans]
    clear hans
    go_enter Try.func9,Try.ntmps9
    go_wp2_with (go_at_call 18;refine (read_calls A0 c0 l0 w HR0.out HC0.out HD.out HL.out).mono ?_;rintro e w2 ⟨hb2,hm⟩;rw [HX.out] at hm;obtain ⟨B,rfl,A1,c1,A2,c2,hT1,hT2,hT3,hT4,hT5⟩:=hm;have hcB:w2.cell? ⟨B,2,none⟩=some (.slice A2 ls.length c2):=(blk_cell hT1 2).trans rfl;have HT1:=am hT1;have HT2:=am hT2;have HT3:=am hT3;have HT4:=am hT4;have HT5:=am hT5;have HB2:=am hb2;clear hb2 hT1 hT2 hT3 hT4 hT5)
    have HLM:=am (show ∀ (W:World),Below w2.heap.size w2 W→∀ (j:Nat) (hj:j < ls.length),∃ ad A5 c5,A2=some ad∧W.cell? (ad.add j)=some (.slice A5 (ls[j]).length c5)∧(ls[j]).length≤c5∧k30.C W A5 (ls[j]).length (ls[j]) from fun W hb j hj=>by
     have h:=leaf_at (Kd.C_below HT4.out hb) (j:Int) (by omega) (by omega)
     rwa [Int.toNat_natCast,Ht.getD_at hj] at h)
    have HML:=am (show ls.length≤ls.length from Nat.le_refl _)
    have HMM:=am (show ∀ l∈ls,l∈ls from fun l h=>h)
    clear HT1 HT2 HT3 HT4 HT5
    have HMSZ:=am (show ls.length≤30 by have:=HML.out;have:=HLV.out.len;have:=HOKR.out.high;omega)
    have HMR:=am (show ∀ l∈ls,Lf.right none l=true∧Lf.sumL l≤248 from fun l hl=>HLV.out.leaf l (HMM.out l hl))
    clear hcB
    go_loopw [9,31] (fun o i wr=>∃ (j:Nat) (out:List S30),i=.int .i64 (j:Int)∧Aside0 (j≤ls.length)∧Aside0 (Kd.R k30 30 wr w2.heap.size (fun _=>True) o out)∧Aside0 (out=((ls.take j).flatMap (Ht.isort Ht.ltE)).filter (aftP a1))∧Aside0 (out.length≤a2.toNat)∧Aside0 (Below w2.heap.size w2 wr)) (fun _ i _=>ls.length - (intOf i).toNat)
    case atStart=>exact ⟨0,[],rfl,⟨Nat.zero_le _⟩,⟨Kd.R_nil _ _ _ _ _⟩,⟨rfl⟩,⟨Nat.zero_le _⟩,⟨Below.refl _ _⟩⟩
    case round =>
     obtain ⟨j,out,rfl,HJ,HO,HOF,HOL,HB⟩:=hrel
     obtain ⟨Ao,co,rfl⟩:=Kd.R_slice HO.out
     by_cases hj:j < ls.length
     ·have hjb:decide (j < ls.length)=true:=decide_eq_true hj
      have HJN:=am hj
      obtain ⟨ad,A5,c5,ead,hcl,hl5,hr5⟩:=HLM.out wr HB.out j hj
      cases ead
      have HRL:=am (HMR.out _ (List.getElem_mem hj))
      have HSP:=am (aft_split (Ht.isort Ht.ltE) ls j hj)
      have HNX:=am (aft_next (Ht.isort Ht.ltE) ls j hj)
      obtain ⟨l,hl⟩:∃ l,ls[j]=l:=⟨_,rfl⟩
      rw [hl] at hcl hl5 hr5 HRL HSP HNX
      have HLJ:=am hl
      have HLL:=am (Ht.leaf_len HRL.out)
      have HR5:=am hr5
      have HL5:=am hl5
      have HLZ:=am (show ∀ x∈l,x.f0.size < 512 from fun x hx=>by have:=Lf.okE_size ((Ht.right_iff.1 HRL.out.1).1 x hx);omega)
      have HLA:=am (show Ht.Apart Ht.ltE l from (Ht.right_iff.1 HRL.out.1).2.imp (fun {a b} h=>Ht.ltE_or (fun e=>by rw [e,Od.less_irrefl] at h;cases h)))
      have HDN:=am (show ∃ dn:List S30,(ls.take j).flatMap (Ht.isort Ht.ltE)=dn from ⟨_,rfl⟩)
      obtain ⟨dn,hdn⟩:=HDN.out
      have HDNL:=am (show dn.length≤1230 by have h1:=aft_len (ls.take j) (fun l hl=>Ht.leaf_len (HMR.out l (List.mem_of_mem_take hl)));rw [hdn,List.length_take] at h1;have:=HMSZ.out;omega)
      rw [hdn] at HOF HSP HNX
      have HRT:=am (show ∃ rt:List S30,(ls.drop (j+1)).flatMap (Ht.isort Ht.ltE)=rt from ⟨_,rfl⟩)
      obtain ⟨rt,hrt⟩:=HRT.out
      rw [hrt] at HSP
      clear hl hl5 hr5 HDN HRT hdn hrt
      obtain ⟨s,hs⟩:∃ s,Ht.isort Ht.ltE l=s:=⟨_,rfl⟩
      have HSL:=am (show s.length=l.length by rw [← hs];exact (Ht.isort_perm Ht.ltE l).length_eq)
      have HSZ:=am (show ∀ x∈s,x.f0.size < 512 from fun x hx=>HLZ.out x ((Ht.isort_perm Ht.ltE l).mem_iff.1 (hs ▸ hx)))
      rw [hs] at HSP HNX
      have HSS:=am hs
      clear hs
      have HBV:=am (show Below wr.heap.size wr (wr.alloc (.cells #[.slice A5 l.length c5] 26)) from (Below.refl _ _).alloc (Nat.le_refl _) _)
      have HBS:=am (show (wr.alloc (.cells #[.slice A5 l.length c5] 26)).heap.size=wr.heap.size+1 by simp)
      go_wp2_with (first|(go_at_call 20;refine (sorted_calls (wr.alloc (.cells #[.slice A5 l.length c5] 26)) wr.heap.size A5 c5 l (blk_new _ _) (Kd.C_below HR5.out HBV.out) (by have:=HLL.out;omega) HLZ.out HLA.out).mono ?_;rintro e w4 ⟨vs,rfl,hr,hb⟩;rw [HSS.out] at hr;obtain ⟨A6,c6,rfl⟩:=Kd.R_slice hr;have HVS:=am hr;have HB4:=am hb;clear hr hb)|(go_at_call 21;refine (values_made A5 l.length c5 wr).mono ?_;rintro e w3 ⟨rfl,rfl⟩))
      clear hjb hcl
      have HB4w:=am (HBV.out.trans (HB4.out.mono (by rw [HBS.out];omega)))
      have HOB:=am (show ∀ k,(Value.slice A6 s.length c6).ownBlock=some k→wr.heap.size < k∧k < w4.heap.size from fun k hk=>by have h1:=Kd.R_base HVS.out k hk;have h2:=Kd.R_lt HVS.out k hk;rw [HBS.out] at h1;omega)
      have HVS4:=am (Kd.R_tight rfl (Kd.R_lower HVS.out (show w2.heap.size≤_ by rw [HBS.out];have:=HB.out.size;omega)))
      have HO4:=am (Kd.R_mono (ok':=fun k=>some k≠(Value.slice A6 s.length c6).ownBlock) (Kd.R_bound (Kd.R_mono (ok':=fun k=>k < wr.heap.size) (Kd.R_bound HO.out) (fun k hk=>hk.2.2.1))) (fun k hk e=>by have:=HOB.out k e.symm;have:=hk.1;omega))
      have HO4:=am (Kd.R_below HO4.out HB4w.out)
      have HBW4:=am (HB.out.trans (HB4w.out.mono HB.out.size))
      have HWJ:=am (show wrap64 ((j:Int)+1)=((j+1:Nat):Int) by have:=HMSZ.out;have:=HJN.out;unfold wrap64;omega)
      clear HVS HO HB HB4 HB4w HBV HBS HR5 HL5
      go_loopw [9,40] (fun o i w'=>∃ (q:Nat) (out:List S30),i=.int .i64 (q:Int)∧Aside0 (q≤s.length)∧Aside0 (Kd.R k30 30 w' w2.heap.size (fun k=>some k≠(Value.slice A6 s.length c6).ownBlock) o out)∧Aside0 (Kd.R k30 30 w' w2.heap.size (fun k=>some k=(Value.slice A6 s.length c6).ownBlock) (.slice A6 s.length c6) s)∧Aside0 (out=(dn++s.take q).filter (aftP a1))∧Aside0 (out.length≤a2.toNat)∧Aside0 (Below w2.heap.size w2 w')∧Aside0 (w4.heap.size≤w'.heap.size)) (fun _ i _=>s.length - (intOf i).toNat)
      case atStart=>exact ⟨0,out,rfl,⟨Nat.zero_le _⟩,HO4,HVS4,⟨by rw [HOF.out];simp⟩,HOL,HBW4,⟨Nat.le_refl _⟩⟩
      case round =>
       clear HO4 HVS4 HOF HOL HBW4
       obtain ⟨q,out,rfl,HQ,HO,HS,HOF,HOL,HB,HWZ⟩:=hrel
       obtain ⟨Ao,co,rfl⟩:=Kd.R_slice HO.out
       by_cases hq:q < s.length
       ·have hqb:decide (q < s.length)=true:=decide_eq_true hq
        have HQN:=am hq
        obtain ⟨ad6,ead,hcm,hci⟩:=at_T30 (Kd.R_reads' HS.out).2.2 (q:Int) (by omega) (by omega)
        cases ead
        rw [Int.toNat_natCast,Lf.rdT_get hq] at hcm hci
        have HTS:=am (show s.take (q+1)=s.take q++[s[q]] from List.take_succ_eq_append_getElem hq)
        have HZX:=am (HSZ.out _ (List.getElem_mem hq))
        have HXE:=am (show ∃ x,s[q]=x from ⟨_,rfl⟩)
        obtain ⟨⟨nm,no⟩,hx⟩:=HXE.out
        rw [hx] at hcm hci HTS HZX
        dsimp only at hcm hci
        clear hx HXE
        have HWQ:=am (show wrap64 ((q:Int)+1)=((q+1:Nat):Int) by have:=HSL.out;have:=HLL.out;have:=HQN.out;unfold wrap64;omega)
        have HBA:=am (show Below wr.heap.size wr (wr.alloc (.cells #[.string nm,.int .i64 no] 30)) from (Below.refl _ _).alloc (Nat.le_refl _) _)
        have HXB:=am (blk_new wr (.cells #[.string nm,.int .i64 no] 30))
        by_cases hn:a2≤(out.length:Int)
        ·have hnb:decide (a2≤(out.length:Int))=true:=decide_eq_true hn
         have HEQ:=am (show out=ans by rw [← HAN.out];exact (aft_stop (rest:=s.drop q++rt) (by rw [HSP.out,List.append_assoc,← List.append_assoc (s.take q),List.take_append_drop]) HOF.out HOL.out hn).symm)
         clear hn;go_wp2
         go_ret2
         exact ⟨_,rfl,HEQ.out ▸ Kd.R_lower (Kd.R_mono (Kd.R_below HO.out HBA.out) (fun _ _=>trivial)) HB2.out.size,HB2.out.trans ((HB.out.trans (HBA.out.mono HB.out.size)).mono HB2.out.size)⟩
        ·have hnb:decide (a2≤(out.length:Int))=false:=decide_eq_false hn
         have HNL:=am (show out.length+1≤a2.toNat by omega)
         clear hn
         have HO7:=am (Kd.R_below HO.out HBA.out)
         have HS7:=am (Kd.R_below HS.out HBA.out)
         have HB7:=am (HB.out.trans (HBA.out.mono HB.out.size))
         have HLN:=am (show out.length≤2000 by have h1:=HDNL.out;have h2:=HSL.out;have h3:=HLL.out;have h4:=HOF.out;have h5:=List.length_filter_le (aftP a1) (dn++s.take q);have h6:=List.length_take_le' q s;rw [← h4,List.length_append] at h5;omega)
         go_wp2_with ((with_reducible refine gate_builtin (b:=.append) (xs:=#[.tmp 58,.tmp 60]) rfl ?_);at_builtin;refine Kd.R_append k30 (w0:=w2) w2.heap.size rfl (.tmp 58) (.tmp 60) 26 30 (.agg #[.string ⟨#[]⟩,.int .i64 0]) 24 rfl Try.underlying26 info30 rfl (by decide) (by omega) _ out (⟨nm,no⟩:S30) [.string nm,.int .i64 no] (fun k=>some k≠(Value.slice (some ad6) s.length c6).ownBlock) (fun _=>False) rfl (by rw [World.size_alloc];rfl) (k30_mkM _ _ _ (⟨nm,no⟩:S30)) (fun _ hk=>hk.elim) (fun k hk e=>by have h1:=HOB.out k e.symm;have h2:=HWZ.out;have h3:=HBA.out.size;omega) HO7.out HB7.out HB7.out.size (by have:=HLN.out;omega) ?_;intro v8 w8 ho8 hb8 hg8 hat8;obtain ⟨A8,c8,ev8⟩:=Kd.R_slice ho8;rw [List.length_append,List.length_singleton] at ev8;subst ev8;have HS8:=am (Kd.R_grown HS7.out hg8 (fun k hk ek=>HO7.out.1 k ek.symm hk));have HO8:=am ho8;have HB8:=am hb8;have HG8:=am hg8.size;clear ho8 hb8 hg8 hat8)
         go_roundw
         case rel=>exact ⟨q+1,out++[⟨nm,no⟩],by rw [HWQ.out],⟨HQN.out⟩,HO8,HS8,⟨by rw [HTS.out,← List.append_assoc,List.filter_append,← HOF.out];simp [aftP,HNE.out]⟩,⟨by rw [List.length_append];exact HNL.out⟩,HB8,⟨by have:=HG8.out;have:=HWZ.out;have:=HBA.out.size;omega⟩⟩
         case measure=>rw [HWQ.out];show s.length - (((q+1:Nat):Int)).toNat < s.length - ((q:Int)).toNat;have:=HQN.out;omega
       ·obtain rfl:q=s.length:=by have:=HQ.out;omega
        have hqb:decide (s.length < s.length)=false:=decide_eq_false (by omega)
        clear hq;go_wp2
        go_roundw
        case rel=>exact ⟨j+1,out,by rw [HWJ.out],⟨HJN.out⟩,⟨Kd.R_mono HO.out (fun _ _=>trivial)⟩,⟨by rw [HNX.out,HOF.out,List.take_length]⟩,HOL,HB⟩
        case measure=>rw [HWJ.out];show ls.length - (((j+1:Nat):Int)).toNat < ls.length - ((j:Int)).toNat;have:=HJN.out;omega
     ·obtain rfl:j=ls.length:=by have:=HJ.out;omega
      have hjb:decide (ls.length < ls.length)=false:=decide_eq_false (by omega)
      have HEQ:=am (show out=ans by rw [← HAN.out];exact (aft_end (by have:=HOF.out;rwa [List.take_length] at this) HOL.out).symm)
      clear hj;go_wp2
      go_ret2
      exact ⟨_,rfl,HEQ.out ▸ Kd.R_lower (Kd.R_mono HO.out (fun _ _=>trivial)) HB2.out.size,HB2.out.trans (HB.out.mono HB2.out.size)⟩
   ·have hnmb:a1.toList.isEmpty=false:=by
     cases he:a1.toList.isEmpty with
     | false=>rfl
     | true =>
      rw [ByteArray.toList_eq,List.isEmpty_iff] at he
      exact absurd (show a1.size=0 by have:a1.size=a1.data.toList.length:=rfl;rw [this,he];rfl) hne
    have HNE:=am hne
    clear hne
    rw [if_neg HNE.out]
    obtain ⟨k,hk⟩:=(Ht.at_ev HOKR.out a1 HZ.out).rounds
    obtain ⟨an,han⟩:∃ an,Ht.atP rs (Ht.sumN a1)=an:=⟨_,rfl⟩
    have hanl:an < rs.length:=han ▸ Ht.atP_lt HOKR.out _
    have hanls:an < ls.length:=by rw [HLV.out.len];exact hanl
    have HAN2:=am hanls
    rw [han] at hk ⊢
    have HKA:=am hk
    obtain ⟨ms,hms⟩:∃ ms,ls.drop an=ms:=⟨_,rfl⟩
    have HMS:=am hms
    rw [hms]
    obtain ⟨ans,hans⟩:∃ ans,List.take a2.toNat (List.filter (aftP a1) (List.flatMap (Ht.isort Ht.ltE) ms))=ans:=⟨_,rfl⟩
    have HAN:=am hans
    change Calls _ _ _ _ (fun e w'=>∃ v0_,e=_∧Kd.R _ _ _ _ _ v0_ (List.take a2.toNat (List.filter (aftP a1) (List.flatMap (Ht.isort Ht.ltE) ms)))∧_)
    rw [hans]
    have hal:an≤ls.length:=by omega
    clear hans hk han hanl hanls hms
    go_enter Try.func9,Try.ntmps9
    go_wp2_with (first|(go_at_call 19;refine (at_calls k B _ _ _ A1 c1 rs a1 _ _ HT1.out HT2.out HT3.out (by have:=HOKR.out.high;omega) HKA.out).mono ?_;rintro e w3 ⟨rfl,hb3⟩;have HT43:=am (Kd.C_below HT4.out hb3);have hcB:w3.cell? ⟨B,2,none⟩=some (.slice A2 ls.length c2):=(blk_cell (blk_below HT1.out hb3) 2).trans rfl;obtain ⟨ad2,A5,c5,ead,-,-,-⟩:=leaf_at HT43.out (an:Int) (by omega) (by have:=HAN2.out;omega);cases ead;have HB3:=am (HB2.out.trans (hb3.mono HB2.out.size));have hc2:=HT5.out;clear hb3)|(go_at_call 18;refine (read_calls A0 c0 l0 w HR0.out HC0.out HD.out HL.out).mono ?_;rintro e w2 ⟨hb2,hm⟩;rw [HX.out] at hm;obtain ⟨B,rfl,A1,c1,A2,c2,hT1,hT2,hT3,hT4,hT5⟩:=hm;have HT1:=am hT1;have HT2:=am hT2;have HT3:=am hT3;have HT4:=am hT4;have HT5:=am hT5;have HB2:=am hb2;clear hb2 hT1 hT2 hT3 hT4 hT5))
    ·exfalso;have h1:=HT5.out;have h2:=HAN2.out;omega
    refine slot_abs 29 (.slice (some (ad2.add an)) (ls.length - an) (c2 - an)) rfl (fun V29 h29=>?_)
    refine slot_abs 30 (.int .i64 ((ls.length - an:Nat):Int)) rfl (fun V30 h30=>?_)
    simp only [List.setIfInBounds_toArray,List.set_cons_succ,List.set_cons_zero]
    have hmsl:ms.length=ls.length - an:=by rw [← HMS.out,List.length_drop]
    rw [← hmsl] at h29 h30
    have HLM:=am (show ∀ (W:World),Below w3.heap.size w3 W→∀ (j:Nat) (hj:j < ms.length),∃ ad A5 c5,some (ad2.add an)=some ad∧W.cell? (ad.add j)=some (.slice A5 (ms[j]).length c5)∧(ms[j]).length≤c5∧k30.C W A5 (ms[j]).length (ms[j]) from fun W hb j hj=>by
     obtain ⟨ad,A5,c5,ead,h1,h2,h3⟩:=leaf_at (Kd.C_below HT43.out hb) ((an+j:Nat):Int) (by omega) (by omega)
     cases ead
     rw [Int.toNat_natCast,Ht.getD_at (show an+j < ls.length by omega)] at h1 h2 h3
     have hg:ls[an+j]'(by omega)=ms[j]:=by simp only [← HMS.out,List.getElem_drop]
     rw [hg] at h1 h2 h3
     exact ⟨_,A5,c5,rfl,by rw [add_add];exact h1,h2,h3⟩)
    obtain ⟨A9,hA9⟩:∃ A9,(some (ad2.add an):Option Addr)=A9:=⟨_,rfl⟩
    obtain ⟨c9,hc9⟩:∃ c9,c2 - an=c9:=⟨_,rfl⟩
    rw [hA9] at HLM h29
    rw [hc9] at h29
    subst h29
    subst h30
    have HML:=am (show ms.length≤ls.length by omega)
    have HMM:=am (show ∀ l∈ms,l∈ls from fun l h=>List.mem_of_mem_drop (HMS.out ▸ h))
    clear HT1 HT2 HT3 HT4 HT5 HT43 hA9 hc9 hmsl hal hc2
    have HMSZ:=am (show ms.length≤30 by have:=HML.out;have:=HLV.out.len;have:=HOKR.out.high;omega)
    have HMR:=am (show ∀ l∈ms,Lf.right none l=true∧Lf.sumL l≤248 from fun l hl=>HLV.out.leaf l (HMM.out l hl))
    clear hcB
    go_loopw [9,31] (fun o i wr=>∃ (j:Nat) (out:List S30),i=.int .i64 (j:Int)∧Aside0 (j≤ms.length)∧Aside0 (Kd.R k30 30 wr w3.heap.size (fun _=>True) o out)∧Aside0 (out=((ms.take j).flatMap (Ht.isort Ht.ltE)).filter (aftP a1))∧Aside0 (out.length≤a2.toNat)∧Aside0 (Below w3.heap.size w3 wr)) (fun _ i _=>ms.length - (intOf i).toNat)
    case atStart=>exact ⟨0,[],rfl,⟨Nat.zero_le _⟩,⟨Kd.R_nil _ _ _ _ _⟩,⟨rfl⟩,⟨Nat.zero_le _⟩,⟨Below.refl _ _⟩⟩
    case round =>
     obtain ⟨j,out,rfl,HJ,HO,HOF,HOL,HB⟩:=hrel
     obtain ⟨Ao,co,rfl⟩:=Kd.R_slice HO.out
     by_cases hj:j < ms.length
     ·have hjb:decide (j < ms.length)=true:=decide_eq_true hj
      have HJN:=am hj
      obtain ⟨ad,A5,c5,ead,hcl,hl5,hr5⟩:=HLM.out wr HB.out j hj
      cases ead
      have HRL:=am (HMR.out _ (List.getElem_mem hj))
      have HSP:=am (aft_split (Ht.isort Ht.ltE) ms j hj)
      have HNX:=am (aft_next (Ht.isort Ht.ltE) ms j hj)
      obtain ⟨l,hl⟩:∃ l,ms[j]=l:=⟨_,rfl⟩
      rw [hl] at hcl hl5 hr5 HRL HSP HNX
      have HLJ:=am hl
      have HLL:=am (Ht.leaf_len HRL.out)
      have HR5:=am hr5
      have HL5:=am hl5
      have HLZ:=am (show ∀ x∈l,x.f0.size < 512 from fun x hx=>by have:=Lf.okE_size ((Ht.right_iff.1 HRL.out.1).1 x hx);omega)
      have HLA:=am (show Ht.Apart Ht.ltE l from (Ht.right_iff.1 HRL.out.1).2.imp (fun {a b} h=>Ht.ltE_or (fun e=>by rw [e,Od.less_irrefl] at h;cases h)))
      have HDN:=am (show ∃ dn:List S30,(ms.take j).flatMap (Ht.isort Ht.ltE)=dn from ⟨_,rfl⟩)
      obtain ⟨dn,hdn⟩:=HDN.out
      have HDNL:=am (show dn.length≤1230 by have h1:=aft_len (ms.take j) (fun l hl=>Ht.leaf_len (HMR.out l (List.mem_of_mem_take hl)));rw [hdn,List.length_take] at h1;have:=HMSZ.out;omega)
      rw [hdn] at HOF HSP HNX
      have HRT:=am (show ∃ rt:List S30,(ms.drop (j+1)).flatMap (Ht.isort Ht.ltE)=rt from ⟨_,rfl⟩)
      obtain ⟨rt,hrt⟩:=HRT.out
      rw [hrt] at HSP
      clear hl hl5 hr5 HDN HRT hdn hrt
      obtain ⟨s,hs⟩:∃ s,Ht.isort Ht.ltE l=s:=⟨_,rfl⟩
      have HSL:=am (show s.length=l.length by rw [← hs];exact (Ht.isort_perm Ht.ltE l).length_eq)
      have HSZ:=am (show ∀ x∈s,x.f0.size < 512 from fun x hx=>HLZ.out x ((Ht.isort_perm Ht.ltE l).mem_iff.1 (hs ▸ hx)))
      rw [hs] at HSP HNX
      have HSS:=am hs
      clear hs
      have HBV:=am (show Below wr.heap.size wr (wr.alloc (.cells #[.slice A5 l.length c5] 26)) from (Below.refl _ _).alloc (Nat.le_refl _) _)
      have HBS:=am (show (wr.alloc (.cells #[.slice A5 l.length c5] 26)).heap.size=wr.heap.size+1 by simp)
      go_wp2_with (first|(go_at_call 20;refine (sorted_calls (wr.alloc (.cells #[.slice A5 l.length c5] 26)) wr.heap.size A5 c5 l (blk_new _ _) (Kd.C_below HR5.out HBV.out) (by have:=HLL.out;omega) HLZ.out HLA.out).mono ?_;rintro e w4 ⟨vs,rfl,hr,hb⟩;rw [HSS.out] at hr;obtain ⟨A6,c6,rfl⟩:=Kd.R_slice hr;have HVS:=am hr;have HB4:=am hb;clear hr hb)|(go_at_call 21;refine (values_made A5 l.length c5 wr).mono ?_;rintro e w3 ⟨rfl,rfl⟩))
      clear hjb hcl
      have HB4w:=am (HBV.out.trans (HB4.out.mono (by rw [HBS.out];omega)))
      have HOB:=am (show ∀ k,(Value.slice A6 s.length c6).ownBlock=some k→wr.heap.size < k∧k < w4.heap.size from fun k hk=>by have h1:=Kd.R_base HVS.out k hk;have h2:=Kd.R_lt HVS.out k hk;rw [HBS.out] at h1;omega)
      have HVS4:=am (Kd.R_tight rfl (Kd.R_lower HVS.out (show w3.heap.size≤_ by rw [HBS.out];have:=HB.out.size;omega)))
      have HO4:=am (Kd.R_mono (ok':=fun k=>some k≠(Value.slice A6 s.length c6).ownBlock) (Kd.R_bound (Kd.R_mono (ok':=fun k=>k < wr.heap.size) (Kd.R_bound HO.out) (fun k hk=>hk.2.2.1))) (fun k hk e=>by have:=HOB.out k e.symm;have:=hk.1;omega))
      have HO4:=am (Kd.R_below HO4.out HB4w.out)
      have HBW4:=am (HB.out.trans (HB4w.out.mono HB.out.size))
      have HWJ:=am (show wrap64 ((j:Int)+1)=((j+1:Nat):Int) by have:=HMSZ.out;have:=HJN.out;unfold wrap64;omega)
      clear HVS HO HB HB4 HB4w HBV HBS HR5 HL5
      go_loopw [9,40] (fun o i w'=>∃ (q:Nat) (out:List S30),i=.int .i64 (q:Int)∧Aside0 (q≤s.length)∧Aside0 (Kd.R k30 30 w' w3.heap.size (fun k=>some k≠(Value.slice A6 s.length c6).ownBlock) o out)∧Aside0 (Kd.R k30 30 w' w3.heap.size (fun k=>some k=(Value.slice A6 s.length c6).ownBlock) (.slice A6 s.length c6) s)∧Aside0 (out=(dn++s.take q).filter (aftP a1))∧Aside0 (out.length≤a2.toNat)∧Aside0 (Below w3.heap.size w3 w')∧Aside0 (w4.heap.size≤w'.heap.size)) (fun _ i _=>s.length - (intOf i).toNat)
      case atStart=>exact ⟨0,out,rfl,⟨Nat.zero_le _⟩,HO4,HVS4,⟨by rw [HOF.out];simp⟩,HOL,HBW4,⟨Nat.le_refl _⟩⟩
      case round =>
       clear HO4 HVS4 HOF HOL HBW4
       obtain ⟨q,out,rfl,HQ,HO,HS,HOF,HOL,HB,HWZ⟩:=hrel
       obtain ⟨Ao,co,rfl⟩:=Kd.R_slice HO.out
       by_cases hq:q < s.length
       ·have hqb:decide (q < s.length)=true:=decide_eq_true hq
        have HQN:=am hq
        obtain ⟨ad6,ead,hcm,hci⟩:=at_T30 (Kd.R_reads' HS.out).2.2 (q:Int) (by omega) (by omega)
        cases ead
        rw [Int.toNat_natCast,Lf.rdT_get hq] at hcm hci
        have HTS:=am (show s.take (q+1)=s.take q++[s[q]] from List.take_succ_eq_append_getElem hq)
        have HZX:=am (HSZ.out _ (List.getElem_mem hq))
        have HXE:=am (show ∃ x,s[q]=x from ⟨_,rfl⟩)
        obtain ⟨⟨nm,no⟩,hx⟩:=HXE.out
        rw [hx] at hcm hci HTS HZX
        dsimp only at hcm hci
        clear hx HXE
        have HWQ:=am (show wrap64 ((q:Int)+1)=((q+1:Nat):Int) by have:=HSL.out;have:=HLL.out;have:=HQN.out;unfold wrap64;omega)
        have HBA:=am (show Below wr.heap.size wr (wr.alloc (.cells #[.string nm,.int .i64 no] 30)) from (Below.refl _ _).alloc (Nat.le_refl _) _)
        have HXB:=am (blk_new wr (.cells #[.string nm,.int .i64 no] 30))
        by_cases hn:a2≤(out.length:Int)
        ·have hnb:decide (a2≤(out.length:Int))=true:=decide_eq_true hn
         have HEQ:=am (show out=ans by rw [← HAN.out];exact (aft_stop (rest:=s.drop q++rt) (by rw [HSP.out,List.append_assoc,← List.append_assoc (s.take q),List.take_append_drop]) HOF.out HOL.out hn).symm)
         clear hn;go_wp2
         go_ret2
         exact ⟨_,rfl,HEQ.out ▸ Kd.R_lower (Kd.R_mono (Kd.R_below HO.out HBA.out) (fun _ _=>trivial)) HB3.out.size,HB3.out.trans ((HB.out.trans (HBA.out.mono HB.out.size)).mono HB3.out.size)⟩
        ·have hnb:decide (a2≤(out.length:Int))=false:=decide_eq_false hn
         have HNL:=am (show out.length+1≤a2.toNat by omega)
         clear hn
         obtain ⟨kk,hkk⟩:=(Ht.ord_ev a1 nm 0 no HZ.out HZX.out).rounds
         obtain ⟨r,hr⟩:∃ r,Ht.ordI a1 nm=r:=⟨_,rfl⟩
         rw [hr] at hkk
         have HKK:=am hkk
         have HRI:=am (show (r < 0)↔Ht.ltE ⟨a1,0⟩ ⟨nm,no⟩=true from hr ▸ Ht.ordI_neg ⟨a1,0⟩ ⟨nm,no⟩)
         have HLN:=am (show out.length≤2000 by have h1:=HDNL.out;have h2:=HSL.out;have h3:=HLL.out;have h4:=HOF.out;have h5:=List.length_filter_le (aftP a1) (dn++s.take q);have h6:=List.length_take_le' q s;rw [← h4,List.length_append] at h5;omega)
         clear hr hkk
         by_cases hr0:r < 0
         ·have hrb:decide (r < 0)=true:=decide_eq_true hr0
          have HAP:=am (show aftP a1 ⟨nm,no⟩=true by unfold aftP;rw [HRI.out.1 hr0,Bool.or_true])
          clear hr0
          go_wp2_with (first|((with_reducible refine gate_builtin (b:=.append) (xs:=#[.tmp 58,.tmp 60]) rfl ?_);at_builtin;refine Kd.R_append k30 (w0:=w3) w3.heap.size rfl (.tmp 58) (.tmp 60) 26 30 (.agg #[.string ⟨#[]⟩,.int .i64 0]) 24 rfl Try.underlying26 info30 rfl (by decide) (by omega) _ out (⟨nm,no⟩:S30) [.string nm,.int .i64 no] (fun k=>some k≠(Value.slice (some ad6) s.length c6).ownBlock) (fun _=>False) rfl rfl (k30_mkM _ _ _ (⟨nm,no⟩:S30)) (fun _ hk=>hk.elim) (fun k hk e=>by have h1:=HOB.out k e.symm;have h2:=HWZ.out;have h3:=HBA.out.size;have h4:=HW7.out.size;omega) HO7.out HB7.out HB7.out.size (by have:=HLN.out;omega) ?_;intro v8 w8 ho8 hb8 hg8 hat8;obtain ⟨A8,c8,ev8⟩:=Kd.R_slice ho8;rw [List.length_append,List.length_singleton] at ev8;subst ev8;have HS8:=am (Kd.R_grown HS7.out hg8 (fun k hk ek=>HO7.out.1 k ek.symm hk));have HO8:=am ho8;have HB8:=am hb8;have HG8:=am hg8.size;clear ho8 hb8 hg8 hat8)|(go_at_call 22;refine (htree_inOrder.calls kk a1 0 nm no r _ HKK.out).mono ?_;rintro e w7 ⟨rfl,hb7⟩;have hx0:=(blk_cell (blk_below HXB.out hb7) 0).trans rfl;have hx1:=(blk_cell (blk_below HXB.out hb7) 1).trans rfl;have HW7:=am (HBA.out.trans (hb7.mono HBA.out.size));have HO7:=am (Kd.R_below HO.out HW7.out);have HS7:=am (Kd.R_below HS.out HW7.out);have HB7:=am (HB.out.trans (HW7.out.mono HB.out.size));clear hb7))
          go_roundw
          case rel=>exact ⟨q+1,out++[⟨nm,no⟩],by rw [HWQ.out],⟨HQN.out⟩,HO8,HS8,⟨by rw [HTS.out,← List.append_assoc,List.filter_append,← HOF.out,List.filter_cons_of_pos HAP.out,List.filter_nil]⟩,⟨by rw [List.length_append];exact HNL.out⟩,HB8,⟨by have:=HG8.out;have:=HWZ.out;have:=HW7.out.size;omega⟩⟩
          case measure=>rw [HWQ.out];show s.length - (((q+1:Nat):Int)).toNat < s.length - ((q:Int)).toNat;have:=HQN.out;omega
         ·have hrb:decide (r < 0)=false:=decide_eq_false hr0
          have HAP:=am (show ¬ aftP a1 ⟨nm,no⟩=true by
           unfold aftP
           rw [decide_eq_false HNE.out,Bool.false_or]
           exact fun h=>hr0 (HRI.out.2 h))
          clear hr0
          go_wp2_with (go_at_call 22;refine (htree_inOrder.calls kk a1 0 nm no r _ HKK.out).mono ?_;rintro e w7 ⟨rfl,hb7⟩;have hx0:=(blk_cell (blk_below HXB.out hb7) 0).trans rfl;have hx1:=(blk_cell (blk_below HXB.out hb7) 1).trans rfl;have HW7:=am (HBA.out.trans (hb7.mono HBA.out.size));have HO7:=am (Kd.R_below HO.out HW7.out);have HS7:=am (Kd.R_below HS.out HW7.out);have HB7:=am (HB.out.trans (HW7.out.mono HB.out.size));clear hb7)
          go_roundw
          case rel=>exact ⟨q+1,out,by rw [HWQ.out],⟨HQN.out⟩,HO7,HS7,⟨by rw [HTS.out,← List.append_assoc,List.filter_append,← HOF.out,List.filter_cons_of_neg HAP.out,List.filter_nil,List.append_nil]⟩,HOL,HB7,⟨by have:=HWZ.out;have:=HW7.out.size;omega⟩⟩
          case measure=>rw [HWQ.out];show s.length - (((q+1:Nat):Int)).toNat < s.length - ((q:Int)).toNat;have:=HQN.out;omega
       ·obtain rfl:q=s.length:=by have:=HQ.out;omega
        have hqb:decide (s.length < s.length)=false:=decide_eq_false (by omega)
        clear hq;go_wp2
        go_roundw
        case rel=>exact ⟨j+1,out,by rw [HWJ.out],⟨HJN.out⟩,⟨Kd.R_mono HO.out (fun _ _=>trivial)⟩,⟨by rw [HNX.out,HOF.out,List.take_length]⟩,HOL,HB⟩
        case measure=>rw [HWJ.out];show ms.length - (((j+1:Nat):Int)).toNat < ms.length - ((j:Int)).toNat;have:=HJN.out;omega
     ·obtain rfl:j=ms.length:=by have:=HJ.out;omega
      have hjb:decide (ms.length < ms.length)=false:=decide_eq_false (by omega)
      have HEQ:=am (show out=ans by rw [← HAN.out];exact (aft_end (by have:=HOF.out;rwa [List.take_length] at this) HOL.out).symm)
      clear hj;go_wp2
      go_ret2
      exact ⟨_,rfl,HEQ.out ▸ Kd.R_lower (Kd.R_mono HO.out (fun _ _=>trivial)) HB3.out.size,HB3.out.trans (HB.out.mono HB3.out.size)⟩
 ·rw [if_neg hd] at h
  cases h
end Go.Proofs.Yteglhbfhibfodaa.Pr
end
section
namespace Go.Proofs.Yteglhbfhibfodaa.Pr
open Go.RowKit Go.Proofs.YteglhbfhibfodaaW.PrintWords Go.Proofs.YteglhbfhibfodaaW.PrintLast Go.Proofs.YteglhbfhibfodaaW.PrintMore
attribute [local go_sem] max2_int min2_int max_two min_two max_three min_three max_four min_four
attribute [local go_sem] Go.Proofs.Yteglhbfhibfodaa.Hl.str_geq Go.Proofs.Yteglhbfhibfodaa.Hl.str_gtr Go.Proofs.Yteglhbfhibfodaa.Hl.str_leq
set_option linter.unusedVariables false
set_option linter.unusedSimpArgs false
set_option maxHeartbeats 8000000 in
set_option maxRecDepth 100000 in
theorem del_calls (W:World) (base g n c:Nat) (xs:List S30) (i:Nat) (hn:xs.length=n) (hO:Kd.R k30 30 W base (fun _=>True) (.slice (some ⟨g,0,none⟩) n c) xs) (hbase:base≤W.heap.size) (hi:i < n) (hl:n < 4398046511104) :
  Calls Try.prog 58 #[.slice (some ⟨g,0,none⟩) n c,.int .i64 i,.int .i64 ((i:Int)+1)] W fun e w'=>∃ v',e=.returned v'∧Kd.R k30 30 w' base (fun _=>True) v' (xs.eraseIdx i)∧Below base W w':=by
 have hu26:=Try.underlying30
 have hi26:=info30
 obtain ⟨g',c',cur,hv,hbg,hg,hnc,hcm,hcs,htk⟩:=Rw.own_open (Rw.R_flat hO) (by omega)
 injection hv with hv1 hv2 hv3
 injection hv1 with hv1
 injection hv1 with hv1
 subst hv1
 subst hv3
 rw [hn] at hnc htk
 have HO:=am hO
 have HG:=am hg
 have HN:=am hn
 have HI:=am hi
 have HL:=am hl
 have HC:=am hnc
 have h0:(0:Int)≤(i:Int):=by omega
 have h1:(i:Int)≤(i:Int)+1:=by omega
 have h2:(i:Int)+1≤(n:Int):=by omega
 have h3:(n:Int)≤(c:Int):=by omega
 have hne:((i:Int)==(i:Int)+1)=false:=beq_eq_false_iff_ne.2 (by omega)
 have ht1:((i:Int)+1).toNat=i+1:=by omega
 have hic:i≤c:=by omega
 have h4:(0:Int)≤(i:Int)+1:=by omega
 clear hO hg hn hi hl hnc hcs htk hcm hv2 hbg
 go_enter Try.func58,Try.ntmps58
 go_wp2
 refine start_ (n:=8) (S:=fun w'=>True) (ds:=[]) _ (by kernel_rfl) rfl rfl trivial (fun hHeld=>?_)
 refine pK 0 20 ?_;refine pK 1 21 ?_;refine pK 2 22 ?_;refine pK 3 23 ?_;refine pK 4 24 ?_;refine pK 5 25 ?_
 refine oK 6 (some 26) (fun K hK=>?_)
 refine Kd.R_delete_step k30 (w0:=W) base (by rfl) (.tmp 22) (.tmp 25) 26 30 rfl Try.underlying26 (by kernel_rfl) rfl rfl ?hA ?hm (Kd.R_drew HO.out) HI.out (below_drew1 (Below.refl _ _)) hbase ?_
 (case hA=>simp [add_plain,show k30.sz=2 from rfl])
 (case hm=>rfl)
 intro w1 ho1 hb1 hg1
 refine hK.out _ _ trivial (fun hHeld=>?_)
 clear hK K;refine norm_ (a':=?_) ?_ ?_;rotate_left
 ·show Act.put _ (some 26) _=_
  simp only [Act.put,sIb,sC0,sCs,i64_w,i32_w];rfl
 refine pK 7 0 ?_
 refine done_ (by kernel_rfl) ?_
 obtain ⟨-,-,hbg,hm1,hcm,cur1,hg1',hcs1,htk1⟩:=Rw.own_at (Rw.R_flat ho1)
 have hel:(xs.eraseIdx i).length=n - 1:=by rw [List.length_eraseIdx,if_pos (by rw [HN.out];exact HI.out),HN.out]
 rw [hel] at hm1 htk1
 have hz0:=Rw.run_clear_cells (P:=Try.prog) w1 26 30 0 (.agg #[(.string ⟨#[]⟩),(.int .i64 0)]) 1 2 Try.underlying26 (by kernel_rfl) (by decide) (by decide) g ((n - 1)*2) (c - (n - 1)) cur1 30 hg1' (by rw [hcs1];have:=HC.out;have:=HI.out;omega) (by rw [Rw.zero_one];simp [Value.oneCell']) (by rw [Rw.zero_one];rfl)
 rw [Rw.zero_one] at hz0
 obtain ⟨NW,hNW⟩:∃ NW:Array Value,NW=(cur1.toList.take ((n - 1)*2)++([.string ⟨#[]⟩,.int .i64 0]:List Value)++cur1.toList.drop ((n - 1)*2+1*2)).toArray:=⟨_,rfl⟩
 rw [← hNW] at hz0
 have hkeep:Kd.R k30 30 (w1.setRow g NW) base (fun _=>True) (.slice (some ⟨g,0,none⟩) (xs.eraseIdx i).length c) (xs.eraseIdx i):=by
  have hsz1:cur1.toList.length=c*2:=by rw [Array.length_toList,hcs1]
  have hcn:=HC.out
  have hin:=HI.out
  rw [hNW]
  refine Rw.R_turn ho1 cur1 _ hg1' ?_ ?_ (by rw [hel];exact hm1)
  ·simp only [List.size_toArray,List.length_append,List.length_take,List.length_drop,List.length_cons,List.length_nil,hsz1,hcs1];omega
  ·rw [List.toList_toArray,hel,List.append_assoc,List.take_append_of_le_length (by rw [List.length_take,hsz1];omega),List.take_take,Nat.min_self]
   exact htk1
 rw [hel] at hkeep
 have HK:=am hkeep
 have HZ:=am hz0
 have HBE:=am (Rw.below_turn hb1 hbg NW)
 have hs1:n - (n - 1)=1:=by have:=HI.out;omega
 have hs2:¬ (c=n - 1):=by have:=HI.out;have:=HC.out;omega
 have hs3:n - 1≤n:=by omega
 have hs4:n≤c:=HC.out
 have hs5:((n - 1:Nat):Int)≤(n:Int):=by omega
 clear hkeep hz0 ho1 hb1 hg1 hg1' hcs1 htk1 hel hNW hm1 hcm hbg
 by_cases hci:c=i+1
 ·subst hci
  have hz1:=HZ.out
  go_wp2;go_ret
  exact ⟨_,rfl,HK.out,HBE.out⟩
 ·have hz1:=HZ.out
  go_wp2;go_ret
  exact ⟨_,rfl,HK.out,HBE.out⟩
end Go.Proofs.Yteglhbfhibfodaa.Pr
end
section
namespace Go.Proofs.Yteglhbfhibfodaa.Pr
open Go.RowKit Go.Proofs.YteglhbfhibfodaaW.PrintWords Go.Proofs.YteglhbfhibfodaaW.PrintLast Go.Proofs.YteglhbfhibfodaaW.PrintMore
attribute [local go_sem] max2_int min2_int max_two min_two max_three min_three max_four min_four
attribute [local go_sem] Go.Proofs.Yteglhbfhibfodaa.Hl.str_geq Go.Proofs.Yteglhbfhibfodaa.Hl.str_gtr Go.Proofs.Yteglhbfhibfodaa.Hl.str_leq
set_option linter.unusedVariables false
set_option linter.unusedSimpArgs false
def htree_Remove.f (l0:List (List Int)) (a1:ByteArray):Option (List (List Int)×Int):=if dirB l0=true then some (Ht.removeP l0 a1) else none
set_option maxHeartbeats 8000000 in
set_option maxRecDepth 100000 in
theorem htree_Remove.calls (A0:Option Addr) (c0:Nat) (l0:List (List Int)) (a1:ByteArray) (r1:List (List Int)) (r2:Int) (w:World) (hr0:Kd.C (Kd.slice 5 (Kd.int .u8)) w A0 l0.length l0) (hc0:l0.length≤c0) (h:htree_Remove.f l0 a1=some (r1,r2)) :
  Calls Try.prog 30 #[.slice A0 l0.length c0,.string a1] w fun e w'=>∃ v0_:Value,e=.returned (.tuple #[v0_,.int .i64 r2])∧Kd.S (Kd.slice 5 (Kd.int .u8)) 66 w' w.heap.size (fun _=>True) v0_ r1∧Below w.heap.size w w':=by
 unfold htree_Remove.f at h
 by_cases hd:dirB l0=true
 ·rw [if_pos hd] at h
  have h:=Option.some.inj h
  obtain ⟨hd1,hd2⟩:=dirB_iff hd
  have HR0:=am hr0
  have HC0:=am hc0
  have HD:=am hd1
  have HL:=am hd2
  have HB0:=am (Below.refl w.heap.size w)
  unfold Ht.removeP at h
  clear hd hr0 hc0 hd1 hd2
  cases hx:Ht.readP l0 with
  | none =>
   rw [hx] at h
   obtain ⟨rfl,rfl⟩:=Prod.mk.inj h
   have HX:=am hx
   clear hx h
   go_enter Try.func30,Try.ntmps30
   go_wp2_with (go_at_call 25;refine (open_calls A0 c0 l0 ⟨a1,0⟩ _ HR0.out HC0.out HD.out HL.out).mono ?_;rintro e w2 ⟨hb2,hm⟩;rw [HX.out] at hm;dsimp only at hm;subst hm;have HB2:=am (HB0.out.trans (hb2.mono HB0.out.size));have HW2:=am hb2;clear hb2)
   go_ret2
   exact ⟨_,rfl,Kd.S_nil _ _ _ _ _,HB2.out⟩
  | some p =>
   obtain ⟨rs,ls⟩:=p
   rw [hx] at h
   dsimp only at h
   have HOKR:=am (Ht.readP_ok HD.out hx).1
   have HLV:=am (Ht.readP_ok HD.out hx).2
   have HDL:=am (Ht.readP_len HD.out hx)
   have HX:=am hx
   clear hx
   by_cases hmx:Ht.mayX (⟨a1,0⟩:S30)=false
   ·have HM:=am hmx
    rw [if_pos (show Lf.mayB a1=false from (mayX_zero a1).symm.trans hmx)] at h
    obtain ⟨rfl,rfl⟩:=Prod.mk.inj h
    clear h hmx
    go_enter Try.func30,Try.ntmps30
    go_wp2_with (go_at_call 25;refine (open_calls A0 c0 l0 ⟨a1,0⟩ _ HR0.out HC0.out HD.out HL.out).mono ?_;rintro e w2 ⟨hb2,hm⟩;rw [HX.out] at hm;dsimp only at hm;rw [if_pos HM.out] at hm;subst hm;have HB2:=am (HB0.out.trans (hb2.mono HB0.out.size));have HW2:=am hb2;clear hb2)
    go_ret2
    exact ⟨_,rfl,Kd.S_nil _ _ _ _ _,HB2.out⟩
   ·have HM:=am hmx
    rw [if_neg (show ¬ Lf.mayB a1=false from fun e=>hmx ((mayX_zero a1).trans e))] at h
    obtain ⟨an,han⟩:∃ an,Ht.atP rs (Ht.sumN a1)=an:=⟨_,rfl⟩
    have hanl:an < rs.length:=han ▸ Ht.atP_lt HOKR.out _
    obtain ⟨l,hll⟩:∃ l,ls.getD an []=l:=⟨_,rfl⟩
    have hanls:an < ls.length:=by rw [HLV.out.len];exact hanl
    have HRL:=am (show Lf.right none l=true∧Lf.sumL l≤248 from HLV.out.leaf l (by rw [← hll,Ht.getD_at hanls];exact List.getElem_mem _))
    have HLA:=am (show Ht.leafAt rs ls a1=l by unfold Ht.leafAt;rw [han,hll])
    obtain ⟨pp,hpp⟩:∃ pp,Ht.posP l a1=pp:=⟨_,rfl⟩
    obtain ⟨tt,htt⟩:∃ tt,Ht.thereP l a1=tt:=⟨_,rfl⟩
    have HPT:=am (⟨hpp,htt,han⟩:Ht.posP l a1=pp∧Ht.thereP l a1=tt∧Ht.atP rs (Ht.sumN a1)=an)
    have HLQ:=am hll
    have HAN:=am hanl
    have HL41:=am (Ht.leaf_len HRL.out)
    rw [HPT.out.2.2,HLQ.out,HPT.out.1,HPT.out.2.1,Ht.getD_at HAN.out] at h
    clear hpp htt han hll hanl hmx
    cases tt with
    | false =>
     rw [if_pos rfl] at h
     obtain ⟨rfl,rfl⟩:=Prod.mk.inj h
     clear h
     go_enter Try.func30,Try.ntmps30
     go_wp2_with (go_at_call 25;refine (open_calls A0 c0 l0 ⟨a1,0⟩ _ HR0.out HC0.out HD.out HL.out).mono ?_;rintro e w2 ⟨hb2,hm⟩;rw [HX.out] at hm;dsimp only at hm;rw [if_neg HM.out,HLA.out,HPT.out.1,HPT.out.2.1,HPT.out.2.2] at hm;obtain ⟨B,rfl,-⟩:=hm;have HB2:=am (HB0.out.trans (hb2.mono HB0.out.size));have HW2:=am hb2;clear hb2)
     go_ret2
     exact ⟨_,rfl,Kd.S_nil _ _ _ _ _,HB2.out⟩
    | true =>
     rw [if_neg (by decide)] at h
     have HPL:=am (show pp < l.length by obtain ⟨h1,_⟩:=(Ht.there_at (Ht.right_iff.1 HRL.out.1).2 a1).1 HPT.out.2.1;have:=HPT.out.1;omega)
     have hpl:=HPL.out
     have HDB:=am (show ∀ b∈l0,b.length≤140737488355328 from fun b hb=>by have:=(Ht.readP_blocks HD.out HX.out) b hb;omega)
     obtain ⟨L,hL⟩:∃ L,l.eraseIdx pp=L:=⟨_,rfl⟩
     have HLE:=am hL
     have HLN:=am (show L.length < 4398046511104 by rw [← hL];have:=HL41.out;rw [List.length_eraseIdx];split<;>omega)
     rw [show l.take pp++l.drop (pp+1)=L by rw [← hL,List.eraseIdx_eq_take_drop_succ]] at h
     obtain ⟨rfl,rfl⟩:=Prod.mk.inj h
     have hwp:wrap64 ((pp:Int)+1)=(pp:Int)+1:=by have:=HL41.out;unfold wrap64;omega
     clear h hL
     go_enter Try.func30,Try.ntmps30
     go_wp2_with (first|(go_at_call 28;refine (with_calls w4 B A0 c0 l0 rs ls an A4 c4 L (Kd.C_below HR0.out HB4.out) HC0.out (TreeAt.below ⟨A1,c1,_,c2,HT1.out,HT2.out,HT3.out,HT4.out,HT5.out⟩ HW4.out) HDL.out.1 HDB.out HAN.out (HOKR.out.blk _ (List.getElem_mem HAN.out)) HR4.out HC4.out HLN.out).mono ?_;rintro e w5 ⟨v5,rfl,ho5,hb5⟩;have HO5:=am ho5;have HB5:=am (HB4.out.trans (hb5.mono HB4.out.size));clear ho5 hb5)|(go_at_call 58;refine (del_calls w3 w2.heap.size g3 l.length c3 l pp rfl HO3.out HW3.out.size HPL.out (by have:=HL41.out;omega)).mono ?_;rintro e w4 ⟨v4,rfl,ho4,hb4⟩;rw [HLE.out] at ho4;obtain ⟨A4,c4,rfl,hc4,hr4⟩:=Kd.R_reads ho4;have HR4:=am hr4;have HC4:=am hc4;have HW4:=am (HW3.out.trans (hb4.mono (Nat.le_refl _)));have HB4:=am (HB2.out.trans (HW4.out.mono HB2.out.size));clear ho4 hb4 hc4 hr4)|(go_at_call 27;refine (api_Name_27.calls A5 c5 l l _ HR5.out HL5.out (by unfold api_Name_27.f;rw [if_pos (by have:=HL41.out;omega)])).mono ?_;rintro e w3 ⟨v3,rfl,ho3,hb3⟩;obtain ⟨g3,c3,rfl,-⟩:=Kd.R_form ho3 (by have:=HPL.out;omega);have HO3:=am ho3;have HW3:=am hb3;clear ho3 hb3)|(go_at_call 25;refine (open_calls A0 c0 l0 ⟨a1,0⟩ _ HR0.out HC0.out HD.out HL.out).mono ?_;rintro e w2 ⟨hb2,hm⟩;rw [HX.out] at hm;dsimp only at hm;rw [if_neg HM.out,HLA.out,HPT.out.1,HPT.out.2.1,HPT.out.2.2] at hm;obtain ⟨B,rfl,A1,c1,A2,c2,hT1,hT2,hT3,hT4,hT5⟩:=hm;have hcB:=(blk_cell hT1 2).trans rfl;obtain ⟨ad2,A5,c5,ead,hcl,hl5,hr5⟩:=leaf_at hT4 (an:Int) (by omega) (by omega);cases ead;rw [Int.toNat_natCast,HLQ.out] at hcl hl5 hr5;have HT1:=am hT1;have HT2:=am hT2;have HT3:=am hT3;have HT4:=am hT4;have HT5:=am hT5;have HR5:=am hr5;have HL5:=am hl5;clear hT1 hT2 hT3 hT4 hT5 hr5 hl5;have HB2:=am (HB0.out.trans (hb2.mono HB0.out.size));have HW2:=am hb2;clear hb2))
     go_ret2
     exact ⟨_,rfl,Kd.S_lower HO5.out HB4.out.size,HB5.out⟩
 ·rw [if_neg hd] at h
  cases h
def htree_Set.f (l0:List (List Int)) (a1_0:ByteArray) (a1_1:Int):Option (List (List Int)×Int):=if dirB l0=true then some (Ht.setP l0 ⟨a1_0,a1_1⟩) else none
set_option maxHeartbeats 8000000 in
set_option maxRecDepth 100000 in
theorem htree_Set.calls (A0:Option Addr) (c0:Nat) (l0:List (List Int)) (a1_0:ByteArray) (a1_1:Int) (r1:List (List Int)) (r2:Int) (w:World) (hr0:Kd.C (Kd.slice 5 (Kd.int .u8)) w A0 l0.length l0) (hc0:l0.length≤c0) (h:htree_Set.f l0 a1_0 a1_1=some (r1,r2)) :
  Calls Try.prog 31 #[.slice A0 l0.length c0,.agg #[.string a1_0,.int .i64 a1_1]] w fun e w'=>∃ v0_:Value,e=.returned (.tuple #[v0_,.int .i64 r2])∧Kd.S (Kd.slice 5 (Kd.int .u8)) 66 w' w.heap.size (fun _=>True) v0_ r1∧Below w.heap.size w w':=by
 unfold htree_Set.f at h
 by_cases hd:dirB l0=true
 ·rw [if_pos hd] at h
  have h:=Option.some.inj h
  obtain ⟨hd1,hd2⟩:=dirB_iff hd
  have HR0:=am hr0
  have HC0:=am hc0
  have HD:=am hd1
  have HL:=am hd2
  have HB0:=am ((Below.refl w.heap.size w).alloc (Nat.le_refl _) (.cells #[.string a1_0,.int .i64 a1_1] 30))
  unfold Ht.setP at h
  clear hd hr0 hc0 hd1 hd2
  cases hx:Ht.readP l0 with
  | none =>
   rw [hx] at h
   obtain ⟨rfl,rfl⟩:=Prod.mk.inj h
   have HX:=am hx
   clear hx h
   go_enter Try.func31,Try.ntmps31
   go_wp2_with (go_at_call 25;refine (open_calls A0 c0 l0 ⟨a1_0,a1_1⟩ _ (Kd.C_alloc HR0.out _) HC0.out HD.out HL.out).mono ?_;rintro e w2 ⟨hb2,hm⟩;rw [HX.out] at hm;dsimp only at hm;subst hm;have HB2:=am (HB0.out.trans (hb2.mono HB0.out.size));have HW2:=am hb2;clear hb2)
   go_ret2
   exact ⟨_,rfl,Kd.S_nil _ _ _ _ _,HB2.out⟩
  | some p =>
   obtain ⟨rs,ls⟩:=p
   rw [hx] at h
   dsimp only at h
   have HOKR:=am (Ht.readP_ok HD.out hx).1
   have HLV:=am (Ht.readP_ok HD.out hx).2
   have HDL:=am (Ht.readP_len HD.out hx)
   have HX:=am hx
   clear hx
   by_cases hmx:Ht.mayX (⟨a1_0,a1_1⟩:S30)=false
   ·have HM:=am hmx
    rw [if_pos hmx] at h
    obtain ⟨rfl,rfl⟩:=Prod.mk.inj h
    clear h hmx
    go_enter Try.func31,Try.ntmps31
    go_wp2_with (go_at_call 25;refine (open_calls A0 c0 l0 ⟨a1_0,a1_1⟩ _ (Kd.C_alloc HR0.out _) HC0.out HD.out HL.out).mono ?_;rintro e w2 ⟨hb2,hm⟩;rw [HX.out] at hm;dsimp only at hm;rw [if_pos HM.out] at hm;subst hm;have HB2:=am (HB0.out.trans (hb2.mono HB0.out.size));have HW2:=am hb2;clear hb2)
    go_ret2
    exact ⟨_,rfl,Kd.S_nil _ _ _ _ _,HB2.out⟩
   ·have HM:=am hmx
    rw [if_neg hmx] at h
    obtain ⟨an,han⟩:∃ an,Ht.atP rs (Ht.sumN a1_0)=an:=⟨_,rfl⟩
    have hanl:an < rs.length:=han ▸ Ht.atP_lt HOKR.out _
    obtain ⟨l,hll⟩:∃ l,ls.getD an []=l:=⟨_,rfl⟩
    have hanls:an < ls.length:=by rw [HLV.out.len];exact hanl
    have HRL:=am (show Lf.right none l=true∧Lf.sumL l≤248 from HLV.out.leaf l (by rw [← hll,Ht.getD_at hanls];exact List.getElem_mem _))
    have HLA:=am (show Ht.leafAt rs ls a1_0=l by unfold Ht.leafAt;rw [han,hll])
    obtain ⟨pp,hpp⟩:∃ pp,Ht.posP l a1_0=pp:=⟨_,rfl⟩
    obtain ⟨tt,htt⟩:∃ tt,Ht.thereP l a1_0=tt:=⟨_,rfl⟩
    have HPT:=am (⟨hpp,htt,han⟩:Ht.posP l a1_0=pp∧Ht.thereP l a1_0=tt∧Ht.atP rs (Ht.sumN a1_0)=an)
    have HLQ:=am hll
    have HAN:=am hanl
    have HL41:=am (Ht.leaf_len HRL.out)
    rw [HPT.out.2.2,HLQ.out,HPT.out.1,HPT.out.2.1,Ht.getD_at HAN.out] at h
    clear hpp htt han hll hanl hmx
    cases tt with
    | false =>
     rw [if_pos rfl] at h
     obtain ⟨rfl,rfl⟩:=Prod.mk.inj h
     clear h
     go_enter Try.func31,Try.ntmps31
     go_wp2_with (go_at_call 25;refine (open_calls A0 c0 l0 ⟨a1_0,a1_1⟩ _ (Kd.C_alloc HR0.out _) HC0.out HD.out HL.out).mono ?_;rintro e w2 ⟨hb2,hm⟩;rw [HX.out] at hm;dsimp only at hm;rw [if_neg HM.out,HLA.out,HPT.out.1,HPT.out.2.1,HPT.out.2.2] at hm;obtain ⟨B,rfl,-⟩:=hm;have HB2:=am (HB0.out.trans (hb2.mono HB0.out.size));have HW2:=am hb2;clear hb2)
     go_ret2
     exact ⟨_,rfl,Kd.S_nil _ _ _ _ _,HB2.out⟩
    | true =>
     rw [if_neg (by decide)] at h
     have HPL:=am (show pp < l.length by obtain ⟨h1,_⟩:=(Ht.there_at (Ht.right_iff.1 HRL.out.1).2 a1_0).1 HPT.out.2.1;have:=HPT.out.1;omega)
     have hpl:=HPL.out
     have HDB:=am (show ∀ b∈l0,b.length≤140737488355328 from fun b hb=>by have:=(Ht.readP_blocks HD.out HX.out) b hb;omega)
     obtain ⟨L,hL⟩:∃ L,l.set pp ⟨a1_0,a1_1⟩=L:=⟨_,rfl⟩
     have HLE:=am hL
     have HLN:=am (show L.length < 4398046511104 by rw [← hL];have:=HL41.out;rw [List.length_set];omega)
     rw [hL] at h
     obtain ⟨rfl,rfl⟩:=Prod.mk.inj h
     have HLEN:=am (show L.length=l.length by rw [← hL,List.length_set])
     clear h hL
     go_enter Try.func31,Try.ntmps31
     go_wp2_with (first|(go_at_call 28;have hwc:=(with_calls w4 B A0 c0 l0 rs ls an (some ⟨g3,0,none⟩) c3 L (Kd.C_below HR0.out HB4.out) HC0.out (TreeAt.below ⟨A1,c1,_,c2,HT1.out,HT2.out,HT3.out,HT4.out,HT5.out⟩ HW4.out) HDL.out.1 HDB.out HAN.out (HOKR.out.blk _ (List.getElem_mem HAN.out)) HR4.out HC4.out HLN.out);rw [HLEN.out] at hwc;refine hwc.mono ?_;rintro e w5 ⟨v5,rfl,ho5,hb5⟩;have HO5:=am ho5;have HB5:=am (HB4.out.trans (hb5.mono HB4.out.size));clear ho5 hb5)|((with_reducible refine gate_store (p:=39) rfl ?_);refine Kd.R_store k30 (w0:=w2) w2.heap.size rfl rfl 30 (.tmp 39) (.tmp 38) rfl 30 (pp:Int) 0 l (⟨a1_0,a1_1⟩:S30) (.agg #[.string a1_0,.int .i64 a1_1]) [.string a1_0,.int .i64 a1_1] _ (fun _=>True) (fun _=>False) rfl (by first|rfl|(rw [show k30.sz=2 from rfl];omega)) rfl rfl (by kernel_rfl) (by simp [Value.oneCell']) HO3.out (by omega) (by have:=HPL.out;omega) rfl HCC.out (show 2≤2 from by decide) (k30_mkM _ _ _ (⟨a1_0,a1_1⟩:S30)) (fun _ h=>h.elim) HW3.out ?_;intro w4 ho4 hb4 hg4;rw [Int.toNat_natCast,HLE.out] at ho4;obtain ⟨A4,c4,e4,hc4,hr4⟩:=Kd.R_reads ho4;rw [HLEN.out] at e4;injection e4 with e4a e4b e4c;subst e4a;subst e4c;have HR4:=am hr4;have HC4:=am hc4;have HW4:=am hb4;have HB4:=am (HB2.out.trans (hb4.mono HB2.out.size));clear ho4 hb4 hg4 hc4 hr4 e4b)|(go_at_call 27;refine (api_Name_27.calls A5 c5 l l _ HR5.out HL5.out (by unfold api_Name_27.f;rw [if_pos (by have:=HL41.out;omega)])).mono ?_;rintro e w3 ⟨v3,rfl,ho3,hb3⟩;obtain ⟨g3,c3,rfl,-⟩:=Kd.R_form ho3 (by have:=HPL.out;omega);have HO3:=am ho3;have HW3:=am hb3;clear ho3 hb3;clear hx0 hx1;have HX3:=am (blk_below HX2.out HW3.out);have hx0:=kC HX3 0;have hx1:=kC HX3 1;obtain ⟨ce,hcl_,hM_,hcc_,hfr_⟩:=Kd.R_elem HO3.out z30 (pp:Int) (by omega) (by have:=HPL.out;omega);obtain rfl:=k30_openM hM_;have HCC:=am hcc_;clear hcl_ hM_ hcc_ hfr_)|(go_at_call 25;refine (open_calls A0 c0 l0 ⟨a1_0,a1_1⟩ _ (Kd.C_alloc HR0.out _) HC0.out HD.out HL.out).mono ?_;rintro e w2 ⟨hb2,hm⟩;rw [HX.out] at hm;dsimp only at hm;rw [if_neg HM.out,HLA.out,HPT.out.1,HPT.out.2.1,HPT.out.2.2] at hm;obtain ⟨B,rfl,A1,c1,A2,c2,hT1,hT2,hT3,hT4,hT5⟩:=hm;have hcB:=(blk_cell hT1 2).trans rfl;obtain ⟨ad2,A5,c5,ead,hcl,hl5,hr5⟩:=leaf_at hT4 (an:Int) (by omega) (by omega);cases ead;rw [Int.toNat_natCast,HLQ.out] at hcl hl5 hr5;have HT1:=am hT1;have HT2:=am hT2;have HT3:=am hT3;have HT4:=am hT4;have HT5:=am hT5;have HR5:=am hr5;have HL5:=am hl5;clear hT1 hT2 hT3 hT4 hT5 hr5 hl5;have HX2:=am (blk_below (blk_new w (.cells #[.string a1_0,.int .i64 a1_1] 30)) hb2);have hx0:=kC HX2 0;have hx1:=kC HX2 1;have HB2:=am (HB0.out.trans (hb2.mono HB0.out.size));have HW2:=am hb2;clear hb2))
     go_ret2
     exact ⟨_,rfl,Kd.S_lower HO5.out HB4.out.size,HB5.out⟩
 ·rw [if_neg hd] at h
  cases h
def l_12_do.f (l0:List (List Int)) (a1_0:Int) (a1_1:ByteArray) (a1_2:Int):Option ((List (List Int))×Int):=if (Go.bits .and .i64 a1_0 3)=1 then ((htree_Remove.f l0 a1_1).bind fun bt279=>(some (bt279.1,bt279.2))) else (if (Go.bits .and .i64 a1_0 3)=2 then ((htree_Set.f l0 a1_1 a1_2).bind fun bt283=>(some (bt283.1,bt283.2))) else ((htree_Add.f l0 a1_1 a1_2).bind fun bt287=>(some (bt287.1,bt287.2))))
set_option maxHeartbeats 8000000 in
set_option maxRecDepth 100000 in
theorem l_12_do.calls (A0:Option Addr) (c0:Nat) (l0:List (List Int)) (a1_0:Int) (a1_1:ByteArray) (a1_2:Int) (r1:List (List Int)) (r2:Int) (w:World) (hr0:Kd.C (Kd.slice 5 (Kd.int .u8)) w A0 l0.length l0) (hc0:l0.length≤c0) (h:l_12_do.f l0 a1_0 a1_1 a1_2=some (r1,r2)) :
  Calls Try.prog 15 #[.slice A0 l0.length c0,.agg #[.int .i64 a1_0,.string a1_1,.int .i64 a1_2]] w fun e w'=>∃ v0_:Value,e=.returned (.tuple #[v0_,.int .i64 r2])∧Kd.S (Kd.slice 5 (Kd.int .u8)) 66 w' w.heap.size (fun _=>True) v0_ r1∧Below w.heap.size w w':=by
 have hu44:=Try.underlying44
 have hu30:=Try.underlying30
 have HR0:=am hr0
 have HC0:=am hc0
 clear hr0 hc0
 have HB:=am (Below.refl w.heap.size w)
 have H:(if (Go.bits .and .i64 a1_0 3)=1 then ((htree_Remove.f l0 a1_1).bind fun bt279=>(some (bt279.1,bt279.2))) else (if (Go.bits .and .i64 a1_0 3)=2 then ((htree_Set.f l0 a1_1 a1_2).bind fun bt283=>(some (bt283.1,bt283.2))) else ((htree_Add.f l0 a1_1 a1_2).bind fun bt287=>(some (bt287.1,bt287.2)))))=some (r1,r2):=h
 clear h
 by_cases c3:(Go.bits .and .i64 a1_0 3)=1
 ·rw [if_pos c3] at H
  have c3b0:((Go.bits .and .i64 a1_0 3)==1)=true:=beq_iff_eq.mpr c3
  have c3b1:((Go.bits .and .i64 a1_0 3) != 1)=false:=bne_eq_false_iff_eq.mpr c3
  clear c3
  replace H:=Option.bind_eq_some_iff.mp H
  obtain ⟨⟨t279,t280⟩,A40,H⟩:=H
  replace H:(some (t279,t280))=some (r1,r2):=H
  have A4:=am A40
  clear A40
  simp only [Option.some.injEq,Prod.mk.injEq] at H
  obtain ⟨rfl,rfl⟩:=H
  go_enter Try.func15,Try.ntmps15
  go_wp2_with (first|((with_reducible refine gate_dst (N:=3) rfl ?_);refine box_event ?hg (N:=3) ?hd (cs:=#[.int .i64 a1_0,.string a1_1,.int .i64 a1_2]) (t:=44) ?hr ?_;(case hd=>rfl);(case hg=>rfl);(case hr=>first|(go_simp;done)|(go_simp;rfl));intro gb278 hg w5 hbox hb;have n0_:=bst HB hb;have n1_:=am (hbox);have n2_:=am ((gz hg HB));have n3_:=am ((gz hg HB));clear HB;have HB:=n0_;have BK278:=n1_;have GW278:=n2_;have GE278:=n3_;clear n0_ n1_ n2_ n3_;clear hb hbox hg;have hcz6_0:w5.cell? ⟨gb278,0,none⟩=some (.int .i64 a1_0):=kC BK278 0;have hcz6_1:w5.cell? ⟨gb278,1,none⟩=some (.string a1_1):=kC BK278 1;have hcz6_2:w5.cell? ⟨gb278,2,none⟩=some (.int .i64 a1_2):=kC BK278 2;have hfz6_0:=blk_frozen BK278.out 0;have hfz6_1:=blk_frozen BK278.out 1;have hfz6_2:=blk_frozen BK278.out 2)|((with_reducible refine gate_callee (f:=30) rfl ?_);refine goesL_ (some 14) rfl rfl Try.func30 (by kernel_rfl) rfl #[.slice A0 l0.length c0,.string a1_1] rfl (by (try simp only [List.map_toArray,List.map_cons,List.map_nil]);first|done|rfl|(simp only [List.length_drop,List.length_take];rfl)) ?_;(with_reducible refine (htree_Remove.calls _ _ l0 a1_1 t279 t280 _ ?side1 ?side2 A4.out).mono ?_);(case side1=>exact cc (Kd.C_below HR0.out HB.out));(case side2=>exact HC0.out);rintro e w7 ⟨v281,rfl,ho0,hb⟩;refine ⟨_,rfl,?_⟩;have n0_:=am (Kd.S_lower ho0 (below_size (bxs HB GE278)));have n1_:=am (blk_below (g:=gb278) (o:=.cells #[.int .i64 a1_0,.string a1_1,.int .i64 a1_2] 44 (0,0)) (rK BK278) hb);have n2_:=am (below_step (bxs HB GE278) hb);clear BK278;clear HB;have HO282:=n0_;have BK278:=n1_;have HB:=n2_;clear n0_ n1_ n2_;(try clear hb);(try clear hb2);(try clear hk);(try clear hi);(try clear ho0)))
  go_ret2
  exact ⟨_,by first|rfl|(simp [errW_none,errW_some]<;>rfl)|(simp [*,errW_none,errW_some]<;>rfl),by (with_reducible repeat (first|apply Kd.S_alloc|apply Kd.S_drewN|apply Kd.S_drew));exact HO282.out,bxs HB GE278⟩
 ·rw [if_neg c3] at H
  have c3b0:((Go.bits .and .i64 a1_0 3)==1)=false:=beq_eq_false_iff_ne.mpr c3
  have c3b1:((Go.bits .and .i64 a1_0 3) != 1)=true:=bne_iff_ne.mpr c3
  by_cases c8:(Go.bits .and .i64 a1_0 3)=2
  ·rw [if_pos c8] at H
   have c8b0:((Go.bits .and .i64 a1_0 3)==2)=true:=beq_iff_eq.mpr c8
   have c8b1:((Go.bits .and .i64 a1_0 3) != 2)=false:=bne_eq_false_iff_eq.mpr c8
   clear c8
   replace H:=Option.bind_eq_some_iff.mp H
   obtain ⟨⟨t283,t286⟩,A90,H⟩:=H
   replace H:(some (t283,t286))=some (r1,r2):=H
   have A9:=am A90
   clear A90
   simp only [Option.some.injEq,Prod.mk.injEq] at H
   obtain ⟨rfl,rfl⟩:=H
   go_enter Try.func15,Try.ntmps15
   go_wp2_with (first|((with_reducible refine gate_dst (N:=3) rfl ?_);refine box_event ?hg (N:=3) ?hd (cs:=#[.int .i64 a1_0,.string a1_1,.int .i64 a1_2]) (t:=44) ?hr ?_;(case hd=>rfl);(case hg=>rfl);(case hr=>first|(go_simp;done)|(go_simp;rfl));intro gb278 hg w10 hbox hb;have n0_:=bst HB hb;have n1_:=am (hbox);have n2_:=am ((gz hg HB));have n3_:=am ((gz hg HB));clear HB;have HB:=n0_;have BK278:=n1_;have GW278:=n2_;have GE278:=n3_;clear n0_ n1_ n2_ n3_;clear hb hbox hg;have hcz11_0:w10.cell? ⟨gb278,0,none⟩=some (.int .i64 a1_0):=kC BK278 0;have hcz11_1:w10.cell? ⟨gb278,1,none⟩=some (.string a1_1):=kC BK278 1;have hcz11_2:w10.cell? ⟨gb278,2,none⟩=some (.int .i64 a1_2):=kC BK278 2;have hfz11_0:=blk_frozen BK278.out 0;have hfz11_1:=blk_frozen BK278.out 1;have hfz11_2:=blk_frozen BK278.out 2)|((with_reducible refine gate_callee (f:=31) rfl ?_);refine goesL_ (some 25) rfl rfl Try.func31 (by kernel_rfl) rfl #[.slice A0 l0.length c0,.agg #[.string a1_1,.int .i64 a1_2]] rfl (by (try simp only [List.map_toArray,List.map_cons,List.map_nil]);first|done|rfl|(simp only [List.length_drop,List.length_take];rfl)) ?_;(with_reducible refine (htree_Set.calls _ _ l0 a1_1 a1_2 t283 t286 _ ?side1 ?side2 A9.out).mono ?_);(case side1=>exact cc (Kd.C_below HR0.out HB.out));(case side2=>exact HC0.out);rintro e w12 ⟨v284,rfl,ho0,hb⟩;refine ⟨_,rfl,?_⟩;have n0_:=am (Kd.S_lower ho0 (below_size (bxs HB GE278)));have n1_:=am (blk_below (g:=gb278) (o:=.cells #[.int .i64 a1_0,.string a1_1,.int .i64 a1_2] 44 (0,0)) (rK BK278) hb);have n2_:=am (below_step (bxs HB GE278) hb);clear BK278;clear HB;have HO285:=n0_;have BK278:=n1_;have HB:=n2_;clear n0_ n1_ n2_;(try clear hb);(try clear hb2);(try clear hk);(try clear hi);(try clear ho0)))
   go_ret2
   exact ⟨_,by first|rfl|(simp [errW_none,errW_some]<;>rfl)|(simp [*,errW_none,errW_some]<;>rfl),by (with_reducible repeat (first|apply Kd.S_alloc|apply Kd.S_drewN|apply Kd.S_drew));exact HO285.out,bxs HB GE278⟩
  ·rw [if_neg c8] at H
   have c8b0:((Go.bits .and .i64 a1_0 3)==2)=false:=beq_eq_false_iff_ne.mpr c8
   have c8b1:((Go.bits .and .i64 a1_0 3) != 2)=true:=bne_iff_ne.mpr c8
   replace H:=Option.bind_eq_some_iff.mp H
   obtain ⟨⟨t287,t290⟩,A130,H⟩:=H
   replace H:(some (t287,t290))=some (r1,r2):=H
   have A13:=am A130
   clear A130
   simp only [Option.some.injEq,Prod.mk.injEq] at H
   obtain ⟨rfl,rfl⟩:=H
   go_enter Try.func15,Try.ntmps15
   go_wp2_with (first|((with_reducible refine gate_dst (N:=3) rfl ?_);refine box_event ?hg (N:=3) ?hd (cs:=#[.int .i64 a1_0,.string a1_1,.int .i64 a1_2]) (t:=44) ?hr ?_;(case hd=>rfl);(case hg=>rfl);(case hr=>first|(go_simp;done)|(go_simp;rfl));intro gb278 hg w14 hbox hb;have n0_:=bst HB hb;have n1_:=am (hbox);have n2_:=am ((gz hg HB));have n3_:=am ((gz hg HB));clear HB;have HB:=n0_;have BK278:=n1_;have GW278:=n2_;have GE278:=n3_;clear n0_ n1_ n2_ n3_;clear hb hbox hg;have hcz15_0:w14.cell? ⟨gb278,0,none⟩=some (.int .i64 a1_0):=kC BK278 0;have hcz15_1:w14.cell? ⟨gb278,1,none⟩=some (.string a1_1):=kC BK278 1;have hcz15_2:w14.cell? ⟨gb278,2,none⟩=some (.int .i64 a1_2):=kC BK278 2;have hfz15_0:=blk_frozen BK278.out 0;have hfz15_1:=blk_frozen BK278.out 1;have hfz15_2:=blk_frozen BK278.out 2)|((with_reducible refine gate_callee (f:=13) rfl ?_);refine goesL_ (some 34) rfl rfl Try.func13 (by kernel_rfl) rfl #[.slice A0 l0.length c0,.agg #[.string a1_1,.int .i64 a1_2]] rfl (by (try simp only [List.map_toArray,List.map_cons,List.map_nil]);first|done|rfl|(simp only [List.length_drop,List.length_take];rfl)) ?_;(with_reducible refine (htree_Add.calls _ _ l0 a1_1 a1_2 t287 t290 _ ?side1 ?side2 A13.out).mono ?_);(case side1=>exact cc (Kd.C_below HR0.out HB.out));(case side2=>exact HC0.out);rintro e w16 ⟨v288,rfl,ho0,hb⟩;refine ⟨_,rfl,?_⟩;have n0_:=am (Kd.S_lower ho0 (below_size (bxs HB GE278)));have n1_:=am (blk_below (g:=gb278) (o:=.cells #[.int .i64 a1_0,.string a1_1,.int .i64 a1_2] 44 (0,0)) (rK BK278) hb);have n2_:=am (below_step (bxs HB GE278) hb);clear BK278;clear HB;have HO289:=n0_;have BK278:=n1_;have HB:=n2_;clear n0_ n1_ n2_;(try clear hb);(try clear hb2);(try clear hk);(try clear hi);(try clear ho0)))
   go_ret2
   exact ⟨_,by first|rfl|(simp [errW_none,errW_some]<;>rfl)|(simp [*,errW_none,errW_some]<;>rfl),by (with_reducible repeat (first|apply Kd.S_alloc|apply Kd.S_drewN|apply Kd.S_drew));exact HO289.out,bxs HB GE278⟩
end Go.Proofs.Yteglhbfhibfodaa.Pr
end
section
namespace Go.Proofs.Yteglhbfhibfodaa.Ht
open Go.RowKit Go.Proofs.YteglhbfhibfodaaW.PrintWords Go.Proofs.YteglhbfhibfodaaW.PrintMore Go.Proofs.Yteglhbfhibfodaa.Pr Go.Proofs.Yteglhbfhibfodaa.Od Go.Proofs.Yteglhbfhibfodaa.Cr Go.Proofs.Yteglhbfhibfodaa.Lf
set_option linter.unusedVariables false
set_option linter.unusedSimpArgs false
abbrev sK : E → Int := fun x => sumN x.f0
def dirOf : List R → List (List E) → List (Int × List E)
  | r :: rs, l :: ls => (r.f0, l) :: dirOf rs ls
  | _, _ => []
theorem dirOf_append : ∀ {A : List R} {LA : List (List E)} {B : List R} {LB : List (List E)}, LA.length = A.length → dirOf (A ++ B) (LA ++ LB) = dirOf A LA ++ dirOf B LB
  | [], [], B, LB, _ => by simp [dirOf]
  | [], _ :: _, _, _, h => by simp at h
  | _ :: _, [], _, _, h => by simp at h
  | r :: A, l :: LA, B, LB, h => by
    show (r.f0, l) :: dirOf (A ++ B) (LA ++ LB) = (r.f0, l) :: (dirOf A LA ++ dirOf B LB)
    rw [dirOf_append (by simpa using h)]
theorem dirOf_mem : ∀ {rs : List R} {ls : List (List E)} {q : Int × List E}, q ∈ dirOf rs ls → (∃ r ∈ rs, q.1 = r.f0) ∧ q.2 ∈ ls
  | [], ls, q, h => by simp [dirOf] at h
  | _ :: _, [], q, h => by simp [dirOf] at h
  | r :: rs, l :: ls, q, h => by
    rcases List.mem_cons.1 (show q ∈ (r.f0, l) :: dirOf rs ls from h) with rfl | h
    · exact ⟨⟨r, List.mem_cons_self, rfl⟩, List.mem_cons_self⟩
    · obtain ⟨⟨r', h1, h2⟩, h3⟩ := dirOf_mem h
      exact ⟨⟨r', List.mem_cons_of_mem _ h1, h2⟩, List.mem_cons_of_mem _ h3⟩
theorem dirOf_ents : ∀ {rs : List R} {ls : List (List E)}, ls.length = rs.length → ents ltE (dirOf rs ls) = ls.flatMap (isort ltE)
  | [], [], _ => rfl
  | [], _ :: _, h => by simp at h
  | _ :: _, [], h => by simp at h
  | r :: rs, l :: ls, h => by
    show ents ltE ((r.f0, l) :: dirOf rs ls) = _
    rw [ents_cons, List.flatMap_cons, dirOf_ents (by simpa using h)]
theorem leaf_apart {l : List E} (h : right none l = true) : Apart ltE l := (right_iff.1 h).2.imp (fun {a b} h => ltE_or (fun e => by rw [e, less_irrefl] at h; cases h))
theorem dirOf_right {d : List (List Int)} : ∀ {rs : List R} {ls : List (List E)}, leavesP d rs = some ls → rs.Pairwise (fun a b => a.f0 < b.f0) → Right sK ltE (dirOf rs ls)
  | [], ls, h, _ => by
    obtain rfl := Option.some.inj h
    exact ⟨List.Pairwise.nil, fun _ h => (by cases h), fun _ h => (by cases h)⟩
  | r :: rs, ls, h, hu => by
    unfold leavesP at h
    split at h
    · next hc =>
      obtain ⟨ms, hms, rfl⟩ := Option.map_eq_some_iff.1 h
      obtain ⟨hu1, hu2⟩ := List.pairwise_cons.1 hu
      have ih := dirOf_right hms hu2
      have hl : right none (decR (blk d r.f1)).1 = true := (encR_iff.1 (decR_ok hc.1).1).1
      have hin := fun x hx => List.all_eq_true.1 hc.2 x hx
      have hx0 : ∀ x ∈ (decR (blk d r.f1)).1, r.f0 ≤ sumN x.f0 := fun x hx => by
        have := hin x hx
        unfold inRow at this
        simp only [Bool.and_eq_true, decide_eq_true_eq] at this
        exact this.1
      refine ⟨List.pairwise_cons.2 ⟨fun q hq => ?_, ih.rise⟩, fun p hp => ?_, fun p hp => ?_⟩
      · obtain ⟨⟨r', h1, h2⟩, _⟩ := dirOf_mem hq
        refine ⟨by rw [h2]; exact hu1 r' h1, fun x hx => ?_⟩
        rw [h2]
        have hb := hin x hx
        cases rs with
        | nil => cases h1
        | cons r1 rs1 =>
          have hb : (decide (r.f0 ≤ sumN x.f0) && decide (sumN x.f0 < r1.f0)) = true := hb
          simp only [Bool.and_eq_true, decide_eq_true_eq] at hb
          rcases List.mem_cons.1 h1 with rfl | h1
          · exact hb.2
          · have h3 := (List.pairwise_cons.1 hu2).1 r' h1
            show sumN x.f0 < r'.f0
            omega
      · rcases List.mem_cons.1 hp with rfl | hp
        · exact hx0
        · exact ih.low p hp
      · rcases List.mem_cons.1 hp with rfl | hp
        · exact leaf_apart hl
        · exact ih.apart p hp
    · cases h
def entsD (d : List (List Int)) : List E := match readP d with | none => [] | some (rs, ls) => ents ltE (dirOf rs ls)
theorem entsD_eq {d : List (List Int)} {rs : List R} {ls : List (List E)} (h : readP d = some (rs, ls)) : entsD d = ents ltE (dirOf rs ls) := by unfold entsD; rw [h]
theorem readP_right {d : List (List Int)} (hd : bytesD d) {rs : List R} {ls : List (List E)} (h : readP d = some (rs, ls)) : Right sK ltE (dirOf rs ls) := dirOf_right (readP_some h).2 (readP_ok hd h).1.up
theorem entsD_rises {d : List (List Int)} (hd : bytesD d) : Rises ltE (entsD d) := by
  cases h : readP d with
  | none => unfold entsD; rw [h]; exact List.Pairwise.nil
  | some p =>
    obtain ⟨rs, ls⟩ := p
    rw [entsD_eq h]
    exact ents_rises byS (readP_right hd h)
theorem entsD_ok {d : List (List Int)} (hd : bytesD d) : ∀ x ∈ entsD d, okE x = true := by
  intro x hx
  cases h : readP d with
  | none => unfold entsD at hx; rw [h] at hx; cases hx
  | some p =>
    obtain ⟨rs, ls⟩ := p
    rw [entsD_eq h] at hx
    obtain ⟨q, hq, hx⟩ := mem_ents.1 hx
    exact right_ok _ _ ((readP_ok hd h).2.leaf _ (dirOf_mem hq).2).1 x hx
theorem flat_len (xs : List (List E)) (h : ∀ l ∈ xs, l.length ≤ 41) : (xs.flatMap (isort ltE)).length ≤ 41 * xs.length := by
  induction xs with
  | nil => simp
  | cons l r ih =>
    have h1 := h l (by simp)
    have h2 := ih (fun x hx => h x (by simp [hx]))
    have h3 := (isort_perm ltE l).length_eq
    rw [List.flatMap_cons, List.length_append, List.length_cons]
    omega
theorem entsD_len {d : List (List Int)} (hd : bytesD d) : (entsD d).length ≤ 1230 := by
  cases h : readP d with
  | none => unfold entsD; rw [h]; simp
  | some p =>
    obtain ⟨rs, ls⟩ := p
    obtain ⟨h1, h2⟩ := readP_ok hd h
    rw [entsD_eq h, dirOf_ents h2.len]
    have h3 := flat_len ls (fun l hl => leaf_len (h2.leaf l hl))
    have := h1.high
    have := h2.len
    omega
theorem open_split {n : Nat} {rs : List R} {ls : List (List E)} (h1 : RowsOk n rs) (hl : ls.length = rs.length) (nm : ByteArray) : ∃ A r B LA l LB, rs = A ++ r :: B ∧ ls = LA ++ l :: LB ∧ atP rs (sumN nm) = A.length ∧ LA.length = A.length ∧ r.f0 ≤ sumN nm ∧ ∀ q ∈ B, sumN nm < q.f0 := by
  have ha := atP_lt h1 (sumN nm)
  obtain ⟨h2, h3⟩ := at_row h1 (sumN nm) (sumN_nn nm).1
  obtain ⟨a, ha, hae, h2, h3⟩ : ∃ a, ∃ ha : a < rs.length, atP rs (sumN nm) = a ∧ (rs[a]'ha).f0 ≤ sumN nm ∧ ∀ (i : Nat) (hi : i < rs.length), a < i → sumN nm < rs[i].f0 := ⟨_, ha, rfl, h2, h3⟩
  rw [hae]
  refine ⟨rs.take a, rs[a], rs.drop (a + 1), ls.take a, ls[a]'(by omega), ls.drop (a + 1), ?_, ?_, ?_, ?_, h2, fun q hq => ?_⟩
  · rw [← List.drop_eq_getElem_cons ha, List.take_append_drop]
  · rw [← List.drop_eq_getElem_cons (by omega), List.take_append_drop]
  · rw [List.length_take]; omega
  · rw [List.length_take, List.length_take]; omega
  · obtain ⟨i, hi, rfl⟩ := List.getElem_of_mem hq
    rw [List.getElem_drop]
    exact h3 _ _ (by omega)
theorem getD_mid {α : Type} (A : List α) (r : α) (B : List α) (x : α) : (A ++ r :: B).getD A.length x = r := by simp [List.getD_eq_getElem?_getD]
theorem after_all {d : List (List Int)} (hd : bytesD d) {rs : List R} {ls : List (List E)} (hr : readP d = some (rs, ls)) {nm : ByteArray} (hn : nm.size = 0) (n : Int) : afterP d nm n = ((entsD d).take n.toNat, 0) := by
  unfold afterP
  rw [hr]
  dsimp only
  rw [if_pos hn, List.drop_zero, entsD_eq hr, dirOf_ents (readP_ok hd hr).2.len, List.filter_eq_self.2 (fun x _ => by simp [hn])]
theorem check_ok {d : List (List Int)} : checkP d = 0 ↔ ∃ rs ls, readP d = some (rs, ls) := by
  unfold checkP
  cases readP d with
  | none => simp
  | some p => obtain ⟨rs, ls⟩ := p; simp
theorem leaves_cons {d : List (List Int)} {r : R} {B : List R} {l : List E} {LB : List (List E)} (h1 : decR (blk d r.f1) = (l, 0)) (h2 : ∀ x ∈ l, inRow r (B.head?.map (·.f0)) x = true) (h3 : leavesP d B = some LB) : leavesP d (r :: B) = some (l :: LB) := by
  unfold leavesP
  rw [h1]
  dsimp only
  rw [if_pos ⟨rfl, List.all_eq_true.2 h2⟩, h3]
  rfl
theorem leaves_uncons {d : List (List Int)} {r : R} {B : List R} {l : List E} {LB : List (List E)} (h : leavesP d (r :: B) = some (l :: LB)) : decR (blk d r.f1) = (l, 0) ∧ (∀ x ∈ l, inRow r (B.head?.map (·.f0)) x = true) ∧ leavesP d B = some LB := by
  unfold leavesP at h
  split at h
  · next hc =>
    obtain ⟨ms, hms, he⟩ := Option.map_eq_some_iff.1 h
    obtain ⟨e1, rfl⟩ := List.cons.inj he
    refine ⟨Prod.ext e1 hc.1, fun x hx => List.all_eq_true.1 hc.2 x (e1 ▸ hx), hms⟩
  · cases h
theorem leaves_same {d d' : List (List Int)} : ∀ {B : List R}, (∀ q ∈ B, blk d' q.f1 = blk d q.f1) → leavesP d' B = leavesP d B
  | [], _ => rfl
  | r :: B, h => by
    have ih := leaves_same (B := B) (fun q hq => h q (List.mem_cons_of_mem _ hq))
    unfold leavesP
    rw [h r List.mem_cons_self, ih]
theorem leaves_parts {d : List (List Int)} : ∀ {A : List R} {r : R} {B : List R} {LA : List (List E)} {l : List E} {LB : List (List E)}, leavesP d (A ++ r :: B) = some (LA ++ l :: LB) → LA.length = A.length →
    decR (blk d r.f1) = (l, 0) ∧ (∀ x ∈ l, inRow r (B.head?.map (·.f0)) x = true) ∧ leavesP d B = some LB ∧
    ∀ (d' : List (List Int)) (X' : List R) (LX' : List (List E)), (∀ q ∈ A, blk d' q.f1 = blk d q.f1) → X'.head?.map (·.f0) = some r.f0 → leavesP d' X' = some LX' → leavesP d' (A ++ X') = some (LA ++ LX')
  | [], r, B, [], l, LB, h, _ => by
    obtain ⟨h1, h2, h3⟩ := leaves_uncons h
    exact ⟨h1, h2, h3, fun _ _ _ _ _ h => h⟩
  | [], _, _, _ :: _, _, _, _, h => by simp at h
  | _ :: _, _, _, [], _, _, _, h => by simp at h
  | a :: A, r, B, la :: LA, l, LB, h, hl => by
    obtain ⟨h1, h2, h3⟩ := leaves_uncons (show leavesP d (a :: (A ++ r :: B)) = some (la :: (LA ++ l :: LB)) from h)
    obtain ⟨g1, g2, g3, g4⟩ := leaves_parts h3 (by simpa using hl)
    refine ⟨g1, g2, g3, fun d' X' LX' hA hh hX => ?_⟩
    refine leaves_cons (by rw [hA a List.mem_cons_self]; exact h1) ?_ (g4 d' X' LX' (fun q hq => hA q (List.mem_cons_of_mem _ hq)) hh hX)
    have e : (A ++ X').head?.map (·.f0) = (A ++ r :: B).head?.map (·.f0) := by
      cases A with
      | nil => exact hh
      | cons a A => rfl
    exact fun x hx => by have := h2 x hx; rw [← e] at this; exact this
theorem rowsP_two (b c : List Int) (d : List (List Int)) : rowsP (b :: c :: d) = ixP b (d.length + 1) := rfl
theorem rowsP_congr {d d' : List (List Int)} (hl : d'.length = d.length) (h : 2 ≤ d.length) (h0 : d'.head? = d.head?) : rowsP d' = rowsP d := by
  match d, d', hl, h, h0 with
  | b :: c :: d, b' :: c' :: d', hl, _, h0 =>
    obtain rfl : b' = b := by simpa using h0
    rw [rowsP_two, rowsP_two]
    simp at hl
    rw [hl]
  | [], _, _, h, _ => simp at h
  | [_], _, _, h, _ => simp at h
  | _ :: _ :: _, [], hl, _, _ => simp at hl
  | _ :: _ :: _, [_], hl, _, _ => simp at hl
theorem blk_at {d : List (List Int)} {i : Int} (h0 : 0 ≤ i) (x : List Int) (hi : i < d.length) : blk (d.set i.toNat x) i = x := by
  unfold blk
  rw [List.getD_eq_getElem?_getD, List.getElem?_set_self (by omega)]
  rfl
theorem blk_off {d : List (List Int)} {i j : Int} (h0 : 0 ≤ i) (h1 : 0 ≤ j) (hij : j ≠ i) (x : List Int) : blk (d.set i.toNat x) j = blk d j := by
  unfold blk
  rw [List.getD_eq_getElem?_getD, List.getD_eq_getElem?_getD, List.getElem?_set_ne (by omega)]
theorem nodup_mid {A : List R} {r : R} {B : List R} (h : ((A ++ r :: B).map (·.f1)).Nodup) : (∀ q ∈ A, q.f1 ≠ r.f1) ∧ ∀ q ∈ B, q.f1 ≠ r.f1 := by
  rw [List.map_append, List.map_cons] at h
  have h1 := List.pairwise_append.1 h
  have h2 := List.pairwise_cons.1 h1.2.1
  exact ⟨fun q hq => h1.2.2 _ (List.mem_map_of_mem hq) _ List.mem_cons_self, fun q hq => (h2.1 _ (List.mem_map_of_mem hq)).symm⟩
theorem readP_of {d : List (List Int)} {rs : List R} {ls : List (List E)} (h1 : rowsP d = some rs) (h2 : leavesP d rs = some ls) : readP d = some (rs, ls) := by
  unfold readP
  rw [h1, Option.bind_some, h2]
  rfl
theorem readP_set {d : List (List Int)} (hd : bytesD d) {A : List R} {r : R} {B : List R} {LA : List (List E)} {l l2 : List E} {LB : List (List E)} (h : readP d = some (A ++ r :: B, LA ++ l :: LB)) (hl : LA.length = A.length)
    (h2 : (encR l2).2 = 0) (h3 : ∀ x ∈ l2, inRow r (B.head?.map (·.f0)) x = true) : readP (d.set r.f1.toNat (encR l2).1) = some (A ++ r :: B, LA ++ l2 :: LB) := by
  obtain ⟨hr, hlv⟩ := readP_some h
  have hok := rowsP_ok hd hr
  have hbk := hok.blk r (by simp)
  obtain ⟨hnA, hnB⟩ := nodup_mid hok.nodup
  obtain ⟨-, -, g3, g4⟩ := leaves_parts hlv hl
  refine readP_of ?_ (g4 _ _ _ (fun q hq => blk_off hbk.1 (hok.blk q (by simp [hq])).1 (hnA q hq) _) rfl (leaves_cons (by rw [blk_at hbk.1 _ hbk.2]; exact dec_enc h2) h3 (by rw [leaves_same (fun q hq => blk_off hbk.1 (hok.blk q (by simp [hq])).1 (hnB q hq) _)]; exact g3)))
  rcases Nat.lt_or_ge 1 d.length with h1 | h1
  · have hm := (hok.more h1).2 r (by simp)
    rw [rowsP_congr (by simp) h1 ?_, hr]
    cases d with
    | nil => rfl
    | cons b d =>
      obtain ⟨m, hm2⟩ : ∃ m, r.f1.toNat = m + 1 := ⟨r.f1.toNat - 1, by omega⟩
      rw [hm2]
      rfl
  · have hz : r.f1.toNat = 0 := by omega
    match d, hr, h1 with
    | [b], hr, _ =>
      rw [hz]
      exact hr
    | [], hr, _ => cases hr
    | _ :: _ :: _, _, h1 => simp at h1
theorem bytesD_set {d : List (List Int)} (hd : bytesD d) (i : Nat) {x : List Int} (hx : ∀ y ∈ x, isByte y) : bytesD (d.set i x) := fun b hb => by
  rcases List.mem_or_eq_of_mem_set hb with h | rfl
  · exact hd b h
  · exact hx
end Go.Proofs.Yteglhbfhibfodaa.Ht
end
section
namespace Go.Proofs.Yteglhbfhibfodaa.Ht
open Go.RowKit Go.Proofs.YteglhbfhibfodaaW.PrintWords Go.Proofs.YteglhbfhibfodaaW.PrintMore Go.Proofs.Yteglhbfhibfodaa.Pr Go.Proofs.Yteglhbfhibfodaa.Od Go.Proofs.Yteglhbfhibfodaa.Cr Go.Proofs.Yteglhbfhibfodaa.Lf
set_option linter.unusedVariables false
set_option linter.unusedSimpArgs false
theorem num4_mid {P Q : List Int} {v : Nat} (hv : v < 4294967296) : num4 (P ++ (bytesN 4 v ++ Q)) P.length = (v : Int) := by
  unfold num4
  have h : ((P ++ (bytesN 4 v ++ Q)).take (P.length + 4)).drop P.length = bytesN 4 v := by
    rw [List.take_length_add_append, List.drop_left, List.take_append_of_le_length (by rw [bytesN_len]; omega), List.take_of_length_le (by rw [bytesN_len]; omega)]
  rw [h, numN_bytesN _ _ hv]
theorem flatRow_len (rs : List R) : (rs.flatMap oneRow).length = 8 * rs.length := by
  induction rs with
  | nil => rfl
  | cons r rs ih => rw [List.flatMap_cons, List.length_append, ih, List.length_cons]; simp [oneRow, bytesN_len]; omega
theorem rowAt_ix {rs : List R} {i : Nat} (hi : i < rs.length) (hr : ∀ r ∈ rs, (0 ≤ r.f0 ∧ r.f0 < 4294967296) ∧ 0 ≤ r.f1 ∧ r.f1 < 4294967296) : rowAt (ixB rs) i = rs[i] := by
  have hri := hr _ (List.getElem_mem hi)
  obtain ⟨Q, hQ⟩ : ∃ Q, ixB rs = (bytesN 2 rs.length ++ bytesN 2 65535 ++ (rs.take i).flatMap oneRow) ++ (bytesN 4 rs[i].f0.toNat ++ (bytesN 4 rs[i].f1.toNat ++ Q)) := by
    have hf : rs.flatMap oneRow = (rs.take i).flatMap oneRow ++ (oneRow rs[i] ++ (rs.drop (i + 1)).flatMap oneRow) := by
      conv => lhs; rw [← List.take_append_drop i rs, List.flatMap_append, List.drop_eq_getElem_cons hi, List.flatMap_cons]
    obtain ⟨Z, hZ⟩ : ∃ Z, List.replicate (252 - (ixBody rs).length) (0 : Int) = Z := ⟨_, rfl⟩
    obtain ⟨T, hT⟩ : ∃ T, bytesN 4 (sumB (ixPad rs)).toNat = T := ⟨_, rfl⟩
    refine ⟨(rs.drop (i + 1)).flatMap oneRow ++ (Z ++ T), ?_⟩
    unfold ixB
    rw [hT]
    unfold ixPad
    rw [hZ, show ixBody rs = bytesN 2 rs.length ++ bytesN 2 65535 ++ rs.flatMap oneRow from rfl, hf]
    rw [show oneRow rs[i] = bytesN 4 rs[i].f0.toNat ++ bytesN 4 rs[i].f1.toNat from rfl]
    simp only [List.append_assoc]
  have hl : (bytesN 2 rs.length ++ bytesN 2 65535 ++ (rs.take i).flatMap oneRow).length = 4 + 8 * i := by
    rw [List.length_append, List.length_append, bytesN_len, bytesN_len, flatRow_len, List.length_take]; omega
  have h0 : num4 (ixB rs) (4 + 8 * i) = rs[i].f0 := by
    have h := num4_mid (P := bytesN 2 rs.length ++ bytesN 2 65535 ++ (rs.take i).flatMap oneRow) (Q := bytesN 4 rs[i].f1.toNat ++ Q) (v := rs[i].f0.toNat) (by omega)
    rw [← hQ, hl] at h
    rw [h]; omega
  have h1 : num4 (ixB rs) (8 + 8 * i) = rs[i].f1 := by
    have h := num4_mid (P := bytesN 2 rs.length ++ bytesN 2 65535 ++ (rs.take i).flatMap oneRow ++ bytesN 4 rs[i].f0.toNat) (Q := Q) (v := rs[i].f1.toNat) (by omega)
    rw [List.append_assoc _ (bytesN 4 rs[i].f0.toNat), ← hQ, List.length_append, hl, bytesN_len] at h
    rw [show 8 + 8 * i = 4 + 8 * i + 4 by omega, h]; omega
  unfold rowAt
  rw [h0, h1]
theorem rowsOf_ix {rs : List R} (hr : ∀ r ∈ rs, (0 ≤ r.f0 ∧ r.f0 < 4294967296) ∧ 0 ≤ r.f1 ∧ r.f1 < 4294967296) : rowsOf (ixB rs) rs.length = rs :=
  List.ext_getElem (rowsOf_len _ _) (fun i h1 h2 => by rw [rowsOf_get, rowAt_ix h2 hr])
theorem ixP_self {rs : List R} (h2 : 2 ≤ rs.length) (h3 : rs.length ≤ 30) (hf : ∀ r ∈ rs, 0 ≤ r.f0 ∧ r.f0 < 4294967296) (hb : ∀ r ∈ rs, 1 ≤ r.f1 ∧ r.f1 ≤ rs.length) (hu : rs.Pairwise (fun a b => a.f0 < b.f0)) (hz : (rs[0]'(by omega)).f0 = 0) (hn : (rs.map (·.f1)).Nodup) : ixP (ixB rs) rs.length = some rs := by
  have hr : ∀ r ∈ rs, (0 ≤ r.f0 ∧ r.f0 < 4294967296) ∧ 0 ≤ r.f1 ∧ r.f1 < 4294967296 := fun r h => ⟨hf r h, by have := hb r h; omega⟩
  unfold ixP
  rw [rowsOf_ix hr, if_pos ⟨ixB_len (by omega), h2, h3, rowsUp_of _ _ _ hb (fun s hs => by cases hs) hu, by rw [rowAt_ix (by omega) hr]; exact hz, hn, rfl⟩]
theorem row_of {r : R} {B : List R} {x : E} (h1 : r.f0 ≤ sumN x.f0) (h2 : ∀ q ∈ B, sumN x.f0 < q.f0) : inRow r (B.head?.map (·.f0)) x = true := by
  unfold inRow
  cases B with
  | nil => simp [h1]
  | cons q B => simp [h1]; exact h2 q List.mem_cons_self
theorem row_low {r : R} {nx : Option Int} {x : E} (h : inRow r nx x = true) : r.f0 ≤ sumN x.f0 := by
  unfold inRow at h
  simp only [Bool.and_eq_true, decide_eq_true_eq] at h
  exact h.1
theorem nb_ne {l : List E} (h : right none l = true) : l.Pairwise (fun a b => nb a ≠ nb b) := (right_iff.1 h).2.imp (fun h => less_ne h)
theorem here_iff {l : List E} (nm : ByteArray) : thereP l nm = true ↔ ∃ y ∈ l, y.f0 = nm := by
  unfold thereP
  rw [List.any_eq_true]
  exact ⟨fun ⟨y, h, e⟩ => ⟨y, h, of_decide_eq_true e⟩, fun ⟨y, h, e⟩ => ⟨y, h, decide_eq_true e⟩⟩
theorem here_at {l : List E} (h : right none l = true) {nm : ByteArray} (ht : thereP l nm = true) : ∃ hp : posP l nm < l.length, (l[posP l nm]'hp).f0 = nm := (there_at (right_iff.1 h).2 nm).1 ht
theorem more_perm (l : List E) (p : Nat) (x : E) : (l.take p ++ x :: l.drop p).Perm (x :: l) := by
  have h := List.perm_middle (a := x) (l₁ := l.take p) (l₂ := l.drop p)
  rwa [List.take_append_drop] at h
theorem more_right {l : List E} (h : right none l = true) {x : E} (hx : okE x = true) (hn : ¬ thereP l x.f0 = true) : right none (l.take (posP l x.f0) ++ x :: l.drop (posP l x.f0)) = true := by
  obtain ⟨h1, h2⟩ := right_iff.1 h
  refine right_iff.2 ⟨fun e he => ?_, ?_⟩
  · rcases List.mem_cons.1 ((more_perm l _ x).mem_iff.1 he) with rfl | he
    · exact hx
    · exact h1 e he
  · have hsp := List.take_append_drop (posP l x.f0) l
    rw [← hsp] at h2
    obtain ⟨g1, g2, g3⟩ := List.pairwise_append.1 h2
    have hlo : ∀ a ∈ l.take (posP l x.f0), less (nb a) (nb x) = true := fun a ha => by
      obtain ⟨i, hi, rfl⟩ := List.getElem_of_mem ha
      rw [List.length_take] at hi
      rw [List.getElem_take]
      exact pos_low x.f0 i (by omega) (by omega)
    have hhi : ∀ b ∈ l.drop (posP l x.f0), less (nb x) (nb b) = true := fun b hb => by
      have hbl := List.mem_of_mem_drop hb
      obtain ⟨i, hi, rfl⟩ := List.getElem_of_mem hb
      rw [List.length_drop] at hi
      rw [List.getElem_drop] at hbl ⊢
      have h5 := pos_high (right_iff.1 h).2 x.f0 (posP l x.f0 + i) (by omega) (by omega)
      rcases less_tri (nb x) (nb l[posP l x.f0 + i]) with h6 | h6 | h6
      · exact h6
      · exact absurd ((here_iff x.f0).2 ⟨_, hbl, (str_ext h6).symm⟩) hn
      · rw [show less (nb l[posP l x.f0 + i]) (nb x) = less (nb l[posP l x.f0 + i]) x.f0.data.toList from rfl, h5] at h6; cases h6
    refine List.pairwise_append.2 ⟨g1, List.pairwise_cons.2 ⟨hhi, g2⟩, fun a ha b hb => ?_⟩
    rcases List.mem_cons.1 hb with rfl | hb
    · exact hlo a ha
    · exact g3 a ha b hb
theorem enc_code {l : List E} (h : right none l = true) : (encR l).2 = 0 ∨ encR l = ([], 9) := by
  by_cases hs : sumL l ≤ 248
  · exact .inl (encR_iff.2 ⟨h, hs⟩)
  · right
    unfold encR
    rw [if_pos h, if_pos (by omega)]
theorem sumL_sub {a b : List E} (h : a.Sublist b) : sumL a ≤ sumL b := by
  induction h with
  | slnil => exact Nat.le_refl _
  | cons x _ ih => simp only [sumL]; omega
  | cons_cons x _ ih => simp only [sumL]; omega
theorem right_sub {a b : List E} (h : right none b = true) (hs : a.Sublist b) : right none a = true :=
  right_iff.2 ⟨fun e he => (right_iff.1 h).1 e (hs.subset he), (right_iff.1 h).2.sublist hs⟩
theorem less_eq {l : List E} (h : right none l = true) {nm : ByteArray} (ht : thereP l nm = true) : l.take (posP l nm) ++ l.drop (posP l nm + 1) = l.filter (fun y => decide (y.f0 ≠ nm)) := by
  obtain ⟨hp, he⟩ := here_at h ht
  have hd := nb_ne h
  have hsp : l = l.take (posP l nm) ++ l[posP l nm] :: l.drop (posP l nm + 1) := by rw [← List.drop_eq_getElem_cons hp, List.take_append_drop]
  revert hsp
  generalize l.take (posP l nm) = X
  generalize l.drop (posP l nm + 1) = Y
  intro hsp
  have hz : ∃ z, l[posP l nm] = z := ⟨_, rfl⟩
  obtain ⟨z, hz⟩ := hz
  rw [hz] at hsp he
  rw [hsp] at hd ⊢
  obtain ⟨g1, g2, g3⟩ := List.pairwise_append.1 hd
  have g4 := (List.pairwise_cons.1 g2).1
  rw [List.filter_append, List.filter_cons_of_neg (by simp [he]), List.filter_eq_self.2 (fun a ha => ?_), List.filter_eq_self.2 (fun a ha => ?_)]
  · exact decide_eq_true (fun e => g4 a ha (by rw [nb, nb, e, he]))
  · exact decide_eq_true (fun e => g3 a ha z List.mem_cons_self (by rw [nb, nb, e, he]))
theorem set_eq {l : List E} (h : right none l = true) {x : E} (ht : thereP l x.f0 = true) : l.set (posP l x.f0) x = l.map (fun y => if y.f0 = x.f0 then x else y) := by
  obtain ⟨hp, he⟩ := here_at h ht
  have hd := nb_ne h
  refine List.ext_getElem (by simp) (fun i h1 h2 => ?_)
  rw [List.getElem_set, List.getElem_map]
  have hi : i < l.length := by simpa using h2
  by_cases hip : posP l x.f0 = i
  · rw [if_pos hip]
    subst hip
    rw [if_pos he]
  · rw [if_neg hip, if_neg (fun e => ?_)]
    rcases Nat.lt_or_ge i (posP l x.f0) with h3 | h3
    · exact List.pairwise_iff_getElem.1 hd i _ hi hp h3 (by rw [nb, nb, e, he])
    · exact List.pairwise_iff_getElem.1 hd _ i hp hi (by omega) (by rw [nb, nb, e, he])
theorem there_iff {A : List R} {r : R} {B : List R} {LA : List (List E)} {l : List E} {LB : List (List E)} (hl : LA.length = A.length) (hR : Right sK ltE (dirOf (A ++ r :: B) (LA ++ l :: LB))) {nm : ByteArray} (h1 : r.f0 ≤ sumN nm) (h2 : ∀ q ∈ B, sumN nm < q.f0) :
    thereP l nm = true ↔ ∃ y ∈ ents ltE (dirOf (A ++ r :: B) (LA ++ l :: LB)), y.f0 = nm := by
  rw [dirOf_append hl] at hR ⊢
  rw [here_iff]
  constructor
  · rintro ⟨y, hy, e⟩
    exact ⟨y, mem_ents.2 ⟨(r.f0, l), by simp [dirOf], hy⟩, e⟩
  · rintro ⟨y, hy, rfl⟩
    refine ⟨y, ?_, rfl⟩
    exact like_row byS hR (x := y) h1 (fun q hq => by obtain ⟨⟨r', h3, h4⟩, _⟩ := dirOf_mem hq; rw [h4]; exact h2 r' h3) hy (ltE_irrefl y) (ltE_irrefl y)
theorem upP_at (l : List E) : ∀ (n c k : Nat), upP l c n = some k → c ≤ k ∧ k < c + n ∧ unlike l k = true
  | 0, c, k, h => by cases h
  | n + 1, c, k, h => by
    unfold upP at h
    split at h
    · next hu => obtain rfl := Option.some.inj h; exact ⟨Nat.le_refl _, by omega, hu⟩
    · have := upP_at l n (c + 1) k h; exact ⟨by omega, by omega, this.2.2⟩
theorem downP_at (l : List E) : ∀ n, downP l n ≤ n ∧ (downP l n = 0 ∨ unlike l (downP l n) = true)
  | 0 => ⟨Nat.le_refl _, .inl rfl⟩
  | n + 1 => by
    unfold downP
    split
    · next hu => exact ⟨Nat.le_refl _, .inr hu⟩
    · have := downP_at l n; exact ⟨by omega, this.2⟩
theorem cutP_at {l : List E} (h : cutP l ≠ 0) : cutP l < l.length ∧ unlike l (cutP l) = true := by
  unfold cutP at h ⊢
  cases e : upP l ((l.length + 1) / 2) (l.length - (l.length + 1) / 2) with
  | none =>
    rw [e] at h
    have h1 := downP_at l ((l.length + 1) / 2 - 1)
    have h : downP l ((l.length + 1) / 2 - 1) ≠ 0 := h
    show downP l _ < _ ∧ unlike l (downP l _) = true
    refine ⟨by omega, by rcases h1.2 with h2 | h2; exact absurd h2 h; exact h2⟩
  | some k =>
    have := upP_at l _ _ _ e
    show k < _ ∧ unlike l k = true
    exact ⟨by omega, this.2.2⟩
theorem ltE_le {a b : E} (h : ltE a b = true) : sumN a.f0 ≤ sumN b.f0 := by
  simp only [ltE, Bool.or_eq_true, Bool.and_eq_true, decide_eq_true_eq] at h
  omega
theorem cut_bounds {s : List E} (hs : Rises ltE s) (h : cutP s ≠ 0) : (∀ x ∈ s.take (cutP s), sumN x.f0 < sumN (s.getD (cutP s) ⟨⟨#[]⟩, 0⟩).f0) ∧ (∀ x ∈ s.drop (cutP s), sumN (s.getD (cutP s) ⟨⟨#[]⟩, 0⟩).f0 ≤ sumN x.f0) ∧ ∃ hc : cutP s < s.length, s.getD (cutP s) ⟨⟨#[]⟩, 0⟩ = s[cutP s]'hc := by
  obtain ⟨h1, h2⟩ := cutP_at h
  revert h h1 h2
  generalize cutP s = c
  intro h h1 h2
  unfold unlike at h2
  have h2 := of_decide_eq_true h2
  rw [getD_at h1, getD_at (show c - 1 < s.length by omega)] at h2
  rw [getD_at h1]
  have hp := List.pairwise_iff_getElem.1 hs
  have h3 := ltE_le (hp (c - 1) c (by omega) h1 (by omega))
  refine ⟨fun x hx => ?_, fun x hx => ?_, h1, rfl⟩
  · obtain ⟨i, hi, rfl⟩ := List.getElem_of_mem hx
    rw [List.length_take] at hi
    rw [List.getElem_take]
    rcases Nat.lt_or_ge i (c - 1) with h4 | h4
    · have := ltE_le (hp i (c - 1) (by omega) (by omega) h4); omega
    · obtain rfl : i = c - 1 := by omega
      omega
  · obtain ⟨i, hi, rfl⟩ := List.getElem_of_mem hx
    rw [List.length_drop] at hi
    rw [List.getElem_drop]
    rcases Nat.eq_zero_or_pos i with rfl | h4
    · simp
    · exact ltE_le (hp c (c + i) h1 (by omega) (by omega))
theorem part_right {l p : List E} (h : right none l = true) (hp : p.Sublist (isort ltE l)) : right none (isort ltN p) = true := by
  have hpm := isort_perm ltE l
  have hne : (isort ltE l).Pairwise (fun a b => nb a ≠ nb b) := List.Pairwise.perm (nb_ne h) hpm.symm (fun h => h.symm)
  have hpn := hne.sublist hp
  refine right_iff.2 ⟨fun e he => (right_iff.1 h).1 e (hpm.mem_iff.1 (hp.subset ((isort_perm ltN p).mem_iff.1 he))), ?_⟩
  exact isort_rises ltN_trans (hpn.imp (fun h => ltN_or h))
end Go.Proofs.Yteglhbfhibfodaa.Ht
end
section
namespace Go.Proofs.Yteglhbfhibfodaa.Ht
open Go.RowKit Go.Proofs.YteglhbfhibfodaaW.PrintWords Go.Proofs.YteglhbfhibfodaaW.PrintMore Go.Proofs.Yteglhbfhibfodaa.Pr Go.Proofs.Yteglhbfhibfodaa.Od Go.Proofs.Yteglhbfhibfodaa.Cr Go.Proofs.Yteglhbfhibfodaa.Lf
set_option linter.unusedVariables false
set_option linter.unusedSimpArgs false
structure Dir (d : List (List Int)) : Prop where
  byte : bytesD d
  read : ∃ rs ls, readP d = some (rs, ls)
theorem ltE_cong {a a' b b' : E} (h : a.f0 = a'.f0) (h' : b.f0 = b'.f0) : ltE a b = ltE a' b' := by unfold ltE nb; rw [h, h']
theorem ltE_name {a b : E} (h : a.f0 = b.f0) : ltE a b = false := (ltE_cong h rfl).trans (ltE_irrefl b)
theorem one_name {L : List E} (h : Rises ltE L) {y z : E} (hy : y ∈ L) (hz : z ∈ L) (e : y.f0 = z.f0) : y = z := by
  obtain ⟨i, hi, rfl⟩ := List.getElem_of_mem hy
  obtain ⟨j, hj, rfl⟩ := List.getElem_of_mem hz
  have hp := List.pairwise_iff_getElem.1 h
  rcases Nat.lt_trichotomy i j with h1 | h1 | h1
  · have := hp i j hi hj h1; rw [ltE_name e] at this; cases this
  · subst h1; rfl
  · have := hp j i hj hi h1; rw [ltE_name e.symm] at this; cases this
structure Open (d : List (List Int)) (nm : ByteArray) (A : List R) (r : R) (B : List R) (LA : List (List E)) (l : List E) (LB : List (List E)) : Prop where
  read : readP d = some (A ++ r :: B, LA ++ l :: LB)
  at_ : atP (A ++ r :: B) (sumN nm) = A.length
  len : LA.length = A.length
  low : r.f0 ≤ sumN nm
  high : ∀ q ∈ B, sumN nm < q.f0
  ok : RowsOk d.length (A ++ r :: B)
  lok : LeavesOk (A ++ r :: B) (LA ++ l :: LB)
  there : thereP l nm = true ↔ ∃ y ∈ entsD d, y.f0 = nm
  right : right none l = true
  sum : sumL l ≤ 248
  row : ∀ x ∈ l, inRow r (B.head?.map (·.f0)) x = true
  dir : Right sK ltE (dirOf A LA ++ (r.f0, l) :: dirOf B LB)
  ents : entsD d = ents ltE (dirOf A LA ++ (r.f0, l) :: dirOf B LB)
theorem opened {d : List (List Int)} (hd : Dir d) (nm : ByteArray) : ∃ A r B LA l LB, Open d nm A r B LA l LB := by
  obtain ⟨rs, ls, h⟩ := hd.read
  obtain ⟨h1, h2⟩ := readP_ok hd.byte h
  obtain ⟨A, r, B, LA, l, LB, rfl, rfl, e3, e4, e5, e6⟩ := open_split h1 h2.len nm
  have hR := readP_right hd.byte h
  have hl := h2.leaf l (by simp)
  have he := entsD_eq h
  have e7 : dirOf (A ++ r :: B) (LA ++ l :: LB) = dirOf A LA ++ (r.f0, l) :: dirOf B LB := dirOf_append e4
  exact ⟨A, r, B, LA, l, LB, h, e3, e4, e5, e6, h1, h2, by rw [he]; exact there_iff e4 hR e5 e6, hl.1, hl.2, (leaves_parts (readP_some h).2 e4).2.1, e7 ▸ hR, by rw [he, e7]⟩
theorem Open.rows {d nm A r B LA l LB} (h : Open d nm A r B LA l LB) : ∀ q ∈ dirOf B LB, sumN nm < q.1 := fun q hq => by
  obtain ⟨⟨r', h3, h4⟩, _⟩ := dirOf_mem hq
  rw [h4]; exact h.high r' h3
theorem Open.ahead {d nm A r B LA l LB} (h : Open d nm A r B LA l LB) : ∀ y ∈ Ht.ents ltE (dirOf A LA), y.f0 ≠ nm := fun y hy e => by
  have := ents_ahead byS h.dir (x := ⟨nm, 0⟩) h.low y hy
  rw [ltE_name (b := ⟨nm, 0⟩) e] at this; cases this
theorem Open.behind {d nm A r B LA l LB} (h : Open d nm A r B LA l LB) : ∀ y ∈ Ht.ents ltE (dirOf B LB), y.f0 ≠ nm := fun y hy e => by
  have := ents_behind byS h.dir (x := ⟨nm, 0⟩) h.rows y hy
  rw [ltE_name (a := ⟨nm, 0⟩) (b := y) e.symm] at this; cases this
theorem Open.turn {d nm A r B LA l LB} (hd : Dir d) (h : Open d nm A r B LA l LB) {l2 : List E} (h2 : (encR l2).2 = 0) (h3 : ∀ x ∈ l2, inRow r (B.head?.map (·.f0)) x = true) : withP d r.f1 l2 = (d.set r.f1.toNat (encR l2).1, 0) ∧ Dir (d.set r.f1.toNat (encR l2).1) ∧ entsD (d.set r.f1.toNat (encR l2).1) = Ht.ents ltE (dirOf A LA ++ (r.f0, l2) :: dirOf B LB) := by
  have hrd := readP_set hd.byte h.read h.len h2 h3
  refine ⟨by unfold withP; rw [if_pos h2], ⟨bytesD_set hd.byte _ (encR_byte l2), _, _, hrd⟩, ?_⟩
  rw [entsD_eq hrd]
  exact congrArg _ (dirOf_append h.len)
theorem row_high {n : Nat} {A : List R} {r : R} {B : List R} (hok : RowsOk n (A ++ r :: B)) {x : E} (h : inRow r (B.head?.map (·.f0)) x = true) : ∀ q ∈ B, sumN x.f0 < q.f0 := by
  intro q hq
  have hup := (List.pairwise_append.1 hok.up).2.1
  cases B with
  | nil => cases hq
  | cons q1 B =>
    have h : (decide (r.f0 ≤ sumN x.f0) && decide (sumN x.f0 < q1.f0)) = true := h
    simp only [Bool.and_eq_true, decide_eq_true_eq] at h
    rcases List.mem_cons.1 hq with rfl | hq
    · exact h.2
    · have := (List.pairwise_cons.1 (List.pairwise_cons.1 hup).2).1 q hq; omega
def newD : List (List Int) := [(encR ([] : List E)).1]
theorem enc_nil : (encR ([] : List E)).2 = 0 := encR_iff.2 ⟨rfl, by decide⟩
theorem read_new : readP newD = some ([⟨0, 0⟩], [[]]) :=
  readP_of rfl (leaves_cons (dec_enc enc_nil) (fun _ h => by cases h) rfl)
theorem dir_new : Dir newD := ⟨fun b hb => by rw [List.mem_singleton.1 hb]; exact encR_byte _, _, _, read_new⟩
theorem ents_new : entsD newD = [] := by rw [entsD_eq read_new]; rfl
theorem add_new {x : E} (hx : mayX x = true) : ∃ d', addP newD x = (d', 0) := by
  have h1 : (encR [x]).2 = 0 := encR_iff.2 ⟨by unfold Lf.right Lf.right; rw [show okE x = true from hx]; rfl, by have := okE_size hx; simp only [sumL]; omega⟩
  refine ⟨newD.set 0 (encR [x]).1, ?_⟩
  unfold addP
  rw [read_new]
  dsimp only
  have ha : atP [⟨0, 0⟩] (sumN x.f0) = 0 := by
    have := atP_lt (rowsP_ok dir_new.byte (readP_some read_new).1) (sumN x.f0)
    simp at this; exact this
  rw [if_neg (by rw [hx]; decide), ha]
  simp only [List.getD_cons_zero]
  have ht : thereP [] x.f0 = false := rfl
  rw [ht]
  have hw : withP newD 0 ([].take (posP [] x.f0) ++ x :: [].drop (posP [] x.f0)) = (newD.set 0 (encR [x]).1, 0) := by
    have : ([].take (posP [] x.f0) ++ x :: ([] : List E).drop (posP [] x.f0)) = [x] := by simp
    rw [this]
    unfold withP
    rw [if_pos h1]
    rfl
  rw [hw]
  rfl
theorem find_law {d : List (List Int)} (hd : Dir d) (nm : ByteArray) : findP d nm = if mayB nm = false then (0, 1) else match (entsD d).find? (fun y => decide (y.f0 = nm)) with | none => ((0, 3) : Int × Int) | some y => (y.f1, 0) := by
  obtain ⟨A, r, B, LA, l, LB, h⟩ := opened hd nm
  unfold findP
  rw [h.read]
  dsimp only
  by_cases hm : mayB nm = false
  · rw [if_pos hm, if_pos hm]
  · rw [if_neg hm, if_neg hm]
    have hl : leafAt (A ++ r :: B) (LA ++ l :: LB) nm = l := by unfold leafAt; rw [h.at_, ← h.len, getD_mid]
    rw [hl]
    by_cases ht : thereP l nm = true
    · obtain ⟨hp, he⟩ := here_at h.right ht
      rw [if_neg (by rw [ht]; decide), getD_at hp]
      obtain ⟨z, hz, hzn⟩ := h.there.1 ht
      cases hf : (entsD d).find? (fun y => decide (y.f0 = nm)) with
      | none =>
        have := List.find?_eq_none.1 hf z hz
        exact absurd (decide_eq_true hzn) this
      | some y =>
        have hy1 := List.mem_of_find?_eq_some hf
        have hy2 : y.f0 = nm := of_decide_eq_true (List.find?_some (p := fun y : E => decide (y.f0 = nm)) hf)
        have hm1 : l[posP l nm] ∈ entsD d := by
          rw [h.ents]
          exact mem_ents.2 ⟨(r.f0, l), by simp, List.getElem_mem hp⟩
        have := one_name (entsD_rises hd.byte) hm1 hy1 (by rw [he, hy2])
        rw [this]
    · rw [if_pos (by simpa using ht)]
      rw [List.find?_eq_none.2 (fun y hy => ?_)]
      simp only [decide_eq_true_eq]
      exact fun e => ht (h.there.2 ⟨y, hy, e⟩)
theorem remove_law {d : List (List Int)} (hd : Dir d) (nm : ByteArray) : (mayB nm = false → removeP d nm = ([], 1)) ∧ (mayB nm = true → (¬ ∃ y ∈ entsD d, y.f0 = nm) → removeP d nm = ([], 3)) ∧
    (mayB nm = true → (∃ y ∈ entsD d, y.f0 = nm) → ∃ d', removeP d nm = (d', 0) ∧ Dir d' ∧ entsD d' = (entsD d).filter (fun y => decide (y.f0 ≠ nm))) := by
  obtain ⟨A, r, B, LA, l, LB, h⟩ := opened hd nm
  unfold removeP
  rw [h.read]
  dsimp only
  rw [h.at_, getD_mid, ← h.len, getD_mid]
  refine ⟨fun hm => by rw [if_pos hm], fun hm hn => ?_, fun hm hn => ?_⟩
  · rw [if_neg (by rw [hm]; decide), if_pos (by cases e : thereP l nm with | false => rfl | true => exact absurd (h.there.1 e) hn)]
  · have ht := h.there.2 hn
    rw [if_neg (by rw [hm]; decide), if_neg (by rw [ht]; decide), less_eq h.right ht]
    have h2 : (encR (l.filter (fun y => decide (y.f0 ≠ nm)))).2 = 0 := encR_iff.2 ⟨right_sub h.right List.filter_sublist, Nat.le_trans (sumL_sub List.filter_sublist) h.sum⟩
    obtain ⟨g1, g2, g3⟩ := h.turn hd h2 (fun x hx => h.row x (List.mem_filter.1 hx).1)
    refine ⟨_, g1, g2, ?_⟩
    rw [g3, h.ents]
    exact ents_filter byS h.dir _ (fun y hy => decide_eq_true (h.ahead y hy)) (fun y hy => decide_eq_true (h.behind y hy))
def turnE (x : E) (y : E) : E := if y.f0 = x.f0 then x else y
theorem turnE_name (x y : E) : (turnE x y).f0 = y.f0 := by
  unfold turnE
  split
  · next h => exact h.symm
  · rfl
theorem set_right {l : List E} (h : right none l = true) {x : E} (hx : okE x = true) : right none (l.map (turnE x)) = true := by
  obtain ⟨h1, h2⟩ := right_iff.1 h
  refine right_iff.2 ⟨fun e he => ?_, List.pairwise_map.2 (h2.imp (fun {a b} h => by unfold nb; rw [turnE_name, turnE_name]; exact h))⟩
  obtain ⟨y, hy, rfl⟩ := List.mem_map.1 he
  unfold turnE
  split
  · exact hx
  · exact h1 y hy
theorem sumL_map (x : E) (l : List E) : sumL (l.map (turnE x)) = sumL l := by
  induction l with
  | nil => rfl
  | cons y l ih => simp only [List.map_cons, sumL, ih, turnE_name]
theorem set_law {d : List (List Int)} (hd : Dir d) (x : E) : (mayX x = false → setP d x = ([], 1)) ∧ (mayX x = true → (¬ ∃ y ∈ entsD d, y.f0 = x.f0) → setP d x = ([], 3)) ∧
    (mayX x = true → (∃ y ∈ entsD d, y.f0 = x.f0) → ∃ d', setP d x = (d', 0) ∧ Dir d' ∧ entsD d' = (entsD d).map (turnE x)) := by
  obtain ⟨A, r, B, LA, l, LB, h⟩ := opened hd x.f0
  unfold setP
  rw [h.read]
  dsimp only
  rw [h.at_, getD_mid, ← h.len, getD_mid]
  refine ⟨fun hm => by rw [if_pos hm], fun hm hn => ?_, fun hm hn => ?_⟩
  · rw [if_neg (by rw [hm]; decide), if_pos (by cases e : thereP l x.f0 with | false => rfl | true => exact absurd (h.there.1 e) hn)]
  · have ht := h.there.2 hn
    rw [if_neg (by rw [hm]; decide), if_neg (by rw [ht]; decide), set_eq h.right ht]
    change ∃ d', withP d r.f1 (l.map (turnE x)) = (d', 0) ∧ _
    have h2 : (encR (l.map (turnE x))).2 = 0 := encR_iff.2 ⟨set_right h.right hm, by rw [sumL_map]; exact h.sum⟩
    obtain ⟨g1, g2, g3⟩ := h.turn hd h2 (fun z hz => by
      obtain ⟨y, hy, rfl⟩ := List.mem_map.1 hz
      have := h.row y hy
      unfold inRow at this ⊢
      rw [turnE_name]
      exact this)
    refine ⟨_, g1, g2, ?_⟩
    rw [g3, h.ents]
    have hid : ∀ y : E, y.f0 ≠ x.f0 → turnE x y = y := fun y hy => by unfold turnE; rw [if_neg hy]
    exact ents_map byS h.dir _ (fun a b => ltE_cong (turnE_name x a) (turnE_name x b)) (fun y hy => hid y (h.ahead y hy)) (fun y hy => hid y (h.behind y hy))
end Go.Proofs.Yteglhbfhibfodaa.Ht
end
section
namespace Go.Proofs.Yteglhbfhibfodaa.Ht
open Go.RowKit Go.Proofs.YteglhbfhibfodaaW.PrintWords Go.Proofs.YteglhbfhibfodaaW.PrintMore Go.Proofs.Yteglhbfhibfodaa.Pr Go.Proofs.Yteglhbfhibfodaa.Od Go.Proofs.Yteglhbfhibfodaa.Cr Go.Proofs.Yteglhbfhibfodaa.Lf
set_option linter.unusedVariables false
set_option linter.unusedSimpArgs false
theorem isort_part {l p : List E} (h : right none l = true) (hp : p.Sublist (isort ltE l)) : isort ltE (isort ltN p) = p := by
  have hr : Rises ltE p := List.Pairwise.sublist hp (isort_rises ltE_trans (leaf_apart h))
  rw [isort_same ltE_irrefl ltE_trans hr.apart (isort_perm ltN p), isort_self ltE_irrefl ltE_trans hr]
theorem rowsP_head {d : List (List Int)} {b : List Int} {n : Nat} (h0 : d.head? = some b) (hl : d.length = n + 1) (hn : 1 ≤ n) : rowsP d = ixP b n := by
  match d, h0, hl with
  | b' :: c :: d, h0, hl =>
    obtain rfl : b' = b := by simpa using h0
    rw [rowsP_two]
    simp at hl
    rw [hl]
  | [_], _, hl => simp at hl; omega
  | [], h0, _ => cases h0
theorem blk_app {d : List (List Int)} {x : List Int} {j : Int} (h0 : 0 ≤ j) (h1 : j < d.length) : blk (d ++ [x]) j = blk d j := by
  unfold blk
  rw [List.getD_eq_getElem?_getD, List.getD_eq_getElem?_getD, List.getElem?_append_left (by omega)]
theorem blk_last {d : List (List Int)} {x : List Int} : blk (d ++ [x]) (d.length : Int) = x := by
  unfold blk
  rw [Int.toNat_natCast, List.getD_eq_getElem?_getD, List.getElem?_concat_length]
  rfl
set_option maxHeartbeats 1000000 in
theorem split_law {d : List (List Int)} (hd : Dir d) {A : List R} {r : R} {B : List R} {LA : List (List E)} {l l2 : List E} {LB : List (List E)} (h : readP d = some (A ++ r :: B, LA ++ l :: LB)) (hl : LA.length = A.length) (hr2 : right none l2 = true)
    (hrow : ∀ y ∈ l2, r.f0 ≤ sumN y.f0 ∧ ∀ q ∈ B, sumN y.f0 < q.f0) : splitP d (A ++ r :: B) A.length l2 = ([], 9) ∨ ∃ d', splitP d (A ++ r :: B) A.length l2 = (d', 0) ∧ Dir d' ∧ entsD d' = ents ltE (dirOf A LA) ++ (isort ltE l2 ++ ents ltE (dirOf B LB)) := by
  unfold splitP
  dsimp only
  by_cases hc : cutP (isort ltE l2) = 0 ∨ (A ++ r :: B).length = 30
  · left; rw [if_pos hc]
  rw [if_neg hc]
  have hc0 : cutP (isort ltE l2) ≠ 0 := fun e => hc (.inl e)
  have h30 : (A ++ r :: B).length ≠ 30 := fun e => hc (.inr e)
  have hrise := isort_rises ltE_trans (leaf_apart hr2)
  obtain ⟨b1, b2, hcl, b3⟩ := cut_bounds hrise hc0
  have hlo := part_right hr2 (List.take_sublist (cutP (isort ltE l2)) (isort ltE l2))
  have hhi := part_right hr2 (List.drop_sublist (cutP (isort ltE l2)) (isort ltE l2))
  have elo := isort_part hr2 (List.take_sublist (cutP (isort ltE l2)) (isort ltE l2))
  have ehi := isort_part hr2 (List.drop_sublist (cutP (isort ltE l2)) (isort ltE l2))
  have hmem : ∀ y ∈ isort ltE l2, y ∈ l2 := fun y hy => (isort_perm ltE l2).mem_iff.1 hy
  have hsc := List.getElem_mem hcl
  rw [← b3] at hsc
  have hbrow := hrow _ (hmem _ hsc)
  have hbl : r.f0 < sumN ((isort ltE l2).getD (cutP (isort ltE l2)) ⟨⟨#[]⟩, 0⟩).f0 := by
    have h0 : (isort ltE l2)[0]'(by omega) ∈ (isort ltE l2).take (cutP (isort ltE l2)) := List.mem_take_iff_getElem.2 ⟨0, by omega, rfl⟩
    have h1 := b1 _ h0
    have h2 := (hrow _ (hmem _ (List.mem_of_mem_take h0))).1
    omega
  have hbn := sumN_nn ((isort ltE l2).getD (cutP (isort ltE l2)) ⟨⟨#[]⟩, 0⟩).f0
  have htd := List.take_append_drop (cutP (isort ltE l2)) (isort ltE l2)
  have mlo : ∀ x ∈ isort ltN ((isort ltE l2).take (cutP (isort ltE l2))), x ∈ (isort ltE l2).take (cutP (isort ltE l2)) := fun x hx => (isort_perm ltN _).mem_iff.1 hx
  have mhi : ∀ x ∈ isort ltN ((isort ltE l2).drop (cutP (isort ltE l2))), x ∈ (isort ltE l2).drop (cutP (isort ltE l2)) := fun x hx => (isort_perm ltN _).mem_iff.1 hx
  have rlo : ∀ x ∈ isort ltN ((isort ltE l2).take (cutP (isort ltE l2))), r.f0 ≤ sumN x.f0 ∧ sumN x.f0 < sumN ((isort ltE l2).getD (cutP (isort ltE l2)) ⟨⟨#[]⟩, 0⟩).f0 := fun x hx => ⟨(hrow x (hmem x (List.mem_of_mem_take (mlo x hx)))).1, b1 x (mlo x hx)⟩
  have rhi : ∀ x ∈ isort ltN ((isort ltE l2).drop (cutP (isort ltE l2))), sumN ((isort ltE l2).getD (cutP (isort ltE l2)) ⟨⟨#[]⟩, 0⟩).f0 ≤ sumN x.f0 ∧ ∀ q ∈ B, sumN x.f0 < q.f0 := fun x hx => ⟨b2 x (mhi x hx), (hrow x (hmem x (List.mem_of_mem_drop (mhi x hx)))).2⟩
  clear b1 b2 b3 hmem hsc hcl mlo mhi hrow hrise hc
  revert hlo hhi elo ehi htd rlo rhi hbrow hbl hbn hc0
  generalize isort ltN ((isort ltE l2).take (cutP (isort ltE l2))) = lo
  generalize isort ltN ((isort ltE l2).drop (cutP (isort ltE l2))) = hi
  generalize sumN ((isort ltE l2).getD (cutP (isort ltE l2)) ⟨⟨#[]⟩, 0⟩).f0 = bd
  intro hc0 hlo hhi elo ehi hbrow hbl hbn htd rlo rhi
  have hst : isort ltE l2 = isort ltE lo ++ isort ltE hi := by rw [elo, ehi, htd]
  rw [hst]
  clear hst elo ehi htd hc0
  rcases (enc_code hlo).symm with e0 | e0
  · left; rw [e0, if_pos (by decide)]
  rw [if_neg (by rw [e0]; decide)]
  rcases (enc_code hhi).symm with e1 | e1
  · left; rw [e1, if_pos (by decide)]
  rw [if_neg (by rw [e1]; decide)]
  right
  obtain ⟨hrs, hlv⟩ := readP_some h
  have hok := rowsP_ok hd.byte hrs
  obtain ⟨-, -, g3, g4⟩ := leaves_parts hlv hl
  by_cases h1 : d.length = 1
  · rw [if_pos h1]
    have ho := hok.one h1
    obtain ⟨rfl, rfl, rfl⟩ : A = [] ∧ r = ⟨0, 0⟩ ∧ B = [] := by
      cases A with
      | nil => simp at ho; exact ⟨rfl, ho.1, ho.2⟩
      | cons a A => simp at ho
    obtain rfl := List.eq_nil_of_length_eq_zero hl
    obtain rfl : LB = [] := by
      have := leavesP_spec g3
      exact List.eq_nil_of_length_eq_zero this.1
    have hix : ixP (ixB [⟨0, 1⟩, ⟨bd, 2⟩]) 2 = some [⟨0, 1⟩, ⟨bd, 2⟩] := ixP_self (rs := [⟨0, 1⟩, ⟨bd, 2⟩]) (by simp) (by simp) (by simp; omega) (by simp) (by simp; exact hbl) rfl (by simp)
    have hread : readP [ixB [⟨0, 1⟩, ⟨bd, 2⟩], (encR lo).1, (encR hi).1] = some ([⟨0, 1⟩, ⟨bd, 2⟩], [lo, hi]) := by
      refine readP_of ((rowsP_two _ _ _).trans hix) (leaves_cons (dec_enc e0) (fun x hx => ?_) (leaves_cons (dec_enc e1) (fun x hx => row_of (B := []) (rhi x hx).1 (fun q hq => by cases hq)) rfl))
      exact row_of (r := ⟨0, 1⟩) (B := [⟨bd, 2⟩]) (rlo x hx).1 (fun q hq => by rw [List.mem_singleton.1 hq]; exact (rlo x hx).2)
    refine ⟨_, rfl, ⟨fun b hb => ?_, _, _, hread⟩, ?_⟩
    · simp only [List.mem_cons, List.not_mem_nil, or_false] at hb
      rcases hb with rfl | rfl | rfl
      · exact ixB_byte _
      · exact encR_byte _
      · exact encR_byte _
    · rw [entsD_eq hread]
      simp [dirOf, ents]
  · rw [if_neg h1]
    have h2 : 1 < d.length := by
      have h3 := hok.blk r (by simp)
      omega
    obtain ⟨hm1, hm2⟩ := hok.more h2
    have hbk := hok.blk r (by simp)
    have hr1 := hm2 r (by simp)
    obtain ⟨hnA, hnB⟩ := nodup_mid hok.nodup
    rw [getD_mid]
    have ers : (A ++ r :: B).take (A.length + 1) ++ (⟨bd, (d.length : Int)⟩ : R) :: (A ++ r :: B).drop (A.length + 1) = A ++ r :: ⟨bd, (d.length : Int)⟩ :: B := by
      have e : A ++ r :: B = (A ++ [r]) ++ B := by simp
      rw [e, List.take_append_of_le_length (by simp), List.drop_append_of_le_length (by simp), List.take_of_length_le (by simp), List.drop_of_length_le (by simp)]
      simp
    rw [ers]
    obtain ⟨u1, u2, u3⟩ := List.pairwise_append.1 hok.up
    obtain ⟨u4, u5⟩ := List.pairwise_cons.1 u2
    have hlen2 : (A ++ r :: (⟨bd, (d.length : Int)⟩ : R) :: B).length = d.length := by
      simp only [List.length_append, List.length_cons] at hm1 ⊢; omega
    have hmem2 : ∀ q, q ∈ A ++ r :: (⟨bd, (d.length : Int)⟩ : R) :: B → q ∈ A ++ r :: B ∨ q = ⟨bd, (d.length : Int)⟩ := fun q hq => by
      simp only [List.mem_append, List.mem_cons] at hq ⊢
      rcases hq with hq | hq | hq | hq
      · exact .inl (.inl hq)
      · exact .inl (.inr (.inl hq))
      · exact .inr hq
      · exact .inl (.inr (.inr hq))
    have hix := ixP_self (rs := A ++ r :: (⟨bd, (d.length : Int)⟩ : R) :: B) (by omega) (by have := hok.high; omega)
      (fun q hq => by rcases hmem2 q hq with hq | rfl; exact hok.num q hq; exact hbn)
      (fun q hq => by
        rw [hlen2]
        rcases hmem2 q hq with hq | rfl
        · have := hok.blk q hq; have := hm2 q hq; omega
        · dsimp only; omega)
      (List.pairwise_append.2 ⟨u1, List.pairwise_cons.2 ⟨fun q hq => by
          rcases List.mem_cons.1 hq with rfl | hq
          · exact hbl
          · exact u4 q hq, List.pairwise_cons.2 ⟨fun q hq => hbrow.2 q hq, u5⟩⟩, fun a ha q hq => by
        have h5 := u3 a ha r List.mem_cons_self
        rcases List.mem_cons.1 hq with rfl | hq
        · exact h5
        · rcases List.mem_cons.1 hq with rfl | hq
          · show a.f0 < bd; omega
          · exact u3 a ha q (List.mem_cons_of_mem _ hq)⟩)
      (by
        have h5 := hok.first (by rw [List.length_append, List.length_cons]; omega)
        cases A with
        | nil => exact h5
        | cons a A => exact h5)
      (by
        have hn := hok.nodup
        rw [List.map_append, List.map_cons] at hn ⊢
        rw [List.map_cons]
        have hp : (A.map (·.f1) ++ r.f1 :: (d.length : Int) :: B.map (·.f1)).Perm ((d.length : Int) :: (A.map (·.f1) ++ r.f1 :: B.map (·.f1))) := by
          have h6 := List.perm_middle (a := (d.length : Int)) (l₁ := A.map (·.f1) ++ [r.f1]) (l₂ := B.map (·.f1))
          simpa using h6
        refine hp.nodup_iff.2 (List.nodup_cons.2 ⟨fun hx => ?_, hn⟩)
        have : (d.length : Int) ∈ (A ++ r :: B).map (·.f1) := by rw [List.map_append, List.map_cons]; exact hx
        obtain ⟨q, hq, hq1⟩ := List.mem_map.1 this
        have := hok.blk q hq
        omega)
    rw [hlen2] at hix
    have hkeep : ∀ q ∈ A ++ r :: B, q.f1 ≠ r.f1 → blk (((d ++ [(encR hi).1]).set r.f1.toNat (encR lo).1).set 0 (ixB (A ++ r :: ⟨bd, (d.length : Int)⟩ :: B))) q.f1 = blk d q.f1 := fun q hq hne => by
      have h7 := hok.blk q hq
      have h8 := hm2 q hq
      rw [show (0 : Nat) = (0 : Int).toNat from rfl, blk_off (by decide) (by omega) (by omega), blk_off (by omega) (by omega) hne, blk_app (by omega) h7.2]
    have hread : readP (((d ++ [(encR hi).1]).set r.f1.toNat (encR lo).1).set 0 (ixB (A ++ r :: ⟨bd, (d.length : Int)⟩ :: B))) = some (A ++ r :: ⟨bd, (d.length : Int)⟩ :: B, LA ++ lo :: hi :: LB) := by
      refine readP_of ((rowsP_head (n := d.length) ?_ (by simp) (by omega)).trans hix) (g4 _ _ _ (fun q hq => hkeep q (by simp [hq]) (hnA q hq)) rfl (leaves_cons ?_ (fun x hx => row_of (rlo x hx).1 (fun q hq => ?_)) (leaves_cons ?_ (fun x hx => row_of (rhi x hx).1 (rhi x hx).2) ?_)))
      · cases d with
        | nil => simp at h2
        | cons b d =>
          obtain ⟨m, hm⟩ : ∃ m, r.f1.toNat = m + 1 := ⟨r.f1.toNat - 1, by omega⟩
          rw [hm]
          rfl
      · rw [show (0 : Nat) = (0 : Int).toNat from rfl, blk_off (by decide) (by omega) (by omega), blk_at (by omega) _ (by simp; omega)]
        exact dec_enc e0
      · rcases List.mem_cons.1 hq with rfl | hq
        · exact (rlo x hx).2
        · have := (rlo x hx).2; have := hbrow.2 q hq; omega
      · show decR (blk _ (d.length : Int)) = _
        rw [show (0 : Nat) = (0 : Int).toNat from rfl, blk_off (by decide) (by omega) (by omega), blk_off (by omega) (by omega) (by omega), blk_last]
        exact dec_enc e1
      · rw [leaves_same (fun q hq => hkeep q (by simp [hq]) (hnB q hq))]
        exact g3
    refine ⟨_, rfl, ⟨bytesD_set (bytesD_set (fun b hb => ?_) _ (encR_byte _)) _ (ixB_byte _), _, _, hread⟩, ?_⟩
    · rcases List.mem_append.1 hb with hb | hb
      · exact hd.byte b hb
      · rw [List.mem_singleton.1 hb]; exact encR_byte _
    · rw [entsD_eq hread, dirOf_append hl]
      show ents ltE (dirOf A LA ++ (r.f0, lo) :: (bd, hi) :: dirOf B LB) = _
      rw [ents_append, ents_cons, ents_cons, List.append_assoc]
theorem add_law {d : List (List Int)} (hd : Dir d) (x : E) : (mayX x = false → addP d x = ([], 1)) ∧ (mayX x = true → (∃ y ∈ entsD d, y.f0 = x.f0) → addP d x = ([], 4)) ∧
    (mayX x = true → (¬ ∃ y ∈ entsD d, y.f0 = x.f0) → addP d x = ([], 9) ∨ ∃ d', addP d x = (d', 0) ∧ Dir d' ∧ entsD d' = ins ltE x (entsD d)) := by
  obtain ⟨A, r, B, LA, l, LB, h⟩ := opened hd x.f0
  unfold addP
  rw [h.read]
  dsimp only
  rw [h.at_, getD_mid, show (LA ++ l :: LB).getD A.length [] = l by rw [← h.len, getD_mid]]
  refine ⟨fun hm => by rw [if_pos hm], fun hm hn => ?_, fun hm hn => ?_⟩
  · rw [if_neg (by rw [hm]; decide), if_pos (h.there.2 hn)]
  · have ht : ¬ thereP l x.f0 = true := fun e => hn (h.there.1 e)
    rw [if_neg (by rw [hm]; decide), if_neg ht]
    have hr2 := more_right h.right (show okE x = true from hm) ht
    have hpm := more_perm l (posP l x.f0) x
    have hrow : ∀ y ∈ l.take (posP l x.f0) ++ x :: l.drop (posP l x.f0), r.f0 ≤ sumN y.f0 ∧ ∀ q ∈ B, sumN y.f0 < q.f0 := fun y hy => by
      rcases List.mem_cons.1 (hpm.mem_iff.1 hy) with rfl | hy
      · exact ⟨h.low, h.high⟩
      · exact ⟨row_low (h.row y hy), row_high h.ok (h.row y hy)⟩
    have hins : ents ltE (dirOf A LA) ++ (isort ltE (l.take (posP l x.f0) ++ x :: l.drop (posP l x.f0)) ++ ents ltE (dirOf B LB)) = ins ltE x (entsD d) := by
      rw [h.ents, ← ents_add byS h.dir h.low h.rows, ents_append, ents_cons, isort_same ltE_irrefl ltE_trans ((leaf_apart hr2).perm hpm) hpm]
    revert hr2 hpm hrow hins
    generalize l.take (posP l x.f0) ++ x :: l.drop (posP l x.f0) = l2
    intro hr2 hpm hrow hins
    rcases enc_code hr2 with e | e
    · obtain ⟨g1, g2, g3⟩ := h.turn hd e (fun y hy => row_of (hrow y hy).1 (hrow y hy).2)
      rw [g1]
      right
      refine ⟨_, by rw [if_neg (show ¬ (0 : Int) = 9 by decide)], g2, ?_⟩
      rw [g3, ents_append, ents_cons, hins]
    · have hw : withP d r.f1 l2 = ([], 9) := by unfold withP; rw [e, if_neg (by decide)]
      rw [hw, if_pos rfl, ← hins]
      exact split_law hd h.read h.len hr2 hrow
end Go.Proofs.Yteglhbfhibfodaa.Ht
end
section
namespace Go.Proofs.Yteglhbfhibfodaa.Ht
open Go.RowKit Go.Proofs.YteglhbfhibfodaaW.PrintWords Go.Proofs.YteglhbfhibfodaaW.PrintMore Go.Proofs.Yteglhbfhibfodaa.Pr Go.Proofs.Yteglhbfhibfodaa.Od Go.Proofs.Yteglhbfhibfodaa.Cr Go.Proofs.Yteglhbfhibfodaa.Lf
set_option linter.unusedVariables false
set_option linter.unusedSimpArgs false
theorem dirB_of {d : List (List Int)} (hb : bytesD d) (hl : d.length < 5864062014805) : dirB d = true := by
  unfold dirB
  rw [Bool.and_eq_true, decide_eq_true_eq, List.all_eq_true]
  exact ⟨hl, fun r hr => List.all_eq_true.2 fun x hx => by
    have := hb r hr x hx
    rw [Bool.and_eq_true, decide_eq_true_eq, decide_eq_true_eq]
    exact this⟩
theorem Dir.len {d : List (List Int)} (h : Dir d) : d.length ≤ 31 := by
  obtain ⟨rs, ls, hr⟩ := h.read
  exact (readP_len h.byte hr).1
theorem Dir.b {d : List (List Int)} (h : Dir d) : dirB d = true := dirB_of h.byte (by have := h.len; omega)
theorem f_check {d : List (List Int)} (h : dirB d = true) : htree_Check.f d = some (checkP d) := by unfold htree_Check.f; rw [if_pos h]
theorem f_add {d : List (List Int)} (h : dirB d = true) (s : ByteArray) (n : Int) : htree_Add.f d s n = some (addP d ⟨s, n⟩) := by unfold htree_Add.f; rw [if_pos h]
theorem f_find {d : List (List Int)} (h : dirB d = true) (s : ByteArray) : htree_Find.f d s = some (findP d s) := by unfold htree_Find.f; rw [if_pos h]
theorem f_after {d : List (List Int)} (h : dirB d = true) (s : ByteArray) (hs : s.size < 512) (n : Int) : htree_After.f d s n = some (afterP d s n) := by unfold htree_After.f; rw [if_pos ⟨h, hs⟩]
theorem new_ev : Ev (fun k => htree_New.f k) newD := by
  unfold htree_New.f
  refine Ev.bind (enc_ev [] (by decide)) ?_
  exact Ev.now _
theorem Dir.check {d : List (List Int)} (h : Dir d) : checkP d = 0 := check_ok.2 h.read
theorem after0 {d : List (List Int)} (h : Dir d) (n : Int) : afterP d ⟨#[]⟩ n = ((entsD d).take n.toNat, 0) := by
  obtain ⟨rs, ls, hr⟩ := h.read
  exact after_all h.byte hr rfl n
def aN : ByteArray := ⟨#[97]⟩
theorem may_a : mayB aN = true := by decide
theorem alive_ev : Ev (fun k => l_12_alive.f k) true := by
  unfold l_12_alive.f
  refine Ev.bind new_ev ?_
  have hm7 : mayX (⟨aN, 7⟩ : E) = true := by decide
  have hm0 : mayX (⟨aN, 0⟩ : E) = true := by decide
  obtain ⟨d1, h1⟩ := add_new hm7
  have hna : ¬ ∃ y ∈ entsD newD, y.f0 = aN := by rw [ents_new]; rintro ⟨y, hy, _⟩; cases hy
  obtain ⟨d1', e1, hd1, he1⟩ : ∃ d', addP newD ⟨aN, 7⟩ = (d', 0) ∧ Dir d' ∧ entsD d' = ins ltE ⟨aN, 7⟩ (entsD newD) := by
    rcases (add_law dir_new ⟨aN, 7⟩).2.2 hm7 hna with h | h
    · rw [h1] at h; exact absurd (show (0 : Int) = 9 from congrArg Prod.snd h) (by decide)
    · exact h
  rw [ents_new, show ins ltE (⟨aN, 7⟩ : E) [] = [⟨aN, 7⟩] from rfl] at he1
  have e2 : findP d1' aN = (7, 0) := by
    rw [find_law hd1, he1, if_neg (by rw [may_a]; decide)]
    rfl
  have e3 : addP d1' ⟨aN, 0⟩ = ([], 4) := (add_law hd1 ⟨aN, 0⟩).2.1 hm0 (by rw [he1]; exact ⟨_, List.mem_singleton.2 rfl, rfl⟩)
  change Ev (fun k => (htree_Add.f newD aN 7).bind _) true
  rw [f_add dir_new.b, e1]
  simp only [bs]
  change Ev (fun k => (htree_Find.f d1' aN).bind _) true
  rw [f_find hd1.b, e2]
  simp only [bs]
  change Ev (fun k => (htree_Add.f d1' aN 0).bind _) true
  rw [f_add hd1.b, e3]
  simp only [bs, if_true]
  rw [f_check (dirB_of (d := []) (fun _ h => by cases h) (by decide))]
  simp only [bs]
  exact Ev.now _
end Go.Proofs.Yteglhbfhibfodaa.Ht
end
section
namespace Go.Proofs.Yteglhbfhibfodaa.Ht
open Go.RowKit Go.Proofs.YteglhbfhibfodaaW.PrintWords Go.Proofs.YteglhbfhibfodaaW.PrintMore Go.Proofs.Yteglhbfhibfodaa.Pr Go.Proofs.Yteglhbfhibfodaa.Od Go.Proofs.Yteglhbfhibfodaa.Cr Go.Proofs.Yteglhbfhibfodaa.Lf
set_option linter.unusedVariables false
set_option linter.unusedSimpArgs false
theorem f_remove {d : List (List Int)} (h : dirB d = true) (s : ByteArray) : htree_Remove.f d s = some (removeP d s) := by unfold htree_Remove.f; rw [if_pos h]
theorem f_set {d : List (List Int)} (h : dirB d = true) (s : ByteArray) (n : Int) : htree_Set.f d s n = some (setP d ⟨s, n⟩) := by unfold htree_Set.f; rw [if_pos h]
def doP (d : List (List Int)) (op : Int) (nm : ByteArray) (no : Int) : List (List Int) × Int := if bits .and .i64 op 3 = 1 then removeP d nm else if bits .and .i64 op 3 = 2 then setP d ⟨nm, no⟩ else addP d ⟨nm, no⟩
theorem f_do {d : List (List Int)} (h : dirB d = true) (op : Int) (nm : ByteArray) (no : Int) : l_12_do.f d op nm no = some (doP d op nm no) := by
  unfold l_12_do.f doP
  by_cases h1 : bits .and .i64 op 3 = 1
  · rw [if_pos h1, if_pos h1, f_remove h, bs]
  · rw [if_neg h1, if_neg h1]
    by_cases h2 : bits .and .i64 op 3 = 2
    · rw [if_pos h2, if_pos h2, f_set h, bs]
    · rw [if_neg h2, if_neg h2, f_add h, bs]
end Go.Proofs.Yteglhbfhibfodaa.Ht
end
section
namespace Go.Proofs.Yteglhbfhibfodaa.Ht
open Go.RowKit Go.Proofs.YteglhbfhibfodaaW.PrintWords Go.Proofs.YteglhbfhibfodaaW.PrintMore Go.Proofs.Yteglhbfhibfodaa.Pr Go.Proofs.Yteglhbfhibfodaa.Od Go.Proofs.Yteglhbfhibfodaa.Cr Go.Proofs.Yteglhbfhibfodaa.Lf Go.Maps
set_option linter.unusedVariables false
set_option linter.unusedSimpArgs false
abbrev keyN (s : ByteArray) : Lit := .string s.data.toList
abbrev numD (n : Int) : DataW Unit := .lit (.int .i64 n)
theorem key_lit (s : ByteArray) : WideAt.IsKeyLit (keyN s) := trivial
theorem key_ne {s t : ByteArray} (h : s ≠ t) : keyN s ≠ keyN t := fun e => h (str_ext (by injection e))
structure Like (d : List (List Int)) (D : DataW Unit) : Prop where
  dir : Dir d
  tidy : Tidy D
  has : ∀ s : ByteArray, Maps.has D (keyN s) = true ↔ ∃ y ∈ entsD d, y.f0 = s
  num : ∀ y ∈ entsD d, D.atKey (keyN y.f0) (numD 0) = numD y.f1
  size : Maps.size D = (entsD d).length
theorem Like.new : Like newD (.map []) where
  dir := dir_new
  tidy := tidy_empty
  has s := by rw [ents_new]; simp [has_eq]
  num y hy := by rw [ents_new] at hy; cases hy
  size := by rw [ents_new]; rfl
theorem Like.put {d d' : List (List Int)} {D : DataW Unit} (h : Like d D) (hd : Dir d') {x : E} (hm : ∀ y, y ∈ entsD d' ↔ y = x ∨ (y ∈ entsD d ∧ y.f0 ≠ x.f0)) (hs : (entsD d').length = if Maps.has D (keyN x.f0) = true then (entsD d).length else (entsD d).length + 1) : Like d' (D.put (keyN x.f0) (numD x.f1)) where
  dir := hd
  tidy := h.tidy.put (key_lit _) _
  has s := by
    by_cases hs : s = x.f0
    · subst hs
      rw [has_put_same h.tidy.isMap (key_lit _)]
      exact ⟨fun _ => ⟨x, (hm x).2 (.inl rfl), rfl⟩, fun _ => rfl⟩
    · rw [has_put_other (key_ne hs), h.has]
      constructor
      · rintro ⟨y, hy, e⟩
        exact ⟨y, (hm y).2 (.inr ⟨hy, by rw [e]; exact hs⟩), e⟩
      · rintro ⟨y, hy, e⟩
        rcases (hm y).1 hy with rfl | ⟨h1, h2⟩
        · exact absurd e.symm hs
        · exact ⟨y, h1, e⟩
  num y hy := by
    rcases (hm y).1 hy with rfl | ⟨h1, h2⟩
    · rw [atKey_put_same h.tidy.isMap (key_lit _)]
    · rw [atKey_put_other (key_ne h2), h.num y h1]
  size := by
    rw [size_put h.tidy, hs, h.size]
theorem Like.del {d d' : List (List Int)} {D : DataW Unit} (h : Like d D) (hd : Dir d') {nm : ByteArray} (hn : Maps.has D (keyN nm) = true) (he : entsD d' = (entsD d).filter (fun y => decide (y.f0 ≠ nm))) : Like d' (D.del (keyN nm)) where
  dir := hd
  tidy := h.tidy.del _
  has s := by
    rw [he]
    by_cases hs : s = nm
    · subst hs
      rw [has_del_same]
      simp
    · rw [has_del_other (key_ne hs), h.has]
      constructor
      · rintro ⟨y, hy, e⟩
        exact ⟨y, List.mem_filter.2 ⟨hy, decide_eq_true (by rw [e]; exact hs)⟩, e⟩
      · rintro ⟨y, hy, e⟩
        exact ⟨y, (List.mem_filter.1 hy).1, e⟩
  num y hy := by
    rw [he] at hy
    obtain ⟨h1, h2⟩ := List.mem_filter.1 hy
    rw [atKey_del_other (key_ne (of_decide_eq_true h2)), h.num y h1]
  size := by
    have h1 := size_del (k := keyN nm) h.tidy
    rw [if_pos hn, h.size] at h1
    obtain ⟨z, hz, hzn⟩ := (h.has nm).1 hn
    have h2 : ((entsD d).filter (fun y => decide (y.f0 ≠ nm))).length + 1 = (entsD d).length := by
      have hr := entsD_rises h.dir.byte
      obtain ⟨P, Q, hsp⟩ := List.append_of_mem hz
      rw [hsp] at hr ⊢
      have hall : ∀ y ∈ P ++ Q, decide (y.f0 ≠ nm) = true := fun y hy => decide_eq_true (fun e => by
        have hnd := Rises.nodup byS hr
        have hyz : y = z := one_name hr (by rcases List.mem_append.1 hy with h | h <;> simp [h]) (by simp) (by rw [e, hzn])
        subst hyz
        have := List.nodup_append.1 hnd
        rcases List.mem_append.1 hy with h | h
        · exact this.2.2 y h y (by simp) rfl
        · exact (List.nodup_cons.1 this.2.1).1 h)
      rw [List.filter_append, List.filter_cons_of_neg (by simp [hzn]), List.filter_eq_self.2 (fun y hy => hall y (List.mem_append_left _ hy)), List.filter_eq_self.2 (fun y hy => hall y (List.mem_append_right _ hy))]
      simp
      omega
    rw [he]
    omega
def okD (op : Int) (nm : ByteArray) (no : Int) : Bool := if bits .and .i64 op 3 = 1 then mayB nm else mayX ⟨nm, no⟩
def addD (op : Int) : Bool := decide (bits .and .i64 op 3 = 0) || decide (bits .and .i64 op 3 = 3)
theorem and3 (x : Int) : 0 ≤ bits .and .i64 x 3 ∧ bits .and .i64 x 3 ≤ 3 := by
  have h : ((BitVec.ofInt 64 x &&& BitVec.ofInt 64 3).toNat) ≤ 3 := by
    rw [BitVec.toNat_and]
    exact Nat.and_le_right
  have e : bits .and .i64 x 3 = IntKind.i64.wrap (((BitVec.ofInt 64 x &&& BitVec.ofInt 64 3).toNat : Nat) : Int) := rfl
  rw [e, IntKind.wrap_i64]
  omega
theorem step_law {d : List (List Int)} {D : DataW Unit} (h : Like d D) (op : Int) (nm : ByteArray) (no : Int) :
    (okD op nm no = false ∧ (doP d op nm no).2 = 1) ∨ (okD op nm no = true ∧ addD op = true ∧ Maps.has D (keyN nm) = true ∧ (doP d op nm no).2 = 4) ∨ (okD op nm no = true ∧ addD op = false ∧ Maps.has D (keyN nm) = false ∧ (doP d op nm no).2 = 3) ∨
    (okD op nm no = true ∧ addD op = true ∧ Maps.has D (keyN nm) = false ∧ (doP d op nm no).2 = 9) ∨ (okD op nm no = true ∧ addD op = true ∧ Maps.has D (keyN nm) = false ∧ (doP d op nm no).2 = 0 ∧ ¬ bits .and .i64 op 3 = 1 ∧ Like (doP d op nm no).1 (D.put (keyN nm) (numD no))) ∨
    (okD op nm no = true ∧ addD op = false ∧ Maps.has D (keyN nm) = true ∧ (doP d op nm no).2 = 0 ∧ bits .and .i64 op 3 = 1 ∧ Like (doP d op nm no).1 (D.del (keyN nm))) ∨
    (okD op nm no = true ∧ addD op = false ∧ Maps.has D (keyN nm) = true ∧ (doP d op nm no).2 = 0 ∧ ¬ bits .and .i64 op 3 = 1 ∧ Like (doP d op nm no).1 (D.put (keyN nm) (numD no))) := by
  obtain ⟨hlo, hhi⟩ := and3 op
  unfold okD doP
  have hhas := h.has nm
  by_cases h1 : bits .and .i64 op 3 = 1
  · have ha : addD op = false := by unfold addD; rw [h1]; rfl
    rw [if_pos h1, if_pos h1, ha]
    obtain ⟨g1, g2, g3⟩ := remove_law h.dir nm
    cases hm : mayB nm with
    | false => rw [g1 hm]; exact .inl ⟨rfl, rfl⟩
    | true =>
      cases hb : Maps.has D (keyN nm) with
      | false =>
        have hn : ¬ ∃ y ∈ entsD d, y.f0 = nm := fun e => by rw [hhas.2 e] at hb; cases hb
        rw [g2 hm hn]
        exact .inr (.inr (.inl ⟨rfl, rfl, rfl, rfl⟩))
      | true =>
        obtain ⟨d', e, k1, k2⟩ := g3 hm (hhas.1 hb)
        rw [e]
        exact .inr (.inr (.inr (.inr (.inr (.inl ⟨rfl, rfl, rfl, rfl, h1, h.del k1 hb k2⟩)))))
  · rw [if_neg h1, if_neg h1]
    by_cases h2 : bits .and .i64 op 3 = 2
    · have ha : addD op = false := by unfold addD; rw [h2]; rfl
      rw [if_pos h2, ha]
      obtain ⟨g1, g2, g3⟩ := set_law h.dir ⟨nm, no⟩
      cases hm : mayX ⟨nm, no⟩ with
      | false => rw [g1 hm]; exact .inl ⟨rfl, rfl⟩
      | true =>
        cases hb : Maps.has D (keyN nm) with
        | false =>
          have hn : ¬ ∃ y ∈ entsD d, y.f0 = nm := fun e => by rw [hhas.2 e] at hb; cases hb
          rw [g2 hm hn]
          exact .inr (.inr (.inl ⟨rfl, rfl, rfl, rfl⟩))
        | true =>
          obtain ⟨d', e, k1, k2⟩ := g3 hm (hhas.1 hb)
          rw [e]
          refine .inr (.inr (.inr (.inr (.inr (.inr ⟨rfl, rfl, rfl, rfl, h1, h.put (x := ⟨nm, no⟩) k1 (fun y => ?_) (by rw [if_pos hb, k2, List.length_map])⟩)))))
          rw [k2, List.mem_map]
          constructor
          · rintro ⟨z, hz, rfl⟩
            unfold turnE
            by_cases hzn : z.f0 = nm
            · rw [if_pos hzn]; exact .inl rfl
            · rw [if_neg hzn]; exact .inr ⟨hz, hzn⟩
          · rintro (rfl | ⟨hy, hyn⟩)
            · obtain ⟨z, hz, hzn⟩ := hhas.1 hb
              exact ⟨z, hz, by unfold turnE; rw [if_pos hzn]⟩
            · exact ⟨y, hy, by unfold turnE; rw [if_neg hyn]⟩
    · have ha : addD op = true := by
        unfold addD
        by_cases h0 : bits .and .i64 op 3 = 0
        · rw [h0]; rfl
        · rw [show bits .and .i64 op 3 = 3 by omega]; rfl
      rw [if_neg h2, ha]
      obtain ⟨g1, g2, g3⟩ := add_law h.dir ⟨nm, no⟩
      cases hm : mayX ⟨nm, no⟩ with
      | false => rw [g1 hm]; exact .inl ⟨rfl, rfl⟩
      | true =>
        cases hb : Maps.has D (keyN nm) with
        | true =>
          rw [g2 hm (hhas.1 hb)]
          exact .inr (.inl ⟨rfl, rfl, rfl, rfl⟩)
        | false =>
          have hn : ¬ ∃ y ∈ entsD d, y.f0 = nm := fun e => by rw [hhas.2 e] at hb; cases hb
          rcases g3 hm hn with e | ⟨d', e, k1, k2⟩
          · rw [e]; exact .inr (.inr (.inr (.inl ⟨rfl, rfl, rfl, rfl⟩)))
          · rw [e]
            refine .inr (.inr (.inr (.inr (.inl ⟨rfl, rfl, rfl, rfl, h1, h.put (x := ⟨nm, no⟩) k1 (fun y => ?_) (by rw [if_neg (by rw [hb]; decide), k2, (ins_perm ltE _ _).length_eq]; rfl)⟩))))
            rw [k2, (ins_perm ltE _ _).mem_iff, List.mem_cons]
            constructor
            · rintro (rfl | hy)
              · exact .inl rfl
              · exact .inr ⟨hy, fun e => hn ⟨y, hy, e⟩⟩
            · rintro (rfl | ⟨hy, _⟩)
              · exact .inl rfl
              · exact .inr hy
theorem Like.find {d : List (List Int)} {D : DataW Unit} (h : Like d D) (nm : ByteArray) : (Maps.has D (keyN nm) = true ∧ (findP d nm).2 = 0 ∧ D.atKey (keyN nm) (numD 0) = numD (findP d nm).1) ∨ (Maps.has D (keyN nm) = false ∧ (findP d nm).2 ≠ 0) := by
  rw [find_law h.dir nm]
  cases hb : Maps.has D (keyN nm) with
  | false =>
    refine .inr ⟨rfl, ?_⟩
    split
    · decide
    · rw [List.find?_eq_none.2 (fun y hy e => by
        have : Maps.has D (keyN nm) = true := (h.has nm).2 ⟨y, hy, of_decide_eq_true e⟩
        rw [hb] at this; cases this)]
      decide
  | true =>
    refine .inl ⟨rfl, ?_⟩
    obtain ⟨z, hz, rfl⟩ := (h.has nm).1 hb
    have hok := entsD_ok h.dir.byte z hz
    have hm : mayB z.f0 = true := by
      unfold okE at hok
      simp only [Bool.and_eq_true] at hok
      exact hok.1.1
    rw [if_neg (by rw [hm]; decide)]
    cases hf : (entsD d).find? (fun y => decide (y.f0 = z.f0)) with
    | none => exact absurd (decide_eq_true rfl) (List.find?_eq_none.1 hf z hz)
    | some y =>
      have hy1 := List.mem_of_find?_eq_some hf
      have hy2 : y.f0 = z.f0 := of_decide_eq_true (List.find?_some (p := fun y : E => decide (y.f0 = z.f0)) hf)
      refine ⟨rfl, ?_⟩
      rw [← hy2]
      exact h.num y hy1
end Go.Proofs.Yteglhbfhibfodaa.Ht
end
