/- MReads: this session's texts for the one law, put together (part 3 of 6): what its program computes, function by function, and that this answers true; the row stands at the end of the last part. Conditions: those that each theorem names; the last theorem has none. -/
import Derived.Maps.OwnSet
import Derived.Maps.Views
import Derived.Carry
import Derived.Test.YtopmjjnkolfciaaMReadsB
section
namespace Go.Proofs.Ytopmjjnkolfciaa.Pr
open Go.RowKit Go.Proofs.YtopmjjnkolfciaaW.PrintWords Go.Proofs.YtopmjjnkolfciaaW.PrintLast Go.Proofs.YtopmjjnkolfciaaW.PrintMore
attribute [local go_sem] max2_int min2_int max_two min_two max_three min_three max_four min_four
attribute [local go_sem] Go.Proofs.Ytopmjjnkolfciaa.Hl.str_geq Go.Proofs.Ytopmjjnkolfciaa.Hl.str_gtr Go.Proofs.Ytopmjjnkolfciaa.Hl.str_leq
set_option linter.unusedVariables false
set_option linter.unusedSimpArgs false
theorem ins_row (W:World) (vb:Nat) (p:S24) (hV:W.heap[vb]? = some (.cells #[.int .i64 p.f0,.int .i64 p.f1,.int .i64 p.f2,.bool p.f3] 24 (0,0))):Kd.C k24 W (some ⟨vb,0,none⟩) 1 [p]:=by
 refine ⟨rfl,by simp,fun _=>⟨_,rfl,fun j q hj=>?_⟩⟩
 cases j with
 | zero =>
  simp only [List.getElem?_cons_zero,Option.some.injEq] at hj
  subst hj
  refine ⟨[.int .i64 p.f0,.int .i64 p.f1,.int .i64 p.f2,.bool p.f3],rfl,k24_mk _ p,fun i u hu=>?_⟩
  rw [add_plain]
  have e:0*k24.sz+i=i:=by rw [show k24.sz=4 from rfl];omega
  rw [e,blk_cell hV i]
  simpa using hu
 | succ j=>simp at hj
def flat2 (xs:List S24) (i:Nat):List Value:=(Rw.flat xs).drop (i*4)
set_option maxHeartbeats 8000000 in
set_option maxRecDepth 100000 in
theorem ins_calls (W:World) (base:Nat) (v:Value) (xs:List S24) (p:S24) (vb i n:Nat) (hn:xs.length=n) (hO:Kd.R k24 24 W base (fun _=>True) v xs) (hV:W.heap[vb]? = some (.cells #[.int .i64 p.f0,.int .i64 p.f1,.int .i64 p.f2,.bool p.f3] 24 (0,0)))
  (hne:∀ g,v.ownBlock=some g→g≠vb) (hbase:base≤W.heap.size) (hi:i≤n) (hl:n < 4398046511103) :
  Calls Try.prog 42 #[v,.int .i64 i,.slice (some ⟨vb,0,none⟩) 1 1] W fun e w'=>∃ v',e=.returned v'∧Kd.R k24 24 w' base (fun _=>True) v' (xs.take i++p::xs.drop i)∧Below base W w':=by
 have hw:∀ z:Int,0≤z→z < 9223372036854775807→wrap64 z=z:=fun z _ _=>by unfold wrap64;omega
 have hu26:=Try.underlying24
 have hi26:=info24
 obtain ⟨A,c,rfl⟩:=Kd.R_slice hO
 rw [hn] at hO
 by_cases hin:i=n
 ·subst hin
  have HO:=am hO
  have HL:=am hl
  have HN:=am hn
  have hCV:=am (ins_row W vb p hV)
  have h0:(0:Int)≤(i:Int):=by omega
  have h1:(i:Int)≤(i:Int):=by omega
  rw [hn]
  clear hO hl hn hV hne hw
  cases A with
  | none =>
   obtain ⟨rfl,rfl⟩:i=0∧c=0:=by
    rcases (Rw.R_flat HO.out).2 with ⟨h,_⟩|⟨g',c',cur',h,_⟩
    ·injection h with h1 h2 h3
     exact ⟨h2,h3⟩
    ·cases h
   go_enter Try.func42,Try.ntmps42
   go_wp2_with ((with_reducible refine gate_builtin (b:=.append) (xs:=#[.tmp 23,.tmp 24]) rfl ?_);at_builtin;refine Kd.R_append_rows k24 (w0:=W) base rfl (.tmp 23) (.tmp 24) 22 24 (.agg #[(.int .i64 0),(.int .i64 0),(.int .i64 0),(.bool false)]) 32 rfl Try.underlying22 info24 rfl (by decide) (by omega) _ xs [p] _ _ _ (fun _=>True) (fun _=>False) rfl rfl HO.out hCV.out (fun _ _ h=>h) (fun _ h=>h.elim) (fun _ _=>trivial) (Below.refl _ _) hbase (by have:=HL.out;have:=HN.out;omega) ?_;intro v2 w2 ho2 hb2 hg2 hat2;have HO2:=am ho2;have HB2:=am hb2;clear ho2 hb2 hg2 hat2)
   go_ret
   have e1:∀ j,xs.length=j→xs.take j++p::xs.drop j=xs++[p]:=fun j h=>by rw [List.take_of_length_le (by omega),List.drop_of_length_le (by omega)]
   rw [e1 _ HN.out]
   exact ⟨_,rfl,HO2.out,HB2.out⟩
  | some ad =>
   by_cases hci:c=i
   ·subst hci
    go_enter Try.func42,Try.ntmps42
    go_wp2_with ((with_reducible refine gate_builtin (b:=.append) (xs:=#[.tmp 23,.tmp 24]) rfl ?_);at_builtin;refine Kd.R_append_rows k24 (w0:=W) base rfl (.tmp 23) (.tmp 24) 22 24 (.agg #[(.int .i64 0),(.int .i64 0),(.int .i64 0),(.bool false)]) 32 rfl Try.underlying22 info24 rfl (by decide) (by omega) _ xs [p] _ _ _ (fun _=>True) (fun _=>False) rfl rfl HO.out hCV.out (fun _ _ h=>h) (fun _ h=>h.elim) (fun _ _=>trivial) (Below.refl _ _) hbase (by have:=HL.out;have:=HN.out;omega) ?_;intro v2 w2 ho2 hb2 hg2 hat2;have HO2:=am ho2;have HB2:=am hb2;clear ho2 hb2 hg2 hat2)
    go_ret
    have e1:∀ j,xs.length=j→xs.take j++p::xs.drop j=xs++[p]:=fun j h=>by rw [List.take_of_length_le (by omega),List.drop_of_length_le (by omega)]
    rw [e1 _ HN.out]
    exact ⟨_,rfl,HO2.out,HB2.out⟩
   ·skip
    go_enter Try.func42,Try.ntmps42
    go_wp2_with ((with_reducible refine gate_builtin (b:=.append) (xs:=#[.tmp 23,.tmp 24]) rfl ?_);at_builtin;refine Kd.R_append_rows k24 (w0:=W) base rfl (.tmp 23) (.tmp 24) 22 24 (.agg #[(.int .i64 0),(.int .i64 0),(.int .i64 0),(.bool false)]) 32 rfl Try.underlying22 info24 rfl (by decide) (by omega) _ xs [p] _ _ _ (fun _=>True) (fun _=>False) rfl rfl HO.out hCV.out (fun _ _ h=>h) (fun _ h=>h.elim) (fun _ _=>trivial) (Below.refl _ _) hbase (by have:=HL.out;have:=HN.out;omega) ?_;intro v2 w2 ho2 hb2 hg2 hat2;have HO2:=am ho2;have HB2:=am hb2;clear ho2 hb2 hg2 hat2)
    go_ret
    have e1:∀ j,xs.length=j→xs.take j++p::xs.drop j=xs++[p]:=fun j h=>by rw [List.take_of_length_le (by omega),List.drop_of_length_le (by omega)]
    rw [e1 _ HN.out]
    exact ⟨_,rfl,HO2.out,HB2.out⟩
 ·have hlt:i < n:=by omega
  have hp0:0 < xs.length:=by omega
  have h0:(0:Int)≤(i:Int):=by omega
  have h1:(i:Int)≤(n:Int):=by omega
  have hne1:((i:Int)==(n:Int))=false:=beq_eq_false_iff_ne.2 (by omega)
  have hn63:(n:Int)+1 < 9223372036854775807:=by omega
  have hi63:(i:Int)+1 < 9223372036854775807:=by omega
  have HW1:=am (hw ((n:Int)+1) (by omega) hn63)
  have HW3:=am (hw ((i:Int)+1) (by omega) hi63)
  have hXl:(flat2 xs i).length=(n - i)*4:=by unfold flat2;rw [List.length_drop,Rw.flat_len,hn];omega
  have hflen:(xs.take i++p::xs.drop i).length=n+1:=by rw [List.length_append,List.length_cons,List.length_take,List.length_drop,hn];omega
  have HW4:=am ((hw ((n:Int)+1 - (i:Int)) (by omega) (by omega)).trans (by omega:(n:Int)+1 - (i:Int)=((n+1 - i:Nat):Int)))
  clear hw hn63 hi63
  obtain ⟨g,c',cur,hv,hbg,hg,hnc,hcm,hcs,htk⟩:=Rw.own_open (Rw.R_flat hO) hp0
  have HCM:=am hcm
  clear hcm
  injection hv with hv1 hv2 hv3
  subst hv1
  subst hv3
  clear hv2
  rw [hn] at hnc htk ⊢
  have hgv:g≠vb:=hne g rfl
  have hglt:g < W.heap.size:=blk_lt hg
  have hvlt:vb < W.heap.size:=blk_lt hV
  have hcl:cur.toList.length=c*4:=by rw [Array.length_toList,hcs]
  have hci:¬ (c=i):=fun e=>absurd hlt (by rw [← e];exact Nat.not_lt.2 hnc)
  have hcells:∀ j u,(flat2 xs i)[j]? = some u→W.cell? ⟨g,i*4+j,none⟩=some u:=by
   intro j u hj
   rw [blk_cell hg,← Array.getElem?_toList]
   unfold flat2 at hj
   rw [List.getElem?_drop,← htk,List.getElem?_take] at hj
   split at hj
   ·exact hj
   ·cases hj
  have hadd:∀ b o j:Nat,(⟨b,o,none⟩:Addr).add j=⟨b,o+j,none⟩:=fun b o j=>by unfold Addr.add;split<;>simp_all
  have hfl1:∀ v∈flat2 xs i,v.oneCell'=true:=fun v hv=>Rw.flat_one xs v (List.mem_of_mem_drop hv)
  have hpl1:∀ v∈Rw.cells2 p,v.oneCell'=true:=by intro v hv;simp only [Rw.cells2,List.mem_cons,List.not_mem_nil,or_false] at hv;rcases hv with rfl|rfl|rfl|rfl<;>rfl
  have hfin:Rw.flat (xs.take i++p::xs.drop i)=(Rw.flat xs).take (i*4)++Rw.cells2 p++flat2 xs i:=by
   rw [Rw.flat_append,Rw.flat_cons,Rw.flat_take,Rw.flat_drop,← List.append_assoc];rfl
  by_cases hcap:(n:Int)+1 > (c:Int)
  ·
   obtain ⟨i0,hi0,hz3⟩:=Option.map_eq_some_iff.1 info24
   simp only [Prod.mk.injEq] at hz3
   obtain ⟨kk,hkk⟩:∃ kk,kk=n+1 - i:=⟨_,rfl⟩
   have hol:((Rw.flat xs).take (i*4)).length=i*4:=by rw [List.length_take,Rw.flat_len,hn];omega
   have hocell:∀ j u,((Rw.flat xs).take (i*4))[j]? = some u→W.cell? ⟨g,0+j,none⟩=some u:=by
    intro j u hj
    rw [Nat.zero_add,blk_cell hg,← Array.getElem?_toList]
    rw [List.getElem?_take] at hj
    split at hj
    ·rw [← htk,List.getElem?_take] at hj
     split at hj
     ·exact hj
     ·cases hj
    ·cases hj
   have hap:=Lib.run_append_grow_zeros (P:=Try.prog) W 22 3 22 24 i0 (.agg #[(.int .i64 0),(.int .i64 0),(.int .i64 0),(.bool false)]) .i64 .i64 Try.underlying22 Try.underlying3 hi0 hz3.1 (some ⟨g,0,none⟩) i c ((Rw.flat xs).take (i*4)) (by
     have h:=run_loadCells_list (P:=Try.prog) W.drew ⟨g,0,none⟩ ((Rw.flat xs).take (i*4)) (fun j u hj=>by rw [hadd];exact hocell j u hj)
     rw [hol] at h
     rw [hz3.2.1]
     exact h) kk (by omega) (by rw [hz3.2.1];decide) (by omega) (by omega) (by rw [hz3.2.2];omega) (by rw [hz3.2.2];exact growslice_fits_wide (by omega) (by omega))
   have hsum:i+kk=n+1:=by omega
   rw [hsum] at hap
   obtain ⟨C2,hC2⟩:∃ C2,C2=grownCap W (n+1) c 24:=⟨_,rfl⟩
   have hC2n:n+1≤C2:=by rw [hC2];exact grownCap_ge _ _ _ _
   have hC2m:C2≤maxLen:=by rw [hC2];exact grownCap_le_maxLen _ _ _ _ (by unfold maxLen;omega)
   rw [← hC2] at hap
   obtain ⟨N0,hN0⟩:∃ N0:Array Value,N0=((Rw.flat xs).take (i*4)).toArray++Builtin.zeroCells (Value.agg #[(.int .i64 0),(.int .i64 0),(.int .i64 0),(.bool false)]).cells kk++Builtin.zeroCells (Value.agg #[(.int .i64 0),(.int .i64 0),(.int .i64 0),(.bool false)]).cells (C2 - (n+1)):=⟨_,rfl⟩
   rw [← hN0] at hap
   have hN0s:N0.size=C2*4:=by rw [hN0,Array.size_append,Array.size_append,List.size_toArray,hol,Rw.zero_len,Rw.zero_len];omega
   have hN0l:N0.toList.length=C2*4:=by rw [Array.length_toList,hN0s]
   have hN0t:N0.toList.take (i*4)=(Rw.flat xs).take (i*4):=by
    rw [hN0,Array.toList_append,Array.toList_append,List.toList_toArray,List.append_assoc,List.take_append_of_le_length (by rw [hol];exact Nat.le_refl _),List.take_of_length_le (by rw [hol];exact Nat.le_refl _)]
   have hb0:(W.alloc (.cells N0 24)).drew.heap[W.heap.size]? = some (.cells N0 24 (0,0)):=blk_drew (blk_new W _)
   have hl2:(Rw.cells2 p).length=4:=rfl
   obtain ⟨N1,hN1⟩:∃ N1:Array Value,N1=(N0.toList.take (i*4)++Rw.cells2 p++N0.toList.drop (i*4+(Rw.cells2 p).length)).toArray:=⟨_,rfl⟩
   have hN1s:N1.size=C2*4:=by rw [hN1];simp only [List.size_toArray,List.length_append,List.length_take,List.length_drop,hN0l,hl2];omega
   have hN1l:N1.toList.length=C2*4:=by rw [Array.length_toList,hN1s]
   have hr1:=Rw.run_copy_cells (P:=Try.prog) (W.alloc (.cells N0 24)).drew 22 22 3 24 W.heap.size (i*4) (n+1 - i) (C2 - i) ⟨vb,0,none⟩ 1 1 N0 24 (Rw.cells2 p) 1 4 Try.underlying22 (by kernel_rfl) hb0 (by show 1=min _ _;omega) rfl (fun j u hj=>by
     rw [hadd,Nat.zero_add,blk_cell (blk_drew (blk_alloc hV _))]
     simpa [Rw.cells2] using hj) (by rw [hN0s,hl2];omega) hpl1
   rw [← hN1] at hr1
   obtain ⟨N2,hN2⟩:∃ N2:Array Value,N2=(N1.toList.take ((i+1)*4)++flat2 xs i++N1.toList.drop ((i+1)*4+(flat2 xs i).length)).toArray:=⟨_,rfl⟩
   have hN2s:N2.size=C2*4:=by rw [hN2];simp only [List.size_toArray,List.length_append,List.length_take,List.length_drop,hN1l,hXl];omega
   have hgne:g≠W.heap.size:=by omega
   have hb1:((W.alloc (.cells N0 24)).drew.setRow W.heap.size N1).heap[W.heap.size]? = some (.cells N1 24 (0,0)):=setRow_heap _ _ N0 _ 24 (0,0) hb0
   have hg1:((W.alloc (.cells N0 24)).drew.setRow W.heap.size N1).heap[g]? = some (.cells cur 24 (0,0)):=by
    rw [setRow_other _ _ _ _ hgne];exact blk_drew (blk_alloc hg _)
   have hr2:=Rw.run_copy_cells (P:=Try.prog) ((W.alloc (.cells N0 24)).drew.setRow W.heap.size N1).drew 22 22 3 24 W.heap.size ((i+1)*4) (n - i) (C2 - (i+1)) ⟨g,i*4,none⟩ (n - i) (c - i) N1 24 (flat2 xs i) (n - i) 4 Try.underlying22 (by kernel_rfl) (blk_drew hb1) (by show n - i=min _ _;omega) hXl (fun j u hj=>by
     rw [hadd,blk_cell (blk_drew hg1),← blk_cell hg]
     exact hcells j u hj) (by rw [hN1s,hXl];omega) hfl1
   rw [← hN2] at hr2
   have e1:N1.toList.take ((i+1)*4)=(Rw.flat xs).take (i*4)++Rw.cells2 p:=by
    have hl3:((Rw.flat xs).take (i*4)++Rw.cells2 p).length=(i+1)*4:=by rw [List.length_append,hol,hl2];omega
    rw [hN1,List.toList_toArray,hN0t,← hl3,List.take_left]
   have hNew:N2.toList.take ((n+1)*4)=Rw.flat (xs.take i++p::xs.drop i):=by
    have hln:((Rw.flat xs).take (i*4)++Rw.cells2 p++flat2 xs i).length=(n+1)*4:=by
     rw [List.length_append,List.length_append,hol,hXl,hl2];omega
    rw [hN2,List.toList_toArray,e1,hfin,← hln,List.take_left]
   have HFR:=am (Rw.flat_R (w:=((W.alloc (.cells N0 24)).drew.setRow W.heap.size N1).drew.setRow W.heap.size N2) (base:=base) (ok:=fun _=>True) (v:=.slice (some ⟨W.heap.size,0,none⟩) (n+1) C2) (xs:=xs.take i++p::xs.drop i) ⟨Rw.flat_len _,.inr ⟨W.heap.size,C2,N2,by rw [hflen],hbase,setRow_heap _ _ N1 _ 24 (0,0) (blk_drew hb1),by rw [hflen];exact hC2n,hC2m,hN2s,by rw [hflen];exact hNew⟩⟩ (fun _ _=>trivial))
   have HBE:=am (Rw.below_turn (below_drew1 (Rw.below_turn (below_drew1 ((Below.refl base W).alloc hbase (.cells N0 24))) hbase N1)) hbase N2)
   have hcb:decide ((c:Int) < (n:Int)+1)=true:=decide_eq_true (by omega)
   have hci2:¬ (C2=i):=by omega
   have hci3:¬ (C2=i+1):=by omega
   have hic:i≤c:=by omega
   have g3:(0:Int)≤(i:Int)+1:=by omega
   have g4:((i:Int)+1).toNat=i+1:=by omega
   have g5:(i:Int)+1≤(n:Int)+1:=by omega
   have g6:i≤n+1:=by omega
   have g12:(i:Int)≤(n:Int)+1:=by omega
   have g8:=HW1.out
   have g9:=HW3.out
   have g13':wrap64 ((n:Int)+1 - (i:Int))=(kk:Int):=by rw [hkk];exact HW4.out
   have G13:=am g13'
   clear g13'
   have G11:=am hr2
   have HAP:=am hap
   clear hap hr2 e1 hNew hN0 hN1 hN2 hN0s hN1s hN2s hN0l hN1l hN0t hb0 hb1 hg1 hgne hl2 hcap hfin hflen hXl hfl1 hpl1 hadd hcells hcl hcs htk hg hV hO hne hl hlt hp0 hi hn hin hnc hglt hvlt hgv hbg hC2 hC2n hC2m hsum hkk hol hocell hi0 hz3
   go_enter Try.func42,Try.ntmps42
   go_wp2_with ((with_reducible refine gate_builtin (b:=.append) (xs:=#[.tmp 34,.tmp 39]) rfl ?_);at_builtin;refine Rw.append_ev W rfl (.tmp 34) (.tmp 39) 22 3 rfl (.slice (some ⟨g,0,none⟩) i c) (.int .i64 (kk:Int)) rfl (congrArg (Value.int .i64) G13.out) HAP.out ?_)
   refine start_ (n:=9) (S:=fun w'=>True) (ds:=[]) _ (by kernel_rfl) rfl rfl trivial (fun hHeld=>?_)
   refine pK 0 46 ?_;refine pK 1 47 ?_;refine pK 2 48 ?_;refine pK 3 49 ?_;refine pK 4 50 ?_;refine pK 5 51 ?_;refine pK 6 52 ?_;refine pK 7 53 ?_
   refine oK 8 (some 54) (fun K hK=>?_)
   refine Rw.copy_step ((W.alloc (.cells N0 24)).drew.setRow W.heap.size N1).drew (by rfl) (.tmp 50) (.tmp 53) 22 22 rfl (.slice (some ⟨W.heap.size,(i+1)*4,none⟩) (n - i) (C2 - (i+1))) (.slice (some ⟨g,i*4,none⟩) (n - i) (c - i)) rfl rfl (v':=goInt ((n - i:Nat):Int)) (w':=((W.alloc (.cells N0 24)).drew.setRow W.heap.size N1).drew.setRow W.heap.size N2) G11.out ?_
   refine hK.out _ _ trivial (fun hHeld=>?_)
   clear hK K;refine norm_ (a':=?_) ?_ ?_;rotate_left
   ·show Act.put _ (some 54) _=_
    simp only [Act.put,sIb,sC0,sCs,i64_w,i32_w];rfl
   refine done_ (by kernel_rfl) ?_
   go_wp2;go_ret
   exact ⟨_,rfl,HFR.out,HBE.out⟩
  ·have hcap':n+1≤c:=by omega
   obtain ⟨N1,hN1⟩:∃ N1:Array Value,N1=(cur.toList.take ((i+1)*4)++flat2 xs i++cur.toList.drop ((i+1)*4+(flat2 xs i).length)).toArray:=⟨_,rfl⟩
   have hN1s:N1.size=cur.size:=by rw [hN1];simp only [List.size_toArray,List.length_append,List.length_take,List.length_drop,hXl,hcl,hcs];omega
   have hN1l:N1.toList.length=c*4:=by rw [Array.length_toList,hN1s,hcs]
   have hr1:∀ W2:World,W2.heap=W.heap→∀ c1 c2,(Builtin.copy_ #[22,22] 3 #[.slice (some ⟨g,(i+1)*4,none⟩) (n - i) c1,.slice (some ⟨g,i*4,none⟩) (n+1 - i) c2]).run Try.prog W2=.ok (goInt ((n - i:Nat):Int)) (W2.setRow g N1):=by
    intro W2 hW2 c1 c2
    have h:=Rw.run_copy_cells (P:=Try.prog) W2 22 22 3 24 g ((i+1)*4) (n - i) c1 ⟨g,i*4,none⟩ (n+1 - i) c2 cur 24 (flat2 xs i) (n - i) 4 Try.underlying22 (by kernel_rfl) (by rw [hW2];exact hg) (by show n - i=min _ _;omega) hXl (fun j u hj=>by
     rw [hadd]
     have:=hcells j u hj
     unfold World.cell? at this ⊢
     rw [hW2];exact this) (by rw [hXl,hcs];omega) hfl1
    rw [← hN1] at h
    exact h
   obtain ⟨N2,hN2⟩:∃ N2:Array Value,N2=(N1.toList.take (i*4)++Rw.cells2 p++N1.toList.drop (i*4+(Rw.cells2 p).length)).toArray:=⟨_,rfl⟩
   have hN2s:N2.size=cur.size:=by rw [hN2];simp only [List.size_toArray,List.length_append,List.length_take,List.length_drop,hN1l,hcs];simp only [Rw.cells2,List.length_cons,List.length_nil];omega
   have hr2:∀ W2:World,W2.heap=W.heap→∀ c1,(Builtin.copy_ #[22,22] 3 #[.slice (some ⟨g,i*4,none⟩) (n+1 - i) c1,.slice (some ⟨vb,0,none⟩) 1 1]).run Try.prog (W2.setRow g N1)=.ok (goInt 1) ((W2.setRow g N1).setRow g N2):=by
    intro W2 hW2 c1
    have h:=Rw.run_copy_cells (P:=Try.prog) (W2.setRow g N1) 22 22 3 24 g (i*4) (n+1 - i) c1 ⟨vb,0,none⟩ 1 1 N1 24 (Rw.cells2 p) 1 4 Try.underlying22 (by kernel_rfl) (setRow_heap _ _ cur _ 24 (0,0) (by rw [hW2];exact hg)) (by show 1=min _ _;omega) rfl (fun j u hj=>by
     rw [hadd]
     have hv2:(W2.setRow g N1).heap[vb]? = some (.cells #[.int .i64 p.f0,.int .i64 p.f1,.int .i64 p.f2,.bool p.f3] 24 (0,0)):=by rw [setRow_other _ _ _ _ (fun e=>hgv e.symm),hW2];exact hV
     rw [Nat.zero_add,blk_cell hv2]
     simpa [Rw.cells2] using hj) (by rw [hN1s,hcs];simp only [Rw.cells2,List.length_cons,List.length_nil];omega) hpl1
    rw [← hN2] at h
    exact h
   have e1:N1.toList.take (i*4)=(Rw.flat xs).take (i*4):=by
    rw [hN1,List.toList_toArray,List.append_assoc,List.take_append_of_le_length (by rw [List.length_take,hcl];omega),List.take_take,Nat.min_eq_left (by omega),← htk,List.take_take,Nat.min_eq_left (by omega)]
   have e2:N1.toList.drop (i*4+4)=flat2 xs i++cur.toList.drop ((i+1)*4+(flat2 xs i).length):=by
    have hl2:(cur.toList.take ((i+1)*4)).length=i*4+4:=by rw [List.length_take,hcl];omega
    rw [hN1,List.toList_toArray,List.append_assoc,← hl2,List.drop_left]
   have hNew:N2.toList.take ((n+1)*4)=Rw.flat (xs.take i++p::xs.drop i):=by
    have hln:((Rw.flat xs).take (i*4)++Rw.cells2 p++flat2 xs i).length=(n+1)*4:=by
     rw [List.length_append,List.length_append,List.length_take,Rw.flat_len,hXl,hn,show (Rw.cells2 p).length=4 from rfl];omega
    rw [hN2,List.toList_toArray,e1,show (Rw.cells2 p).length=4 from rfl,e2,← List.append_assoc,hfin,← hln,List.take_left]
   have hov:∀ lb cb,(callFunc 70 #[.slice (some ⟨vb,0,none⟩) 1 1,.slice (some ⟨g,(i+1)*4,none⟩) lb cb]).run Try.prog W=.ok (.value (.bool false)) W:=fun lb cb=>by
    rw [run_callFunc_extern Try.func70 (by kernel_rfl) (by kernel_rfl) (by kernel_rfl) (e:=Extern.SlicesOverlaps.overlaps #[22,22] #[4]) (by kernel_rfl),
     Lib.run_overlaps_apart W 22 4 24 Try.underlying22 4 Try.sizeOf24 ⟨vb,0,none⟩ ⟨g,(i+1)*4,none⟩ 1 1 lb cb (fun e=>hgv e.symm) 24 24 4 cur.size (by simp [World.shape?,hV]) (by simp [World.shape?,hg]) (by rw [hcs];omega) (blk_frozen hV 0) (blk_frozen hV 4)]
    rfl
   have HFR:=am (Rw.flat_R (w:=(W.drew.setRow g N1).setRow g N2) (base:=base) (ok:=fun _=>True) (v:=.slice (some ⟨g,0,none⟩) (n+1) c) (xs:=xs.take i++p::xs.drop i) ⟨Rw.flat_len _,.inr ⟨g,c,N2,by rw [hflen],hbg,setRow_heap _ _ N1 _ 24 (0,0) (setRow_heap _ _ cur _ 24 (0,0) hg),by rw [hflen];exact hcap',HCM.out,by rw [hN2s,hcs],by rw [hflen];exact hNew⟩⟩ (fun _ _=>trivial))
   have HBE:=am (Rw.below_turn (Rw.below_turn (below_drew1 (Below.refl base W)) hbg N1) hbg N2)
   have hcb:decide ((c:Int) < (n:Int)+1)=false:=decide_eq_false (by omega)
   have hci1:¬ (c=i+1):=by omega
   have g1:(0:Int)≤(n:Int)+1:=by omega
   have g2:((n:Int)+1).toNat=n+1:=by omega
   have g3:(0:Int)≤(i:Int)+1:=by omega
   have g4:((i:Int)+1).toNat=i+1:=by omega
   have g5:(i:Int)+1≤(n:Int)+1:=by omega
   have g6:i≤n+1:=by omega
   have g12:(i:Int)≤(n:Int)+1:=by omega
   have g7:(n:Int)+1≤(c:Int):=by omega
   have g8:=HW1.out
   have g9:=HW3.out
   have g10:=hr1 W.drew rfl
   have g11:=hr2 W.drew rfl
   clear e1 e2 hNew hN1 hN2 hN1s hN2s hN1l hr1 hr2 hcap hfin hflen hXl hfl1 hpl1 hadd hcells hcl hcs htk hg hV hO hne hl hlt hp0 hi hn hin hnc hglt hvlt hgv hbg
   go_enter Try.func42,Try.ntmps42
   go_wp2
   have G10:=am g10
   have G11:=am g11
   clear g10 g11
   refine start_ (n:=9) (S:=fun w'=>True) (ds:=[]) _ (by kernel_rfl) rfl rfl trivial (fun hHeld=>?_)
   refine pK 0 69 ?_;refine pK 1 70 ?_;refine pK 2 71 ?_;refine pK 3 72 ?_;refine pK 4 73 ?_;refine pK 5 74 ?_;refine pK 6 75 ?_;refine pK 7 76 ?_
   refine oK 8 (some 77) (fun K hK=>?_)
   refine Rw.copy_step W.drew (by rfl) (.tmp 73) (.tmp 76) 22 22 rfl (.slice (some ⟨g,(i+1)*4,none⟩) (n - i) (c - (i+1))) (.slice (some ⟨g,i*4,none⟩) (n+1 - i) (c - i)) rfl rfl (v':=goInt ((n - i:Nat):Int)) (w':=W.drew.setRow g N1) (G10.out _ _) ?_
   refine hK.out _ _ trivial (fun hHeld=>?_)
   clear hK K;refine norm_ (a':=?_) ?_ ?_;rotate_left
   ·show Act.put _ (some 77) _=_
    simp only [Act.put,sIb,sC0,sCs,i64_w,i32_w];rfl
   refine done_ (by kernel_rfl) ?_
   have g11:=G11.out
   go_wp2;go_ret
   exact ⟨_,rfl,HFR.out,HBE.out⟩
theorem eqIn_nil {P:Program} (w:World) (d:Nat) (t e:TypeId) (a:Option Addr) (n c n' c':Nat) (h:P.underlying t=some (.slice e)):(Op.equalIn (d+1) t (.slice a n c) (.slice none n' c')).run P w=.ok a.isNone w:=by
 cases a<;>simp [Op.equalIn,run_underlying h]
theorem eql_nil {P:Program} (w:World) (t e:TypeId) (a:Option Addr) (n c n' c':Nat) (h:P.underlying t=some (.slice e)):(binOp .eql t (.slice a n c) (.slice none n' c')).run P w=.ok (.bool a.isNone) w:=by
 simp only [binOp]
 simp [Op.equal,Op.maxDepth,eqIn_nil w 9999 t e a n c n' c' h]
def api_Extent_43.f (l0:List S24):Option (List S24):=if l0.length < 4398046511104 then some l0 else none
set_option maxHeartbeats 8000000 in
set_option maxRecDepth 100000 in
theorem api_Extent_43.calls (A0:Option Addr) (c0:Nat) (l0:List (S24)) (r:List (S24)) (w:World) (hr0:Kd.C k24 w A0 l0.length l0) (hc0:l0.length≤c0) (h:api_Extent_43.f l0=some r) :
  Calls Try.prog 43 #[.slice A0 l0.length c0] w fun e w'=>∃ v0_:Value,e=.returned (v0_)∧Kd.R k24 24 w' w.heap.size (fun _=>True) v0_ r∧Below w.heap.size w w':=by
 unfold api_Extent_43.f at h
 by_cases hl:l0.length < 4398046511104
 ·rw [if_pos hl] at h
  obtain rfl:=Option.some.inj h
  have hu26:=Try.underlying24
  cases A0 with
  | none =>
   obtain rfl:l0=[]:=by
    rcases Nat.eq_zero_or_pos l0.length with h0|h0
    ·exact List.eq_nil_of_length_eq_zero h0
    ·obtain ⟨ad,e,_⟩:=hr0.2.2 h0
     cases e
   clear hr0
   have hq:=fun W:World=>eql_nil (P:=Try.prog) W 22 24 none 0 c0 0 0 Try.underlying22
   simp only [Option.isNone_none] at hq
   go_enter Try.func43,Try.ntmps43
   go_wp2;go_ret
   exact ⟨_,rfl,Kd.R_nil _ _ _ _ _,Below.refl _ _⟩
  | some ad =>
   have HR0:=am hr0
   have HC0:=am hc0
   have HL:=am hl
   clear hr0 hc0 hl h
   have hq:=fun W:World=>eql_nil (P:=Try.prog) W 22 24 (some ad) l0.length c0 0 0 Try.underlying22
   simp only [Option.isNone_some] at hq
   go_enter Try.func43,Try.ntmps43
   go_wp2_with (first|((with_reducible refine gate_builtin (b:=.append) (xs:=#[.tmp 5,.tmp 6]) rfl ?_);at_builtin;refine Kd.R_append_rows k24 (w0:=w) w.heap.size rfl (.tmp 5) (.tmp 6) 22 24 (.agg #[(.int .i64 0),(.int .i64 0),(.int .i64 0),(.bool false)]) 32 rfl Try.underlying22 info24 rfl (by decide) (by omega) v1 [] l0 _ _ _ (fun _=>True) (fun _=>False) rfl rfl ho1.out (Kd.C_below HR0.out hb1.out) (fun _ _ h=>h) (fun _ h=>h.elim) (fun _ _=>trivial) hb1.out hb1.out.size (by have:=HL.out;simp only [List.length_nil];omega) ?_;intro v2 w2 ho2 hb2 hg2 hat2;rw [List.nil_append] at ho2;have HO2:=am ho2;have HB2:=am hb2;clear ho2 hb2 hg2 hat2)|((with_reducible refine gate_dst (N:=5) rfl ?_);refine Kd.R_lit k24 (w0:=w) _ 24 ?hg (N:=5) ?hd (xs:=([]:List S24)) (inner:=[]) (ok:=fun _=>True) (okp:=fun _=>True) ?hr ?hp (fun _ hk=>hk) trivial (Below.refl _ _) (Nat.le_refl _) (by simp) ?_;(case hd=>rfl);(case hg=>rfl);(case hr=>first|(go_simp;done)|(go_simp;rfl));(case hp=>exact (Reps.none _ _));intro v1 w1 ho1' hb1' hg1 hn1;have ho1:=am ho1';have hb1:=am hb1';clear ho1' hb1' hg1 hn1))
   go_ret
   exact ⟨_,rfl,HO2.out,HB2.out⟩
 ·rw [if_neg hl] at h
  cases h
def extent_Put.f (k:Nat) (l0:List S24) (a1_0 a1_1 a1_2:Int) (a1_3:Bool):Option (List S24×Int):=(extent_Check.f k l0).bind fun t=>(if t=0 then ((extent_may.f a1_0 a1_1 a1_2 a1_3).bind fun q=>(if q=true then (if (okB l0=true∧apartL l0=true)∧mayE ⟨a1_0,a1_1,a1_2,a1_3⟩=true then some (putR l0 ⟨a1_0,a1_1,a1_2,a1_3⟩) else none) else some ([],1))) else some ([],1))
theorem putOwn_lt {w:World} {base:Nat} {ok:Nat→Prop} {v:Value} {xs:List S24} (h:Kd.R k24 24 w base ok v xs):∀ g,v.ownBlock=some g→g < w.heap.size:=by
 intro g hg
 rcases (Rw.R_flat h).2 with ⟨rfl,_⟩|⟨g',c',cur',rfl,_,hh,_⟩
 ·cases hg
 ·injection hg with hg
  subst hg
  exact blk_lt hh
set_option maxHeartbeats 8000000 in
set_option maxRecDepth 100000 in
theorem extent_Put.calls (k:Nat) (A0:Option Addr) (c0:Nat) (l0:List (S24)) (a1_0:Int) (a1_1:Int) (a1_2:Int) (a1_3:Bool) (r1:List (S24)) (r2:Int) (w:World) (hr0:Kd.C k24 w A0 l0.length l0) (hc0:l0.length≤c0) (h:extent_Put.f k l0 a1_0 a1_1 a1_2 a1_3=some (r1,r2)) :
  Calls Try.prog 14 #[.slice A0 l0.length c0,.agg #[.int .i64 a1_0,.int .i64 a1_1,.int .i64 a1_2,.bool a1_3]] w fun e w'=>∃ v0_:Value,e=.returned (.tuple #[v0_,.int .i64 r2])∧Kd.R k24 24 w' w.heap.size (fun _=>True) v0_ r1∧Below w.heap.size w w':=by
 unfold extent_Put.f at h
 obtain ⟨t,ht,h⟩:=Option.bind_eq_some_iff.1 h
 have hu24:=Try.underlying24
 have HR0:=am hr0
 have HC0:=am hc0
 have HT:=am ht
 have HBA:=am ((Below.refl w.heap.size w).alloc (Nat.le_refl _) (.cells #[.int .i64 a1_0,.int .i64 a1_1,.int .i64 a1_2,.bool a1_3] 24))
 clear hr0 hc0 ht
 by_cases h0:t=0
 ·subst h0
  rw [if_pos rfl] at h
  obtain ⟨q,hq,h⟩:=Option.bind_eq_some_iff.1 h
  have HQ:=am hq
  clear hq
  by_cases hqt:q=true
  ·subst hqt
   rw [if_pos rfl] at h
   by_cases hok:(okB l0=true∧apartL l0=true)∧mayE ⟨a1_0,a1_1,a1_2,a1_3⟩=true
   ·rw [if_pos hok] at h
    have HOK:=am (okB_facts hok.1.1)
    have HAP:=am hok.1.2
    obtain ⟨e,he⟩:∃ e:S24,(⟨a1_0,a1_1,a1_2,a1_3⟩:S24)=e:=⟨_,rfl⟩
    rw [he] at h hok
    have HME:=am hok.2
    have hm:=mayE_facts hok.2
    have HM:=am (show putR l0 e=(r1,r2) from Option.some.inj h)
    have e0:a1_0=e.f0:=by rw [← he]
    have e1:a1_1=e.f1:=by rw [← he]
    have e2:a1_2=e.f2:=by rw [← he]
    have e3:a1_3=e.f3:=by rw [← he]
    rw [e0,e1,e2,e3] at HBA ⊢
    rw [e0,e1,e2,e3] at HQ
    clear h hok he e0 e1 e2 e3
    obtain ⟨i,hi⟩:∃ i,behindN l0 e.f0=i:=⟨_,rfl⟩
    have hile:=behindN_le l0 e.f0
    rw [hi] at hile
    have HI:=am hi
    have HIL:=am hile
    have HBC:=am (fun W hr=>behind_calls A0 c0 l0 e.f0 W hr HC0.out HOK.out)
    rw [hi] at HBC
    have HCL:=am (show api_Extent_43.f l0=some l0 by unfold api_Extent_43.f;rw [if_pos (by have:=HOK.out.1;omega)])
    have HINS:=am (show l0.take i++e::l0.drop i=insE l0 e by unfold insE;rw [hi])
    obtain ⟨t,ht⟩:∃ t,e.f0+e.f2=t:=⟨_,rfl⟩
    have HEND:=am (show extent_end.f e.f0 e.f1 e.f2 e.f3=some t by unfold extent_end.f;congr 1;unfold wrap64;omega)
    have HTT:=am ht
    obtain ⟨ap,hap⟩:∃ ap,apartL (insE l0 e)=ap:=⟨_,rfl⟩
    have HAPF:=am (show extent_apart.f (insE l0 e)=some ap by
     unfold extent_apart.f
     rw [if_pos ⟨List.all_eq_true.2 fun y hy=>mayE_D (ins_may (List.all_eq_true.1 HOK.out.2.1) HME.out y hy),by rw [insE_len];have:=HOK.out.1;omega⟩,hap])
    have HAPV:=am hap
    have HMG:=am (merged_f (insE l0 e) (by rw [insE_len];have:=HOK.out.1;omega) ((insE l0 e).length+1) (Nat.lt_succ_self _))
    clear hm hi hile ht hap
    go_enter Try.func14,Try.ntmps14
    go_wp2_with (first|(go_at_call 41;refine (HBC.out _ (Kd.C_below HR0.out HB2.out)).mono ?_;rintro e3 w3 ⟨rfl,hb3⟩;have HBK3:=am (blk_below HBK2.out hb3);have hc30:=kc HBK3 0;have hc31:=kc HBK3 1;have hc32:=kc HBK3 2;have hc33:=kc HBK3 3;have HB3:=am (HB2.out.trans (hb3.mono HB2.out.size));clear hb3)|(go_at_call 34;refine (extent_may.calls e.f0 e.f1 e.f2 e.f3 true _ HQ.out).mono ?_;rintro e2 w2 ⟨rfl,hb2⟩;have HBK2:=am (blk_below HBK1.out hb2);have hc20:=kc HBK2 0;have HB2:=am (HB1.out.trans (hb2.mono HB1.out.size));clear hb2)|(go_at_call 12;refine (extent_Check.calls k A0 c0 l0 0 _ (Kd.C_alloc HR0.out _) HC0.out HT.out).mono ?_;rintro e1 w1 ⟨rfl,hb1⟩;have HBK1:=am (blk_below (blk_new w _) hb1);have hc10:=kc HBK1 0;have hc11:=kc HBK1 1;have hc12:=kc HBK1 2;have hc13:=kc HBK1 3;have HB1:=am (HBA.out.trans (hb1.mono HBA.out.size));clear hb1))
    have HR3:=am (Kd.C_below HR0.out HB3.out)
    have HS3:=am (show w.heap.size+1≤w3.heap.size from blk_lt HBK3.out)
    have HCE:=am (show (Below w3.heap.size w3 (w3.alloc (.cells #[.int .i64 e.f0,.int .i64 e.f1,.int .i64 e.f2,.bool e.f3] 24)).drew) from below_drew1 ((Below.refl w3.heap.size w3).alloc (Nat.le_refl _) _))
    refine start_ (n:=7) (S:=fun w'=>w'.cell? ⟨w.heap.size,0,none⟩=some (.int .i64 e.f0)∧w'.cell? ⟨w.heap.size,1,none⟩=some (.int .i64 e.f1)∧w'.cell? ⟨w.heap.size,2,none⟩=some (.int .i64 e.f2)∧w'.cell? ⟨w.heap.size,3,none⟩=some (.bool e.f3)) (ds:=[]) _ (by kernel_rfl) rfl rfl ⟨hc30,hc31,hc32,hc33⟩ (fun hHeld=>?_)
    refine pK 0 20 ?_;refine pK 2 22 ?_;refine tK 3 23 hHeld ?_ (hy:=by rintro w' ⟨s0,s1,s2,s3⟩;go_simp;with_reducible rfl)
    refine join_ (σ:=Value×Nat) 2 #[true,true,true,true,true,false,false] (fun s_=>[(21,s_.1),(24,.slice (some ⟨s_.2,0,none⟩) 1 1)]) (fun s_ w'=>(w'.cell? ⟨w.heap.size,0,none⟩=some (.int .i64 e.f0)∧w'.cell? ⟨w.heap.size,1,none⟩=some (.int .i64 e.f1)∧w'.cell? ⟨w.heap.size,2,none⟩=some (.int .i64 e.f2)∧w'.cell? ⟨w.heap.size,3,none⟩=some (.bool e.f3))∧Kd.R k24 24 w' (w.heap.size+1) (fun _=>True) s_.1 l0∧w'.heap[s_.2]? = some (.cells #[.int .i64 e.f0,.int .i64 e.f1,.int .i64 e.f2,.bool e.f3] 24 (0,0))∧(∀ g,s_.1.ownBlock=some g→g≠s_.2)∧Below w.heap.size w w') ?_ ?_
    rotate_left
    ·intro hCont
     refine two_ (i:=1) (j:=4) (Ni:=some 21) (Nj:=some 24) #[true,true,true,true,false,false,false] #[true,false,true,true,true,false,false] rfl rfl rfl rfl (by kernel_rfl) (by decide) (by decide) (fun K hK=>?_) (fun K hK=>?_)
     ·skip
      refine gS Try.func43 #[.slice A0 l0.length c0] ?_
      with_reducible refine (api_Extent_43.calls A0 c0 l0 l0 _ (Kd.C_drew HR3.out) HC0.out HCL.out).mono ?_
      rintro e4 w4 ⟨v4,rfl,ho4,hb4⟩
      refine ⟨_,rfl,?_⟩
      have hO4:Kd.R k24 24 w4 (w.heap.size+1) (fun _=>True) v4 l0:=Kd.R_lower ho4 HS3.out
      have hB4:Below w.heap.size w w4:=(below_drew1 HB3.out).trans (hb4.mono (Nat.le_of_lt HS3.out))
      refine hK.out _ _ ⟨(hb4.cell (World.block_lt_of_cell? _ _ hHeld.1)).trans hHeld.1,(hb4.cell (World.block_lt_of_cell? _ _ hHeld.2.1)).trans hHeld.2.1,(hb4.cell (World.block_lt_of_cell? _ _ hHeld.2.2.1)).trans hHeld.2.2.1,(hb4.cell (World.block_lt_of_cell? _ _ hHeld.2.2.2)).trans hHeld.2.2.2⟩ (fun hHeld=>?_)
      clear hK K;refine norm_ (a':=?_) ?_ ?_;rotate_left
      ·show Act.put _ (some 21) _=_
       simp only [Act.put,sIb,sC0,sCs,i64_w,i32_w];rfl
      refine oK 4 (some 24) (fun K hK=>?_)
      refine value_ (w1:=?_) (v:=?_) (by rfl) rfl ?_ ?_
      rotate_left 2
      ·go_simp
       constructor;(rfl);(rfl)
      have hO5:=Kd.R_alloc hO4 (.cells #[.int .i64 e.f0,.int .i64 e.f1,.int .i64 e.f2,.bool e.f3] 24)
      have hB5:=hB4.alloc hB4.size (.cells #[.int .i64 e.f0,.int .i64 e.f1,.int .i64 e.f2,.bool e.f3] 24)
      have hN5:∀ g,v4.ownBlock=some g→g≠w4.heap.size:=fun g hg=>Nat.ne_of_lt (putOwn_lt hO4 g hg)
      have hV5:=blk_new w4 (.cells #[.int .i64 e.f0,.int .i64 e.f1,.int .i64 e.f2,.bool e.f3] 24)
      refine hK.out _ _ ⟨(World.cell?_alloc_lt _ _ _ (World.block_lt_of_cell? _ _ hHeld.1)).trans hHeld.1,(World.cell?_alloc_lt _ _ _ (World.block_lt_of_cell? _ _ hHeld.2.1)).trans hHeld.2.1,(World.cell?_alloc_lt _ _ _ (World.block_lt_of_cell? _ _ hHeld.2.2.1)).trans hHeld.2.2.1,(World.cell?_alloc_lt _ _ _ (World.block_lt_of_cell? _ _ hHeld.2.2.2)).trans hHeld.2.2.2⟩ (fun hHeld=>?_)
      clear hK K;refine norm_ (a':=?_) ?_ ?_;rotate_left
      ·show Act.put _ (some 24) _=_
       simp only [Act.put,sIb,sC0,sCs,i64_w,i32_w];rfl
      exact norm_ (by simp only [putAll,Act.put,List.setIfInBounds_toArray,List.set_cons_zero,List.set_cons_succ]) (hCont (v4,w4.heap.size) _ ⟨hHeld,hO5,hV5,hN5,hB5⟩)
     ·skip
      refine value_ (w1:=?_) (v:=?_) (by rfl) rfl ?_ ?_
      rotate_left 2
      ·go_simp
       constructor;(rfl);(rfl)
      have hCV:=Kd.C_drew (Kd.C_alloc HR3.out (.cells #[.int .i64 e.f0,.int .i64 e.f1,.int .i64 e.f2,.bool e.f3] 24))
      have hBV:=below_drew1 (HB3.out.alloc HB3.out.size (.cells #[.int .i64 e.f0,.int .i64 e.f1,.int .i64 e.f2,.bool e.f3] 24))
      have hVV:=blk_drew (blk_new w3 (.cells #[.int .i64 e.f0,.int .i64 e.f1,.int .i64 e.f2,.bool e.f3] 24))
      refine hK.out _ _ ⟨(World.cell?_alloc_lt _ _ _ (World.block_lt_of_cell? _ _ hHeld.1)).trans hHeld.1,(World.cell?_alloc_lt _ _ _ (World.block_lt_of_cell? _ _ hHeld.2.1)).trans hHeld.2.1,(World.cell?_alloc_lt _ _ _ (World.block_lt_of_cell? _ _ hHeld.2.2.1)).trans hHeld.2.2.1,(World.cell?_alloc_lt _ _ _ (World.block_lt_of_cell? _ _ hHeld.2.2.2)).trans hHeld.2.2.2⟩ (fun hHeld=>?_)
      clear hK K;refine norm_ (a':=?_) ?_ ?_;rotate_left
      ·show Act.put _ (some 24) _=_
       simp only [Act.put,sIb,sC0,sCs,i64_w,i32_w];rfl
      refine oK 1 (some 21) (fun K hK=>?_)
      refine gS Try.func43 #[.slice A0 l0.length c0] ?_
      with_reducible refine (api_Extent_43.calls A0 c0 l0 l0 _ hCV HC0.out HCL.out).mono ?_
      rintro e4 w4 ⟨v4,rfl,ho4,hb4⟩
      refine ⟨_,rfl,?_⟩
      have hO5:Kd.R k24 24 w4 (w.heap.size+1) (fun _=>True) v4 l0:=Kd.R_lower ho4 (Nat.le_trans HS3.out HCE.out.size)
      have hV5:=blk_below hVV hb4
      have hN5:∀ g,v4.ownBlock=some g→g≠w3.heap.size:=fun g hg=>Nat.ne_of_gt (Nat.lt_of_lt_of_le (blk_lt hVV) (Kd.R_base ho4 g hg))
      have hB5:=hBV.trans (hb4.mono (Nat.le_trans (Nat.le_of_lt HS3.out) HCE.out.size))
      refine hK.out _ _ ⟨(hb4.cell (World.block_lt_of_cell? _ _ hHeld.1)).trans hHeld.1,(hb4.cell (World.block_lt_of_cell? _ _ hHeld.2.1)).trans hHeld.2.1,(hb4.cell (World.block_lt_of_cell? _ _ hHeld.2.2.1)).trans hHeld.2.2.1,(hb4.cell (World.block_lt_of_cell? _ _ hHeld.2.2.2)).trans hHeld.2.2.2⟩ (fun hHeld=>?_)
      clear hK K;refine norm_ (a':=?_) ?_ ?_;rotate_left
      ·show Act.put _ (some 21) _=_
       simp only [Act.put,sIb,sC0,sCs,i64_w,i32_w];rfl
      exact norm_ (by simp only [putAll,Act.put,List.setIfInBounds_toArray,List.set_cons_zero,List.set_cons_succ]) (hCont (v4,w3.heap.size) _ ⟨hHeld,hO5,hV5,hN5,hB5⟩)
    rintro ⟨v4,vb⟩ w5 ⟨hHeld,hO5,hV5,hN5,hB5⟩
    have HO5:Aside0 (Kd.R k24 24 w5 (w.heap.size+1) (fun _=>True) v4 l0):=⟨hO5⟩
    have HV5:Aside0 (w5.heap[vb]? = some (.cells #[.int .i64 e.f0,.int .i64 e.f1,.int .i64 e.f2,.bool e.f3] 24 (0,0))):=⟨hV5⟩
    have HN5:Aside0 (∀ g,v4.ownBlock=some g→g≠vb):=⟨hN5⟩
    have HB5:=am hB5
    have HSZ5:Aside0 (w.heap.size+1≤w5.heap.size):=⟨World.block_lt_of_cell? _ _ hHeld.1⟩
    clear hO5 hV5 hN5 hB5;refine norm_ (a':=?_) ?_ ?_;rotate_left;(simp only [putAll,Act.put,List.setIfInBounds_toArray,List.set_cons_zero,List.set_cons_succ];rfl)
    refine oK 5 (some 25) (fun K hK=>?_)
    refine gS Try.func42 #[v4,.int .i64 (i:Int),.slice (some ⟨vb,0,none⟩) 1 1] ?_
    with_reducible refine (ins_calls w5 (w.heap.size+1) v4 l0 e vb i l0.length rfl HO5.out HV5.out HN5.out HSZ5.out HIL.out (by have:=HOK.out.1;omega)).mono ?_
    rintro e6 w6 ⟨v6,rfl,ho6,hb6⟩
    refine ⟨_,rfl,?_⟩
    refine hK.out _ _ ⟨(hb6.cell (Nat.lt_succ_self _)).trans hHeld.1,(hb6.cell (Nat.lt_succ_self _)).trans hHeld.2.1,(hb6.cell (Nat.lt_succ_self _)).trans hHeld.2.2.1,(hb6.cell (Nat.lt_succ_self _)).trans hHeld.2.2.2⟩ (fun hHeld=>?_)
    clear hK K;refine norm_ (a':=?_) ?_ ?_;rotate_left
    ·show Act.put _ (some 25) _=_
     simp only [Act.put,sIb,sC0,sCs,i64_w,i32_w];rfl
    refine pK 6 7 ?_
    refine done_ (by kernel_rfl) ?_
    rw [HINS.out] at ho6
    have HB6:=am (HB5.out.trans (hb6.mono (Nat.le_succ _)))
    obtain ⟨A6,c6,rfl,hc6,hr6⟩:=Kd.R_reads ho6
    have HR6:=am hr6
    have HC6:=am hc6
    have hx0:=hHeld.1
    have hx1:=hHeld.2.1
    have hx2:=hHeld.2.2.1
    have hx3:=hHeld.2.2.2
    clear ho6 hb6 hr6 hc6 hHeld
    by_cases hlt:∃ hi:i < l0.length,l0[i].f0 < t
    ·obtain ⟨hil,hlt⟩:=hlt
     have hilb:decide (i < l0.length)=true:=decide_eq_true hil
     have hi0:(0:Int)≤(i:Int):=by omega
     have hi1:(i:Int) < (l0.length:Int):=by omega
     obtain ⟨ad,ead,hca,hcb,hcc,hcd⟩:=at_T24 HR0.out (i:Int) hi0 hi1
     cases ead
     simp only [Int.toNat_natCast] at hca
     rw [rd_in hil] at hca
     replace hca:=hB HB6 hca
     have HR1:=am (show r1=[]∧r2=4 by
      have h1:=HI.out
      subst h1
      have h9:=HM.out
      unfold putR at h9
      rw [if_pos (no_room_file (List.all_eq_true.1 HOK.out.2.1) HOK.out.2.2 HME.out hil (by rw [HTT.out];exact hlt))] at h9
      obtain ⟨a,b⟩:=Prod.mk.inj h9
      exact ⟨a.symm,b.symm⟩)
     obtain ⟨z,hz⟩:∃ z,l0[i].f0=z:=⟨_,rfl⟩
     rw [hz] at hca hlt
     have hltb:decide (z < t)=true:=decide_eq_true hlt
     clear hcb hcc hcd hz hlt hil;go_wp2
     refine start_ (n:=19) (S:=fun w'=>w'.cell? ⟨w.heap.size,0,none⟩=some (.int .i64 e.f0)∧w'.cell? ⟨w.heap.size,1,none⟩=some (.int .i64 e.f1)∧w'.cell? ⟨w.heap.size,2,none⟩=some (.int .i64 e.f2)∧w'.cell? ⟨w.heap.size,3,none⟩=some (.bool e.f3)∧w'.cell? (ad.add (i*4))=some (.int .i64 z)) (ds:=[]) _ (by kernel_rfl) rfl rfl ⟨hx0,hx1,hx2,hx3,hca⟩ (fun hHeld=>?_)
     refine pK 0 26 ?_;refine pK 1 27 ?_;refine pK 2 28 ?_;refine pK 3 29 ?_;refine pK 4 30 ?_;refine pK 5 31 ?_;refine pK 6 32 ?_;refine pK 7 33 ?_;refine pK 8 34 ?_;refine tK 9 35 hHeld ?_ (hy:=by rintro w' ⟨s0,s1,s2,s3,s4⟩;go_simp;with_reducible rfl);refine tK 10 36 hHeld ?_ (hy:=by rintro w' ⟨s0,s1,s2,s3,s4⟩;go_simp;with_reducible rfl)
     refine oK 11 (some 37) (fun K hK=>?_)
     refine gS Try.func35 #[.agg #[.int .i64 e.f0,.int .i64 e.f1,.int .i64 e.f2,.bool e.f3]] ?_
     with_reducible refine (extent_end.calls e.f0 e.f1 e.f2 e.f3 t _ HEND.out).mono ?_
     rintro e7 w7 ⟨rfl,hb7⟩
     refine ⟨_,rfl,?_⟩
     have HB7:=am hb7
     refine hK.out _ _ ⟨(hb7.cell (World.block_lt_of_cell? _ _ hHeld.1)).trans hHeld.1,(hb7.cell (World.block_lt_of_cell? _ _ hHeld.2.1)).trans hHeld.2.1,(hb7.cell (World.block_lt_of_cell? _ _ hHeld.2.2.1)).trans hHeld.2.2.1,(hb7.cell (World.block_lt_of_cell? _ _ hHeld.2.2.2.1)).trans hHeld.2.2.2.1,(hb7.cell (World.block_lt_of_cell? _ _ hHeld.2.2.2.2)).trans hHeld.2.2.2.2⟩ (fun hHeld=>?_)
     clear hK K;refine norm_ (a':=?_) ?_ ?_;rotate_left
     ·show Act.put _ (some 37) _=_
      simp only [Act.put,sIb,sC0,sCs,i64_w,i32_w];rfl
     refine pK 12 38 ?_;refine pK 13 39 ?_;refine pK 14 40 ?_;refine uK 15 41 ?_;refine uK 16 42 ?_;refine uK 17 43 ?_;refine pK 18 44 ?_
     refine done_ (by kernel_rfl) ?_
     go_wp2
     go_ret2
     obtain ⟨rfl,rfl⟩:=HR1.out
     exact ⟨_,rfl,Kd.R_nil _ _ _ _ _,(below_drew1 HB6.out).trans (HB7.out.mono (below_drew1 HB6.out).size)⟩
    ·have HCL2:=am (show clash l0 e=!ap by
      have hF:=room_file (List.all_eq_true.1 HOK.out.2.1) HOK.out.2.2 HME.out (fun hi h=>hlt (by have h1:=HI.out;subst h1;exact ⟨hi,by rw [← HTT.out];exact h⟩))
      have hA:=apart_ins (e:=e) HAP.out
      rw [HAPV.out] at hA
      cases hap:ap
      ·rw [hap] at hA
       cases hc:clash l0 e
       ·exact absurd (hA.2 (clash_iff.1 hc).1) (by decide)
       (rfl)
      ·exact clash_iff.2 ⟨hA.1 hap,hF⟩)
     by_cases hil:i < l0.length
     case' pos =>
      have hilb:decide (i < l0.length)=true:=decide_eq_true hil
      have hi0:(0:Int)≤(i:Int):=by omega
      have hi1:(i:Int) < (l0.length:Int):=by omega
      obtain ⟨ad,ead,hca,hcb,hcc,hcd⟩:=at_T24 HR0.out (i:Int) hi0 hi1
      cases ead
      simp only [Int.toNat_natCast] at hca
      rw [rd_in hil] at hca
      replace hca:=hB HB6 hca
      obtain ⟨z,hz⟩:∃ z,l0[i].f0=z:=⟨_,rfl⟩
      rw [hz] at hca
      have hltb:decide (z < t)=false:=decide_eq_false (fun h=>hlt ⟨hil,by rw [hz];exact h⟩)
      clear hcb hcc hcd hz hlt hil;go_wp2
      refine start_ (n:=19) (S:=fun w'=>w'.cell? ⟨w.heap.size,0,none⟩=some (.int .i64 e.f0)∧w'.cell? ⟨w.heap.size,1,none⟩=some (.int .i64 e.f1)∧w'.cell? ⟨w.heap.size,2,none⟩=some (.int .i64 e.f2)∧w'.cell? ⟨w.heap.size,3,none⟩=some (.bool e.f3)∧w'.cell? (ad.add (i*4))=some (.int .i64 z)) (ds:=[]) _ (by kernel_rfl) rfl rfl ⟨hx0,hx1,hx2,hx3,hca⟩ (fun hHeld=>?_)
      refine pK 0 26 ?_;refine pK 1 27 ?_;refine pK 2 28 ?_;refine pK 3 29 ?_;refine pK 4 30 ?_;refine pK 5 31 ?_;refine pK 6 32 ?_;refine pK 7 33 ?_;refine pK 8 34 ?_;refine tK 9 35 hHeld ?_ (hy:=by rintro w' ⟨s0,s1,s2,s3,s4⟩;go_simp;with_reducible rfl);refine tK 10 36 hHeld ?_ (hy:=by rintro w' ⟨s0,s1,s2,s3,s4⟩;go_simp;with_reducible rfl)
      refine oK 11 (some 37) (fun K hK=>?_)
      refine gS Try.func35 #[.agg #[.int .i64 e.f0,.int .i64 e.f1,.int .i64 e.f2,.bool e.f3]] ?_
      with_reducible refine (extent_end.calls e.f0 e.f1 e.f2 e.f3 t _ HEND.out).mono ?_
      rintro e7 w7 ⟨rfl,hb7⟩
      refine ⟨_,rfl,?_⟩
      have HB7:=am ((below_drew1 HB6.out).trans (hb7.mono (below_drew1 HB6.out).size))
      have HR7:=am (Kd.C_below (Kd.C_drew HR6.out) hb7)
      refine hK.out _ _ ⟨(hb7.cell (World.block_lt_of_cell? _ _ hHeld.1)).trans hHeld.1,(hb7.cell (World.block_lt_of_cell? _ _ hHeld.2.1)).trans hHeld.2.1,(hb7.cell (World.block_lt_of_cell? _ _ hHeld.2.2.1)).trans hHeld.2.2.1,(hb7.cell (World.block_lt_of_cell? _ _ hHeld.2.2.2.1)).trans hHeld.2.2.2.1,(hb7.cell (World.block_lt_of_cell? _ _ hHeld.2.2.2.2)).trans hHeld.2.2.2.2⟩ (fun hHeld=>?_)
      clear hK K;refine norm_ (a':=?_) ?_ ?_;rotate_left
      ·show Act.put _ (some 37) _=_
       simp only [Act.put,sIb,sC0,sCs,i64_w,i32_w];rfl
      refine pK 12 38 ?_;refine pK 13 39 ?_;refine pK 14 40 ?_;refine pK 15 41 ?_
      refine oK 16 (some 42) (fun K hK=>?_)
      refine gS Try.func37 #[.slice A6 (insE l0 e).length c6] ?_
      with_reducible refine (extent_apart.calls A6 c6 (insE l0 e) ap _ HR7.out HC6.out HAPF.out).mono ?_
      rintro e8 w8 ⟨rfl,hb8⟩
      refine ⟨_,rfl,?_⟩
      have HB8:=am (HB7.out.trans (hb8.mono HB7.out.size))
      have HR8:=am (Kd.C_below HR7.out hb8)
      refine hK.out _ _ ⟨(hb8.cell (World.block_lt_of_cell? _ _ hHeld.1)).trans hHeld.1,(hb8.cell (World.block_lt_of_cell? _ _ hHeld.2.1)).trans hHeld.2.1,(hb8.cell (World.block_lt_of_cell? _ _ hHeld.2.2.1)).trans hHeld.2.2.1,(hb8.cell (World.block_lt_of_cell? _ _ hHeld.2.2.2.1)).trans hHeld.2.2.2.1,(hb8.cell (World.block_lt_of_cell? _ _ hHeld.2.2.2.2)).trans hHeld.2.2.2.2⟩ (fun hHeld=>?_)
      clear hK K;refine norm_ (a':=?_) ?_ ?_;rotate_left
      ·show Act.put _ (some 42) _=_
       simp only [Act.put,sIb,sC0,sCs,i64_w,i32_w];rfl
      refine pK 17 43 ?_;refine pK 18 44 ?_
      refine done_ (by kernel_rfl) ?_
     case' neg =>
      have hilb:decide (i < l0.length)=false:=decide_eq_false hil
      clear hlt hil;go_wp2
      refine start_ (n:=19) (S:=fun w'=>w'.cell? ⟨w.heap.size,0,none⟩=some (.int .i64 e.f0)∧w'.cell? ⟨w.heap.size,1,none⟩=some (.int .i64 e.f1)∧w'.cell? ⟨w.heap.size,2,none⟩=some (.int .i64 e.f2)∧w'.cell? ⟨w.heap.size,3,none⟩=some (.bool e.f3)) (ds:=[]) _ (by kernel_rfl) rfl rfl ⟨hx0,hx1,hx2,hx3⟩ (fun hHeld=>?_)
      refine pK 0 26 ?_;refine pK 1 27 ?_;refine pK 2 28 ?_;refine pK 3 29 ?_;refine pK 4 30 ?_;refine uK 5 31 ?_;refine uK 6 32 ?_;refine uK 7 33 ?_;refine uK 8 34 ?_;refine uK 9 35 ?_;refine uK 10 36 ?_;refine uK 11 37 ?_;refine uK 12 38 ?_;refine pK 13 39 ?_;refine pK 14 40 ?_;refine pK 15 41 ?_
      refine oK 16 (some 42) (fun K hK=>?_)
      refine gS Try.func37 #[.slice A6 (insE l0 e).length c6] ?_
      with_reducible refine (extent_apart.calls A6 c6 (insE l0 e) ap _ (Kd.C_drew HR6.out) HC6.out HAPF.out).mono ?_
      rintro e8 w8 ⟨rfl,hb8⟩
      refine ⟨_,rfl,?_⟩
      have HB8:=am ((below_drew1 HB6.out).trans (hb8.mono (below_drew1 HB6.out).size))
      have HR8:=am (Kd.C_below (Kd.C_drew HR6.out) hb8)
      refine hK.out _ _ ⟨(hb8.cell (World.block_lt_of_cell? _ _ hHeld.1)).trans hHeld.1,(hb8.cell (World.block_lt_of_cell? _ _ hHeld.2.1)).trans hHeld.2.1,(hb8.cell (World.block_lt_of_cell? _ _ hHeld.2.2.1)).trans hHeld.2.2.1,(hb8.cell (World.block_lt_of_cell? _ _ hHeld.2.2.2)).trans hHeld.2.2.2⟩ (fun hHeld=>?_)
      clear hK K;refine norm_ (a':=?_) ?_ ?_;rotate_left
      ·show Act.put _ (some 42) _=_
       simp only [Act.put,sIb,sC0,sCs,i64_w,i32_w];rfl
      refine pK 17 43 ?_;refine pK 18 44 ?_
      refine done_ (by kernel_rfl) ?_
     all_goals
      cases ap with
      | false =>
       have HR1:=am (show r1=[]∧r2=4 by
        have h9:=HM.out
        unfold putR at h9
        rw [if_pos (show clash l0 e=true from HCL2.out)] at h9
        obtain ⟨a,b⟩:=Prod.mk.inj h9
        exact ⟨a.symm,b.symm⟩)
       go_wp2
       go_ret2
       obtain ⟨rfl,rfl⟩:=HR1.out
       exact ⟨_,rfl,Kd.R_nil _ _ _ _ _,HB8.out⟩
      | true =>
       have HR1:=am (show fitL (mergeL (insE l0 e))=(r1,r2) by
        have h9:=HM.out
        unfold putR at h9
        rw [if_neg (show ¬ clash l0 e=true by rw [HCL2.out];decide)] at h9
        exact h9)
       have HMR:=am (HMG.out.trans (congrArg some HR1.out))
       go_wp2_with (go_at_call 40;refine (extent_merged.calls _ A6 c6 (insE l0 e) r1 r2 _ HR8.out HC6.out HMR.out).mono ?_;rintro e9 w9 ⟨v9,rfl,ho9,hb9⟩;have HO9:=am (Kd.R_lower ho9 HB8.out.size);have HB9:=am (HB8.out.trans (hb9.mono HB8.out.size));clear ho9 hb9)
       go_ret2
       exact ⟨_,rfl,HO9.out,HB9.out⟩
   ·rw [if_neg hok] at h
    cases h
  ·obtain rfl:q=false:=by simpa using hqt
   rw [if_neg (by decide)] at h
   obtain ⟨rfl,rfl⟩:=Prod.mk.inj (Option.some.inj h)
   clear h hqt
   go_enter Try.func14,Try.ntmps14
   go_wp2_with (first|(go_at_call 34;refine (extent_may.calls a1_0 a1_1 a1_2 a1_3 false _ HQ.out).mono ?_;rintro e2 w2 ⟨rfl,hb2⟩;have HB2:=am (HB1.out.trans (hb2.mono HB1.out.size));clear hb2)|(go_at_call 12;refine (extent_Check.calls k A0 c0 l0 0 _ (Kd.C_alloc HR0.out _) HC0.out HT.out).mono ?_;rintro e1 w1 ⟨rfl,hb1⟩;have HBK1:=am (blk_below (blk_new w _) hb1);have hc10:=kc HBK1 0;have hc11:=kc HBK1 1;have hc12:=kc HBK1 2;have hc13:=kc HBK1 3;have HB1:=am (HBA.out.trans (hb1.mono HBA.out.size));clear hb1))
   go_ret2
   exact ⟨_,rfl,Kd.R_nil _ _ _ _ _,HB2.out⟩
 ·rw [if_neg h0] at h
  obtain ⟨rfl,rfl⟩:=Prod.mk.inj (Option.some.inj h)
  have h0b:decide (t=0)=false:=decide_eq_false h0
  have h0c:(t != 0)=true:=by simpa using h0
  clear h h0
  go_enter Try.func14,Try.ntmps14
  go_wp2_with (go_at_call 12;refine (extent_Check.calls k A0 c0 l0 t _ (Kd.C_alloc HR0.out _) HC0.out HT.out).mono ?_;rintro e2 w2 ⟨rfl,hb2⟩;have HB2:=am (HBA.out.trans (hb2.mono HBA.out.size));clear hb2)
  go_ret2
  exact ⟨_,rfl,Kd.R_nil _ _ _ _ _,HB2.out⟩
def extent_ranged.f (k:Nat) (l0:List (S24)) (a1:Int) (a2:Int):Option (Bool):=(extent_Check.f k l0).bind fun t118=>(if t118=0 then (if a1≥0 then (some (decide (a2≥a1))) else (some false)) else (some false))
set_option maxHeartbeats 8000000 in
set_option maxRecDepth 100000 in
theorem extent_ranged.calls (k:Nat) (A0:Option Addr) (c0:Nat) (l0:List (S24)) (a1:Int) (a2:Int) (r:Bool) (w:World) (hr0:Kd.C k24 w A0 l0.length l0) (hc0:l0.length≤c0) (h:extent_ranged.f k l0 a1 a2=some r) :
  Calls Try.prog 38 #[.slice A0 l0.length c0,.int .i64 a1,.int .i64 a2] w fun e w'=>e=.returned (.bool r)∧Below w.heap.size w w':=by
 have HR0:=am hr0
 have HC0:=am hc0
 clear hr0 hc0
 have HB:=am (Below.refl w.heap.size w)
 have H:((extent_Check.f k l0).bind fun t118=>(if t118=0 then (if a1≥0 then (some (decide (a2≥a1))) else (some false)) else (some false)))=some r:=h
 clear h
 replace H:=Option.bind_eq_some_iff.mp H
 obtain ⟨t118,A40,H⟩:=H
 replace H:(if t118=0 then (if a1≥0 then (some (decide (a2≥a1))) else (some false)) else (some false))=some r:=H
 have A4:=am A40
 clear A40
 by_cases c5:t118=0
 ·rw [if_pos c5] at H
  have c5b0:(t118==0)=true:=beq_iff_eq.mpr c5
  have c5b1:(t118 != 0)=false:=bne_eq_false_iff_eq.mpr c5
  clear c5
  by_cases c6:a1≥0
  ·rw [if_pos c6] at H
   have c6b0:decide (0≤a1)=true:=decide_eq_true c6
   clear c6;obtain rfl:=Option.some.inj H
   go_enter Try.func38,Try.ntmps38
   go_wp2_with (first|((with_reducible refine gate_callee (f:=12) rfl ?_);refine goesL_ (some 8) rfl rfl Try.func12 (by kernel_rfl) rfl #[.slice A0 l0.length c0] rfl (by (try simp only [List.map_toArray,List.map_cons,List.map_nil]);first|done|rfl|(simp only [List.length_drop,List.length_take];rfl)) ?_;(with_reducible refine (extent_Check.calls k _ _ l0 t118 _ ?side1 ?side2 A4.out).mono ?_);(case side1=>exact cc HR0.out);(case side2=>exact HC0.out);rintro e w7 ⟨rfl,hb⟩;refine ⟨_,rfl,?_⟩;have n0_:=bst HB hb;clear HB;have HB:=n0_;clear n0_;(try clear hb);(try clear hb2);(try clear hk);(try clear hi)))
   go_ret
   exact ⟨by first|rfl|(simp [errW_none,errW_some]<;>rfl)|(simp [*,errW_none,errW_some]<;>rfl),bb HB⟩
  ·rw [if_neg c6] at H
   have c6b0:decide (0≤a1)=false:=decide_eq_false c6
   clear c6;obtain rfl:=Option.some.inj H
   go_enter Try.func38,Try.ntmps38
   go_wp2_with (first|((with_reducible refine gate_callee (f:=12) rfl ?_);refine goesL_ (some 8) rfl rfl Try.func12 (by kernel_rfl) rfl #[.slice A0 l0.length c0] rfl (by (try simp only [List.map_toArray,List.map_cons,List.map_nil]);first|done|rfl|(simp only [List.length_drop,List.length_take];rfl)) ?_;(with_reducible refine (extent_Check.calls k _ _ l0 t118 _ ?side1 ?side2 A4.out).mono ?_);(case side1=>exact cc HR0.out);(case side2=>exact HC0.out);rintro e w8 ⟨rfl,hb⟩;refine ⟨_,rfl,?_⟩;have n0_:=bst HB hb;clear HB;have HB:=n0_;clear n0_;(try clear hb);(try clear hb2);(try clear hk);(try clear hi)))
   go_ret
   exact ⟨by first|rfl|(simp [errW_none,errW_some]<;>rfl)|(simp [*,errW_none,errW_some]<;>rfl),bb HB⟩
 ·rw [if_neg c5] at H
  have c5b0:(t118==0)=false:=beq_eq_false_iff_ne.mpr c5
  have c5b1:(t118 != 0)=true:=bne_iff_ne.mpr c5
  obtain rfl:=Option.some.inj H
  go_enter Try.func38,Try.ntmps38
  go_wp2_with (first|((with_reducible refine gate_callee (f:=12) rfl ?_);refine goesL_ (some 8) rfl rfl Try.func12 (by kernel_rfl) rfl #[.slice A0 l0.length c0] rfl (by (try simp only [List.map_toArray,List.map_cons,List.map_nil]);first|done|rfl|(simp only [List.length_drop,List.length_take];rfl)) ?_;(with_reducible refine (extent_Check.calls k _ _ l0 t118 _ ?side1 ?side2 A4.out).mono ?_);(case side1=>exact cc HR0.out);(case side2=>exact HC0.out);rintro e w9 ⟨rfl,hb⟩;refine ⟨_,rfl,?_⟩;have n0_:=bst HB hb;clear HB;have HB:=n0_;clear n0_;(try clear hb);(try clear hb2);(try clear hk);(try clear hi)))
  go_ret
  exact ⟨by first|rfl|(simp [errW_none,errW_some]<;>rfl)|(simp [*,errW_none,errW_some]<;>rfl),bb HB⟩
end Go.Proofs.Ytopmjjnkolfciaa.Pr
end
section
namespace Go.Proofs.Ytopmjjnkolfciaa.RwS
open Go.RowKit Go.Proofs.YtopmjjnkolfciaaW.PrintWords Go.Proofs.YtopmjjnkolfciaaW.PrintLast Go.Proofs.YtopmjjnkolfciaaW.PrintMore Go.Proofs.Ytopmjjnkolfciaa.Pr
set_option linter.unusedVariables false
set_option linter.unusedSimpArgs false
abbrev E := S32
def cells2 (e : E) : List Value := [.int .i64 e.f0, .int .i64 e.f1]
def flat (xs : List E) : List Value := xs.flatMap cells2
theorem flat_cons (e : E) (xs : List E) : flat (e :: xs) = cells2 e ++ flat xs := rfl
theorem flat_append (a b : List E) : flat (a ++ b) = flat a ++ flat b := by unfold flat; rw [List.flatMap_append]
theorem flat_len : ∀ xs : List E, (flat xs).length = xs.length * 2
  | [] => rfl
  | e :: xs => by rw [flat_cons, List.length_append, flat_len xs, List.length_cons]; simp [cells2]; omega
theorem flat_take : ∀ (xs : List E) (n : Nat), flat (xs.take n) = (flat xs).take (n * 2)
  | [], n => by simp [flat]
  | e :: xs, 0 => by simp [flat]
  | e :: xs, n + 1 => by
    rw [List.take_succ_cons, flat_cons, flat_cons, flat_take xs n, show (n + 1) * 2 = (cells2 e).length + n * 2 by simp [cells2]; omega, List.take_length_add_append]
theorem flat_drop : ∀ (xs : List E) (n : Nat), flat (xs.drop n) = (flat xs).drop (n * 2)
  | [], n => by simp [flat]
  | e :: xs, 0 => by simp
  | e :: xs, n + 1 => by
    rw [List.drop_succ_cons, flat_cons, flat_drop xs n, show (n + 1) * 2 = (cells2 e).length + n * 2 by simp [cells2]; omega, List.drop_length_add_append]
theorem flat_of : ∀ (xs : List E) (inner : List Value), inner.length = xs.length * 2 → (∀ j p, xs[j]? = some p → (inner.drop (j * 2)).take 2 = cells2 p) → inner = flat xs
  | [], inner, hl, _ => List.eq_nil_of_length_eq_zero (by simpa using hl)
  | e :: xs, inner, hl, h => by
    have h0 := h 0 e rfl
    rw [Nat.zero_mul, List.drop_zero] at h0
    have hr := flat_of xs (inner.drop 2) (by rw [List.length_drop, hl, List.length_cons]; omega) (fun j p hj => by
      have := h (j + 1) p (by simpa using hj)
      rw [List.drop_drop, show 2 + j * 2 = (j + 1) * 2 by omega]
      exact this)
    rw [flat_cons, ← h0, ← hr, List.take_append_drop]
theorem flat_at : ∀ (xs : List E) (j : Nat) (p : E), xs[j]? = some p → ((flat xs).drop (j * 2)).take 2 = cells2 p
  | e :: xs, 0, p, h => by
    simp only [List.getElem?_cons_zero, Option.some.injEq] at h
    subst h
    rw [Nat.zero_mul, List.drop_zero, flat_cons, List.take_append_of_le_length (by simp [cells2]), List.take_of_length_le (by simp [cells2])]
  | e :: xs, j + 1, p, h => by
    rw [← flat_drop, List.drop_succ_cons, flat_drop]
    exact flat_at xs j p (by simpa using h)
theorem flat_one : ∀ (xs : List E), ∀ v ∈ flat xs, v.oneCell' = true := by
  intro xs v hv
  obtain ⟨e, _, h⟩ := List.mem_flatMap.1 hv
  simp only [cells2, List.mem_cons, List.not_mem_nil, or_false] at h
  rcases h with rfl | rfl <;> rfl
theorem R_flat {w : World} {base : Nat} {ok : Nat → Prop} {v : Value} {xs : List E} (h : Kd.R k32 32 w base ok v xs) : w.ownsRow base 32 2 v xs.length (flat xs) := by
  obtain ⟨h0, inner, ho, hr⟩ := h
  have : inner = flat xs := flat_of xs inner hr.1 (fun j p hj => k32_openM (hr.2 j p hj))
  rw [← this]; exact ho
theorem flat_R {w : World} {base : Nat} {ok : Nat → Prop} {v : Value} {xs : List E} (ho : w.ownsRow base 32 2 v xs.length (flat xs)) (hok : ∀ k, v.ownBlock = some k → ok k) : Kd.R k32 32 w base ok v xs :=
  ⟨hok, flat xs, ho, flat_len xs, fun j p hj => by rw [show k32.sz = 2 from rfl, flat_at xs j p hj]; exact k32_mkM _ _ _ p⟩
end Go.Proofs.Ytopmjjnkolfciaa.RwS
end
section
namespace Go.Proofs.Ytopmjjnkolfciaa.Pr
open Go.RowKit Go.Proofs.YtopmjjnkolfciaaW.PrintWords Go.Proofs.YtopmjjnkolfciaaW.PrintLast Go.Proofs.YtopmjjnkolfciaaW.PrintMore
attribute [local go_sem] max2_int min2_int max_two min_two max_three min_three max_four min_four
attribute [local go_sem] Go.Proofs.Ytopmjjnkolfciaa.Hl.str_geq Go.Proofs.Ytopmjjnkolfciaa.Hl.str_gtr Go.Proofs.Ytopmjjnkolfciaa.Hl.str_leq
set_option linter.unusedVariables false
set_option linter.unusedSimpArgs false
def extent_Need.f (k:Nat) (l0:List (S24)):Option (Int):=(extent_Check.f k l0).bind fun t206=>(if t206=0 then (if (l0.length:Int)≤4 then (some 0) else (some (wrap64 (Int.tdiv (wrap64 ((wrap64 ((l0.length:Int)+20)) - 1)) 20)))) else (some (-1)))
set_option maxHeartbeats 8000000 in
set_option maxRecDepth 100000 in
theorem extent_Need.calls (k:Nat) (A0:Option Addr) (c0:Nat) (l0:List (S24)) (r:Int) (w:World) (hr0:Kd.C k24 w A0 l0.length l0) (hc0:l0.length≤c0) (h:extent_Need.f k l0=some r) :
  Calls Try.prog 19 #[.slice A0 l0.length c0] w fun e w'=>e=.returned (.int .i64 r)∧Below w.heap.size w w':=by
 have HR0:=am hr0
 have HC0:=am hc0
 clear hr0 hc0
 have HB:=am (Below.refl w.heap.size w)
 have H:((extent_Check.f k l0).bind fun t206=>(if t206=0 then (if (l0.length:Int)≤4 then (some 0) else (some (wrap64 (Int.tdiv (wrap64 ((wrap64 ((l0.length:Int)+20)) - 1)) 20)))) else (some (-1))))=some r:=h
 clear h
 replace H:=Option.bind_eq_some_iff.mp H
 obtain ⟨t206,A20,H⟩:=H
 replace H:(if t206=0 then (if (l0.length:Int)≤4 then (some 0) else (some (wrap64 (Int.tdiv (wrap64 ((wrap64 ((l0.length:Int)+20)) - 1)) 20)))) else (some (-1)))=some r:=H
 have A2:=am A20
 clear A20
 by_cases c3:t206=0
 ·rw [if_pos c3] at H
  have c3b0:(t206==0)=true:=beq_iff_eq.mpr c3
  have c3b1:(t206 != 0)=false:=bne_eq_false_iff_eq.mpr c3
  clear c3
  by_cases c4:(l0.length:Int)≤4
  ·rw [if_pos c4] at H
   have c4b0:decide ((l0.length:Int)≤4)=true:=decide_eq_true c4
   have c4b1:decide (l0.length≤4)=true:=decide_eq_true (by omega)
   clear c4;obtain rfl:=Option.some.inj H
   go_enter Try.func19,Try.ntmps19
   go_wp2_with (first|((with_reducible refine gate_callee (f:=12) rfl ?_);refine goesL_ (some 5) rfl rfl Try.func12 (by kernel_rfl) rfl #[.slice A0 l0.length c0] rfl (by (try simp only [List.map_toArray,List.map_cons,List.map_nil]);first|done|rfl|(simp only [List.length_drop,List.length_take];rfl)) ?_;(with_reducible refine (extent_Check.calls k _ _ l0 t206 _ ?side1 ?side2 A2.out).mono ?_);(case side1=>exact cc HR0.out);(case side2=>exact HC0.out);rintro e w5 ⟨rfl,hb⟩;refine ⟨_,rfl,?_⟩;have n0_:=bst HB hb;clear HB;have HB:=n0_;clear n0_;(try clear hb);(try clear hb2);(try clear hk);(try clear hi)))
   go_ret
   exact ⟨by first|rfl|(simp [errW_none,errW_some]<;>rfl)|(simp [*,errW_none,errW_some]<;>rfl),bb HB⟩
  ·rw [if_neg c4] at H
   have c4b0:decide ((l0.length:Int)≤4)=false:=decide_eq_false c4
   have c4b1:decide (l0.length≤4)=false:=decide_eq_false (by omega)
   clear c4;obtain rfl:=Option.some.inj H
   go_enter Try.func19,Try.ntmps19
   go_wp2_with (first|((with_reducible refine gate_callee (f:=12) rfl ?_);refine goesL_ (some 5) rfl rfl Try.func12 (by kernel_rfl) rfl #[.slice A0 l0.length c0] rfl (by (try simp only [List.map_toArray,List.map_cons,List.map_nil]);first|done|rfl|(simp only [List.length_drop,List.length_take];rfl)) ?_;(with_reducible refine (extent_Check.calls k _ _ l0 t206 _ ?side1 ?side2 A2.out).mono ?_);(case side1=>exact cc HR0.out);(case side2=>exact HC0.out);rintro e w6 ⟨rfl,hb⟩;refine ⟨_,rfl,?_⟩;have n0_:=bst HB hb;clear HB;have HB:=n0_;clear n0_;(try clear hb);(try clear hb2);(try clear hk);(try clear hi)))
   go_ret
   exact ⟨by first|rfl|(simp [errW_none,errW_some]<;>rfl)|(simp [*,errW_none,errW_some]<;>rfl),bb HB⟩
 ·rw [if_neg c3] at H
  have c3b0:(t206==0)=false:=beq_eq_false_iff_ne.mpr c3
  have c3b1:(t206 != 0)=true:=bne_iff_ne.mpr c3
  obtain rfl:=Option.some.inj H
  go_enter Try.func19,Try.ntmps19
  go_wp2_with (first|((with_reducible refine gate_callee (f:=12) rfl ?_);refine goesL_ (some 5) rfl rfl Try.func12 (by kernel_rfl) rfl #[.slice A0 l0.length c0] rfl (by (try simp only [List.map_toArray,List.map_cons,List.map_nil]);first|done|rfl|(simp only [List.length_drop,List.length_take];rfl)) ?_;(with_reducible refine (extent_Check.calls k _ _ l0 t206 _ ?side1 ?side2 A2.out).mono ?_);(case side1=>exact cc HR0.out);(case side2=>exact HC0.out);rintro e w7 ⟨rfl,hb⟩;refine ⟨_,rfl,?_⟩;have n0_:=bst HB hb;clear HB;have HB:=n0_;clear n0_;(try clear hb);(try clear hb2);(try clear hk);(try clear hi)))
  go_ret
  exact ⟨by first|rfl|(simp [errW_none,errW_some]<;>rfl)|(simp [*,errW_none,errW_some]<;>rfl),bb HB⟩
theorem goesR_f (a b:S24):r_10_goes.f a.f0 a.f1 a.f2 a.f3 b.f0 b.f1 b.f2 b.f3=some (goesR a b):=by
 unfold r_10_goes.f goesR
 by_cases h1:wrap64 (a.f0+a.f2)=b.f0
 ·rw [if_pos h1,beq_iff_eq.2 h1]
  by_cases h2:wrap64 (a.f1+a.f2)=b.f1
  ·rw [if_pos h2,beq_iff_eq.2 h2];rfl
  ·rw [if_neg h2,beq_eq_false_iff_ne.2 h2];rfl
 ·rw [if_neg h1,beq_eq_false_iff_ne.2 h1];rfl
def r_10_Need.f (k:Nat) (l0:List (S24)):Option (Int):=(r_10_Check.f k l0).bind fun t207=>(if t207=0 then (if (l0.length:Int)≤4 then (some 0) else (some (wrap64 (Int.tdiv (wrap64 ((wrap64 ((l0.length:Int)+20)) - 1)) 20)))) else (some (-1)))
set_option maxHeartbeats 8000000 in
set_option maxRecDepth 100000 in
theorem r_10_Need.calls (k:Nat) (A0:Option Addr) (c0:Nat) (l0:List (S24)) (r:Int) (w:World) (hr0:Kd.C k24 w A0 l0.length l0) (hc0:l0.length≤c0) (h:r_10_Need.f k l0=some r) :
  Calls Try.prog 20 #[.slice A0 l0.length c0] w fun e w'=>e=.returned (.int .i64 r)∧Below w.heap.size w w':=by
 have HR0:=am hr0
 have HC0:=am hc0
 clear hr0 hc0
 have HB:=am (Below.refl w.heap.size w)
 have H:((r_10_Check.f k l0).bind fun t207=>(if t207=0 then (if (l0.length:Int)≤4 then (some 0) else (some (wrap64 (Int.tdiv (wrap64 ((wrap64 ((l0.length:Int)+20)) - 1)) 20)))) else (some (-1))))=some r:=h
 clear h
 replace H:=Option.bind_eq_some_iff.mp H
 obtain ⟨t207,A20,H⟩:=H
 replace H:(if t207=0 then (if (l0.length:Int)≤4 then (some 0) else (some (wrap64 (Int.tdiv (wrap64 ((wrap64 ((l0.length:Int)+20)) - 1)) 20)))) else (some (-1)))=some r:=H
 have A2:=am A20
 clear A20
 by_cases c3:t207=0
 ·rw [if_pos c3] at H
  have c3b0:(t207==0)=true:=beq_iff_eq.mpr c3
  have c3b1:(t207 != 0)=false:=bne_eq_false_iff_eq.mpr c3
  clear c3
  by_cases c4:(l0.length:Int)≤4
  ·rw [if_pos c4] at H
   have c4b0:decide ((l0.length:Int)≤4)=true:=decide_eq_true c4
   have c4b1:decide (l0.length≤4)=true:=decide_eq_true (by omega)
   clear c4;obtain rfl:=Option.some.inj H
   go_enter Try.func20,Try.ntmps20
   go_wp2_with (first|((with_reducible refine gate_callee (f:=18) rfl ?_);refine goesL_ (some 5) rfl rfl Try.func18 (by kernel_rfl) rfl #[.slice A0 l0.length c0] rfl (by (try simp only [List.map_toArray,List.map_cons,List.map_nil]);first|done|rfl|(simp only [List.length_drop,List.length_take];rfl)) ?_;(with_reducible refine (r_10_Check.calls k _ _ l0 t207 _ ?side1 ?side2 A2.out).mono ?_);(case side1=>exact cc HR0.out);(case side2=>exact HC0.out);rintro e w5 ⟨rfl,hb⟩;refine ⟨_,rfl,?_⟩;have n0_:=bst HB hb;clear HB;have HB:=n0_;clear n0_;(try clear hb);(try clear hb2);(try clear hk);(try clear hi)))
   go_ret
   exact ⟨by first|rfl|(simp [errW_none,errW_some]<;>rfl)|(simp [*,errW_none,errW_some]<;>rfl),bb HB⟩
  ·rw [if_neg c4] at H
   have c4b0:decide ((l0.length:Int)≤4)=false:=decide_eq_false c4
   have c4b1:decide (l0.length≤4)=false:=decide_eq_false (by omega)
   clear c4;obtain rfl:=Option.some.inj H
   go_enter Try.func20,Try.ntmps20
   go_wp2_with (first|((with_reducible refine gate_callee (f:=18) rfl ?_);refine goesL_ (some 5) rfl rfl Try.func18 (by kernel_rfl) rfl #[.slice A0 l0.length c0] rfl (by (try simp only [List.map_toArray,List.map_cons,List.map_nil]);first|done|rfl|(simp only [List.length_drop,List.length_take];rfl)) ?_;(with_reducible refine (r_10_Check.calls k _ _ l0 t207 _ ?side1 ?side2 A2.out).mono ?_);(case side1=>exact cc HR0.out);(case side2=>exact HC0.out);rintro e w6 ⟨rfl,hb⟩;refine ⟨_,rfl,?_⟩;have n0_:=bst HB hb;clear HB;have HB:=n0_;clear n0_;(try clear hb);(try clear hb2);(try clear hk);(try clear hi)))
   go_ret
   exact ⟨by first|rfl|(simp [errW_none,errW_some]<;>rfl)|(simp [*,errW_none,errW_some]<;>rfl),bb HB⟩
 ·rw [if_neg c3] at H
  have c3b0:(t207==0)=false:=beq_eq_false_iff_ne.mpr c3
  have c3b1:(t207 != 0)=true:=bne_iff_ne.mpr c3
  obtain rfl:=Option.some.inj H
  go_enter Try.func20,Try.ntmps20
  go_wp2_with (first|((with_reducible refine gate_callee (f:=18) rfl ?_);refine goesL_ (some 5) rfl rfl Try.func18 (by kernel_rfl) rfl #[.slice A0 l0.length c0] rfl (by (try simp only [List.map_toArray,List.map_cons,List.map_nil]);first|done|rfl|(simp only [List.length_drop,List.length_take];rfl)) ?_;(with_reducible refine (r_10_Check.calls k _ _ l0 t207 _ ?side1 ?side2 A2.out).mono ?_);(case side1=>exact cc HR0.out);(case side2=>exact HC0.out);rintro e w7 ⟨rfl,hb⟩;refine ⟨_,rfl,?_⟩;have n0_:=bst HB hb;clear HB;have HB:=n0_;clear n0_;(try clear hb);(try clear hb2);(try clear hk);(try clear hi)))
  go_ret
  exact ⟨by first|rfl|(simp [errW_none,errW_some]<;>rfl)|(simp [*,errW_none,errW_some]<;>rfl),bb HB⟩
theorem eqA24 (d:Nat) (w:World) (x0 y0:Int) (x1 y1:Int) (x2 y2:Int) (x3 y3:Bool) :
  (Op.equalIn (d+2) 24 (.agg #[.int .i64 x0,.int .i64 x1,.int .i64 x2,.bool x3]) (.agg #[.int .i64 y0,.int .i64 y1,.int .i64 y2,.bool y3])).run Try.prog w=.ok (x0==y0&&(x1==y1&&(x2==y2&&(x3==y3)))) w:=by
 refine eqA_of Try.underlying24 (by kernel_rfl) ?_
 refine eqf_cons (by rfl) (by go_simp;rfl) (by go_simp;rfl) (by go_simp) ?_
 refine eqf_cons (by rfl) (by go_simp;rfl) (by go_simp;rfl) (by go_simp) ?_
 refine eqf_cons (by rfl) (by go_simp;rfl) (by go_simp;rfl) (by go_simp) ?_
 exact eqf_last (by rfl) (by go_simp;rfl) (by go_simp;rfl) (by go_simp)
end Go.Proofs.Ytopmjjnkolfciaa.Pr
end
section
namespace Go.Proofs.Ytopmjjnkolfciaa.Pr
open Go.RowKit Go.Proofs.YtopmjjnkolfciaaW.PrintWords Go.Proofs.YtopmjjnkolfciaaW.PrintLast Go.Proofs.YtopmjjnkolfciaaW.PrintMore
attribute [local go_sem] max2_int min2_int max_two min_two max_three min_three max_four min_four
attribute [local go_sem] Go.Proofs.Ytopmjjnkolfciaa.Hl.str_geq Go.Proofs.Ytopmjjnkolfciaa.Hl.str_gtr Go.Proofs.Ytopmjjnkolfciaa.Hl.str_leq
set_option linter.unusedVariables false
set_option linter.unusedSimpArgs false
attribute [local go_sem high] eqA24
def r_10_Same.l0:Nat→List (S24)→List (S24)→Int→Option (Bool)
 | 0,_,_,_=>none
 | k+1,x0,x1,x5=>if x5 < (x0.length:Int) then (if 0≤x5 then (if x5 < (x1.length:Int) then (if (!(((rd_T24 x0 x5).f0)==((rd_T24 x1 x5).f0))||(!(((rd_T24 x0 x5).f1)==((rd_T24 x1 x5).f1))||(!(((rd_T24 x0 x5).f2)==((rd_T24 x1 x5).f2))||(!(((rd_T24 x0 x5).f3)==((rd_T24 x1 x5).f3))))))=true then (some false) else (r_10_Same.l0 k x0 x1 (wrap64 (x5+1)))) else (none)) else (none)) else (some true)
def r_10_Same.f (k:Nat) (l0:List (S24)) (l1:List (S24)):Option (Bool):=if (l0.length:Int)=(l1.length:Int) then (r_10_Same.l0 k l0 l1 0) else (some false)
set_option maxHeartbeats 8000000 in
set_option maxRecDepth 100000 in
theorem r_10_Same.calls (k:Nat) (A0:Option Addr) (c0:Nat) (l0:List (S24)) (A1:Option Addr) (c1:Nat) (l1:List (S24)) (r:Bool) (w:World) (hr0:Kd.C k24 w A0 l0.length l0) (hc0:l0.length≤c0) (hr1:Kd.C k24 w A1 l1.length l1) (hc1:l1.length≤c1) (h:r_10_Same.f k l0 l1=some r) :
  Calls Try.prog 15 #[.slice A0 l0.length c0,.slice A1 l1.length c1] w fun e w'=>e=.returned (.bool r)∧Drawn0 w w':=by
 have hu24:=Try.underlying24
 have HR0:=am hr0
 have HC0:=am hc0
 clear hr0 hc0
 have HR1:=am hr1
 have HC1:=am hc1
 clear hr1 hc1
 have H:(if (l0.length:Int)=(l1.length:Int) then (r_10_Same.l0 k l0 l1 0) else (some false))=some r:=h
 clear h
 by_cases c3:(l0.length:Int)=(l1.length:Int)
 ·rw [if_pos c3] at H
  have c3b0:((l0.length:Int)==(l1.length:Int))=true:=beq_iff_eq.mpr c3
  have c3b1:((l0.length:Int) != (l1.length:Int))=false:=bne_eq_false_iff_eq.mpr c3
  have c3b2:(l0.length==l1.length)=true:=by first|simpa using c3|(simp at c3 ⊢;omega)
  clear c3
  have H':=am H
  clear H
  go_enter Try.func15,Try.ntmps15
  go_wp2
  repeat (go_quiet (fail);try go_wp2)
  go_loopg [5] k (fun kq v5 w'=>∃ (x5_1:Int),v5=.int .i64 x5_1∧Aside0 (r_10_Same.l0 kq l0 l1 x5_1=some r)∧Aside0 (kq≤k)∧Drawn0 w w')
  case atStart=>exact ⟨(0),(by first|rfl|(simp;done)|(simp [*];done)),H',⟨Nat.le_refl _⟩,by repeat (first|exact Drawn0.refl _|apply Drawn0.step)⟩
  case round =>
   clear H'
   try clear c1
   try clear p2
   try clear c3
   try clear c3b0
   try clear c3b1
   try clear c3b2
   obtain ⟨x5_1,rfl,HA,HK1,⟨m1,rfl⟩⟩:=hrel
   cases gk with
   | zero=>exact absurd HA.out (by intro h_;cases h_)
   | succ k1 =>
    have H:=HA.out
    clear HA
    simp only [r_10_Same.l0] at H
    by_cases c4:x5_1 < (l0.length:Int)
    ·rw [if_pos c4] at H
     have c4b0:decide (x5_1 < (l0.length:Int))=true:=decide_eq_true c4
     clear c4
     by_cases c5:0≤x5_1
     ·rw [if_pos c5] at H
      have c5b0:decide (0≤x5_1)=true:=decide_eq_true c5
      clear c5
      by_cases c6:x5_1 < (l1.length:Int)
      ·rw [if_pos c6] at H
       have c6b0:decide (x5_1 < (l1.length:Int))=true:=decide_eq_true c6
       clear c6
       by_cases c7:(!(((rd_T24 l0 x5_1).f0)==((rd_T24 l1 x5_1).f0))||(!(((rd_T24 l0 x5_1).f1)==((rd_T24 l1 x5_1).f1))||(!(((rd_T24 l0 x5_1).f2)==((rd_T24 l1 x5_1).f2))||(!(((rd_T24 l0 x5_1).f3)==((rd_T24 l1 x5_1).f3))))))=true
       ·rw [if_pos c7] at H
        have c7b0:(!(((rd_T24 l0 x5_1).f0)==((rd_T24 l1 x5_1).f0))||(!(((rd_T24 l0 x5_1).f1)==((rd_T24 l1 x5_1).f1))||(!(((rd_T24 l0 x5_1).f2)==((rd_T24 l1 x5_1).f2))||(!(((rd_T24 l0 x5_1).f3)==((rd_T24 l1 x5_1).f3))))))=true:=c7
        clear c7;obtain rfl:=Option.some.inj H
        have p156:0≤(x5_1:Int):=od
        have q156:x5_1 < (l0.length:Int):=od
        obtain ⟨ad156,e156,hx156_0,hx156_1,hx156_2,hx156_3⟩:=at_T24 HR0.out x5_1 p156 q156
        cases e156
        replace p156:=eq_true p156;replace q156:=eq_true q156
        have p157:0≤(x5_1:Int):=od
        have q157:x5_1 < (l1.length:Int):=od
        obtain ⟨ad157,e157,hx157_0,hx157_1,hx157_2,hx157_3⟩:=at_T24 HR1.out x5_1 p157 q157
        cases e157
        replace p157:=eq_true p157;replace q157:=eq_true q157;go_wp2
        repeat (go_quiet (fail);try go_wp2)
        go_ret
        exact ⟨by first|rfl|(simp;done)|(simp [*];done),by repeat (first|exact Drawn0.refl _|apply Drawn0.step)⟩
       ·rw [if_neg c7] at H
        have c7b0:(!(((rd_T24 l0 x5_1).f0)==((rd_T24 l1 x5_1).f0))||(!(((rd_T24 l0 x5_1).f1)==((rd_T24 l1 x5_1).f1))||(!(((rd_T24 l0 x5_1).f2)==((rd_T24 l1 x5_1).f2))||(!(((rd_T24 l0 x5_1).f3)==((rd_T24 l1 x5_1).f3))))))=false:=by simpa using c7
        clear c7
        have H':=am H
        clear H
        have p156:0≤(x5_1:Int):=od
        have q156:x5_1 < (l0.length:Int):=od
        obtain ⟨ad156,e156,hx156_0,hx156_1,hx156_2,hx156_3⟩:=at_T24 HR0.out x5_1 p156 q156
        cases e156
        replace p156:=eq_true p156;replace q156:=eq_true q156
        have p157:0≤(x5_1:Int):=od
        have q157:x5_1 < (l1.length:Int):=od
        obtain ⟨ad157,e157,hx157_0,hx157_1,hx157_2,hx157_3⟩:=at_T24 HR1.out x5_1 p157 q157
        cases e157
        replace p157:=eq_true p157;replace q157:=eq_true q157;go_wp2
        repeat (go_quiet (fail);try go_wp2)
        go_roundg k1
        case measure=>have:=HK1.out;omega
        case rel=>exact ⟨(wrap64 (x5_1+1)),(by first|rfl|(simp;done)|(simp [*];done)),H',⟨by have:=HK1.out;omega⟩,by repeat (first|exact Drawn0.refl _|apply Drawn0.step)⟩
      ·rw [if_neg c6] at H
       exact absurd H (by simp)
     ·rw [if_neg c5] at H
      exact absurd H (by simp)
    ·rw [if_neg c4] at H
     have c4b0:decide (x5_1 < (l0.length:Int))=false:=decide_eq_false c4
     clear c4;obtain rfl:=Option.some.inj H;go_wp2
     repeat (go_quiet (fail);try go_wp2)
     go_ret
     exact ⟨by first|rfl|(simp;done)|(simp [*];done),by repeat (first|exact Drawn0.refl _|apply Drawn0.step)⟩
 ·rw [if_neg c3] at H
  have c3b0:((l0.length:Int)==(l1.length:Int))=false:=beq_eq_false_iff_ne.mpr c3
  have c3b1:((l0.length:Int) != (l1.length:Int))=true:=bne_iff_ne.mpr c3
  have c3b2:(l0.length==l1.length)=false:=by first|simpa using c3|(simp at c3 ⊢;omega)
  obtain rfl:=Option.some.inj H
  go_enter Try.func15,Try.ntmps15
  go_wp2
  repeat (go_quiet (fail);try go_wp2)
  go_ret
  exact ⟨by first|rfl|(simp;done)|(simp [*];done),by repeat (first|exact Drawn0.refl _|apply Drawn0.step)⟩
end Go.Proofs.Ytopmjjnkolfciaa.Pr
end
section
namespace Go.Proofs.Ytopmjjnkolfciaa.Pr
open Go.RowKit Go.Proofs.YtopmjjnkolfciaaW.PrintWords Go.Proofs.YtopmjjnkolfciaaW.PrintLast Go.Proofs.YtopmjjnkolfciaaW.PrintMore
attribute [local go_sem] max2_int min2_int max_two min_two max_three min_three max_four min_four
attribute [local go_sem] Go.Proofs.Ytopmjjnkolfciaa.Hl.str_geq Go.Proofs.Ytopmjjnkolfciaa.Hl.str_gtr Go.Proofs.Ytopmjjnkolfciaa.Hl.str_leq
set_option linter.unusedVariables false
set_option linter.unusedSimpArgs false
theorem eqA32 (d:Nat) (w:World) (x0 y0:Int) (x1 y1:Int) :
  (Op.equalIn (d+2) 32 (.agg #[.int .i64 x0,.int .i64 x1]) (.agg #[.int .i64 y0,.int .i64 y1])).run Try.prog w=.ok (x0==y0&&(x1==y1)) w:=by
 refine eqA_of Try.underlying32 (by kernel_rfl) ?_
 refine eqf_cons (by rfl) (by go_simp;rfl) (by go_simp;rfl) (by go_simp) ?_
 exact eqf_last (by rfl) (by go_simp;rfl) (by go_simp;rfl) (by go_simp)
end Go.Proofs.Ytopmjjnkolfciaa.Pr
end
section
namespace Go.Proofs.Ytopmjjnkolfciaa.Pr
open Go.RowKit Go.Proofs.YtopmjjnkolfciaaW.PrintWords Go.Proofs.YtopmjjnkolfciaaW.PrintLast Go.Proofs.YtopmjjnkolfciaaW.PrintMore
attribute [local go_sem] max2_int min2_int max_two min_two max_three min_three max_four min_four
attribute [local go_sem] Go.Proofs.Ytopmjjnkolfciaa.Hl.str_geq Go.Proofs.Ytopmjjnkolfciaa.Hl.str_gtr Go.Proofs.Ytopmjjnkolfciaa.Hl.str_leq
set_option linter.unusedVariables false
set_option linter.unusedSimpArgs false
open Go.Maps (addKey setOf Keyed int_keyed keyOf_int_mk size_setOf setOf_snoc)
theorem keyed3:Keyed Try.prog 3:=int_keyed Try.underlying3
def numOk (x:Int):Bool:=decide (1≤x)&&decide (x < 1024)
def setI (l:List Int):DataW Unit:=setOf (.agg []) (l.map (Lit.int .i64))
theorem setI_nil:setI []=.map []:=rfl
theorem setI_snoc (l:List Int) (x:Int):setI (l++[x])=(setI l).put (.int .i64 x) (.agg []):=by unfold setI;rw [List.map_append];exact setOf_snoc _ _ _
theorem setI_size (l:List Int):Go.Maps.size (setI l)=((l.map (Lit.int .i64)).foldl addKey []).length:=size_setOf _ _ (by intro x hx;obtain ⟨y,_,rfl⟩:=List.mem_map.1 hx;trivial)
theorem numOk_take (l:List Int) (i:Nat) (h:i < l.length):(l.take (i+1)).all numOk=((l.take i).all numOk&&numOk (rd l i)):=by
 rw [List.take_add_one,List.all_append,List.getElem?_eq_getElem h]
 have:rd l (i:Int)=l[i]:=by unfold rd;rw [Int.toNat_natCast,List.getD_eq_getElem?_getD,List.getElem?_eq_getElem h];rfl
 rw [this]
 simp
theorem take_succ_rd (l:List Int) (i:Nat) (h:i < l.length):l.take (i+1)=l.take i++[rd l i]:=by
 rw [List.take_add_one,List.getElem?_eq_getElem h]
 have:rd l (i:Int)=l[i]:=by unfold rd;rw [Int.toNat_natCast,List.getD_eq_getElem?_getD,List.getElem?_eq_getElem h];rfl
 rw [this]
 rfl
theorem all_take_false (l:List Int) (i:Nat) (h:i < l.length) (hx:numOk (rd l i)=false):l.all numOk=false:=by
 have:=numOk_take l i h
 rw [hx,Bool.and_false] at this
 rw [← List.take_append_drop (i+1) l,List.all_append,this,Bool.false_and]
def extent_numbers.f (l0:List Int):Option (Bool):=some (l0.all numOk&&decide (((l0.map (Lit.int .i64)).foldl addKey []).length=l0.length))
set_option maxHeartbeats 8000000 in
set_option maxRecDepth 100000 in
theorem extent_numbers.calls (A0:Option Addr) (c0:Nat) (l0:List Int) (r:Bool) (w:World) (hr0:Kd.C (Kd.int .i64) w A0 l0.length l0) (hc0:l0.length≤c0) (h:extent_numbers.f l0=some r) :
  Calls Try.prog 48 #[.slice A0 l0.length c0] w fun e w'=>e=.returned (.bool r)∧Below w.heap.size w w':=by
 unfold extent_numbers.f at h
 have h:=Option.some.inj h
 have HH:=am h
 have HR0:=am hr0
 have HC0:=am hc0
 have HL:=am (show l0.length≤9223372036854775807 from (Kd.reads_of_C (enc:=Value.int .i64) (d:=(0:Int)) (h1:=fun _=>rfl) hr0).2.1)
 clear h hr0 hc0
 have hmm:=@run_makeMap Try.prog
 go_enter Try.func48,Try.ntmps48
 go_wp2
 go_loopw [9] (fun i wr=>∃ k:Nat,i=.int .i64 k∧Aside0 (k≤l0.length)∧Aside0 ((l0.take k).all numOk=true)∧Aside0 (wr.ownsMap Try.prog 3 (unitElem (H:=Unit)) w.heap.size k (setI (l0.take k)))∧Aside0 (Below w.heap.size w wr)) (fun i _=>l0.length - (intOf i).toNat)
 case atStart=>exact ⟨0,rfl,⟨Nat.zero_le _⟩,⟨rfl⟩,⟨by rw [List.take_zero,setI_nil];exact World.ownsMap_made _ _ _ _⟩,⟨(Below.refl _ _).alloc (Nat.le_refl _) _⟩⟩
 case round =>
  obtain ⟨k,rfl,HK,HA,HM,HB⟩:=hrel
  by_cases hk:k < l0.length
  ·have hkb:decide ((k:Int) < (l0.length:Int))=true:=decide_eq_true (by omega)
   have hk0:decide (0≤(k:Int))=true:=decide_eq_true (by omega)
   obtain ⟨ad,ead,hc⟩:=Kd.at_int HR0.out (k:Int) (by omega) (by omega)
   cases ead
   have hcw:=hB HB hc
   rw [Int.toNat_natCast] at hcw
   have HT:=am (take_succ_rd l0 k hk)
   have HN:=am (numOk_take l0 k hk)
   have HF:=am (all_take_false l0 k hk)
   clear hc hkb hk0
   obtain ⟨x,hx⟩:∃ x,rd l0 (k:Int)=x:=⟨_,rfl⟩
   rw [hx] at hcw
   have HX:=am hx
   clear hx
   by_cases h1:x < 1
   ·have h1b:decide (x < 1)=true:=decide_eq_true h1
    have HXF:=am (show numOk x=false by unfold numOk;rw [decide_eq_false (by omega)];rfl)
    clear h1
    have e:=HH.out
    rw [HF.out (by rw [HX.out];exact HXF.out),Bool.false_and] at e
    subst e
    go_wp2;go_ret
    exact ⟨rfl,HB.out⟩
   ·have h1b:decide (x < 1)=false:=decide_eq_false h1
    by_cases h2:x≥1024
    ·have h2b:decide (x≥1024)=true:=decide_eq_true h2
     have HXF:=am (show numOk x=false by unfold numOk;rw [decide_eq_false (show ¬ x < 1024 by omega),Bool.and_false])
     clear h1 h2
     have e:=HH.out
     rw [HF.out (by rw [HX.out];exact HXF.out),Bool.false_and] at e
     subst e
     go_wp2;go_ret
     exact ⟨rfl,HB.out⟩
    ·have h2b:decide (x≥1024)=false:=decide_eq_false h2
     have hkey:keyOf Try.prog 3 (.int .i64 x)=some (.int .i64 x):=keyOf_int_mk Try.underlying3 (WalkArith.wf_i64 (by omega))
     have HXT:=am (show numOk x=true by unfold numOk;rw [decide_eq_true (show 1≤x by omega),decide_eq_true (show x < 1024 by omega)];rfl)
     clear h1 h2
     go_wp2_with (at_mapUpdate;refine wpList_mapUpdate_own _ rfl _ _ _ 101 rfl 3 102 keyed3 Try.underlying101 (unitElem (H:=Unit)) w.heap.size k _ rfl HM.out (by have:=HL.out;unfold maxLen;omega) _ _ _ rfl rfl hkey _ [] unitElem_mk ?_;intro w1 hown1 hgrow1)
     have hw:wrap64 ((k:Int)+1)=((k+1:Nat):Int):=by have:=HL.out;unfold wrap64;omega
     go_roundw
     case rel=>exact ⟨k+1,by rw [hw],⟨hk⟩,⟨by rw [HN.out,HX.out,HXT.out,HA.out];rfl⟩,⟨by rw [HT.out,HX.out,setI_snoc];exact hown1⟩,⟨HB.out.grown hgrow1 HB.out.size (fun j hj=>by cases hj;exact Nat.le_refl _)⟩⟩
     case measure=>rw [hw];show l0.length - (((k+1:Nat):Int)).toNat < l0.length - ((k:Int)).toNat;omega
  ·have hke:k=l0.length:=by have:=HK.out;omega
   subst hke
   have hlen:=HM.out.len Try.underlying101 3
   rw [setI_size,List.take_length] at hlen
   have e:=HH.out
   have hA:=HA.out
   rw [List.take_length] at hA
   rw [hA,Bool.true_and] at e
   go_wp2;go_ret
   rw [← e]
   have hb:(((((l0.map (Lit.int .i64)).foldl addKey []).length:Nat):Int)==(l0.length:Int))=decide (((l0.map (Lit.int .i64)).foldl addKey []).length=l0.length):=by rw [Bool.eq_iff_iff,beq_iff_eq,decide_eq_true_iff];omega
   exact ⟨by rw [← hb];rfl,HB.out⟩
end Go.Proofs.Ytopmjjnkolfciaa.Pr
end
section
namespace Go.Proofs.Ytopmjjnkolfciaa.Pg
open Go.RowKit Go.Proofs.YtopmjjnkolfciaaW.PrintWords Go.Proofs.YtopmjjnkolfciaaW.PrintLast Go.Proofs.YtopmjjnkolfciaaW.PrintMore
set_option linter.unusedVariables false
set_option linter.unusedSimpArgs false
theorem splice_row {P : Program} {W : World} {base e : Nat} {ok : Nat → Prop} {g cap : Nat} {xs ys : List Int} (h : (Kd.int .u8).R e W base ok (.slice (some ⟨g, 0, none⟩) xs.length cap) xs) (a : Nat) (hd : 0 < ys.length) (ha : a + ys.length ≤ xs.length)
    (dT sT ty : TypeId) (hu : P.underlying dT = some (.slice e)) (hi : (P.info? e).map (·.size) = some 1) (A3 : Option Addr) (c3 : Nat) (hy : (Kd.int .u8).C W A3 ys.length ys) :
    ∃ W', (∀ C, (Builtin.copy_ #[dT, sT] ty #[.slice (some ⟨g, a, none⟩) ys.length C, .slice A3 ys.length c3]).run P W = .ok (goInt ys.length) W') ∧
      (Kd.int .u8).R e W' base ok (.slice (some ⟨g, 0, none⟩) xs.length cap) (xs.take a ++ ys ++ xs.drop (a + ys.length)) ∧ W.grownBy W' (some g) ∧ Below base W W' := by
  have ho := Kd.own_of_R h
  obtain ⟨hy1, hy2, hy3⟩ := Kd.reads_of_C (d := (0 : Int)) hy
  obtain ⟨ad, rfl, hcell⟩ := hy3 hd
  rcases ho.2 with ⟨_, h0⟩ | ⟨g', cap', cur, hv, hb, hg, hnc, hcm, hcs, htk⟩
  · omega
  injection hv with hv1 _ hv2
  injection hv1 with hv1
  injection hv1 with hv1 _ _
  subst hv1
  subst hv2
  have hce : ∀ j v, (encs (Value.int .u8) ys)[j]? = some v → W.cell? (ad.add j) = some v := by
    intro j v hj
    have hjl : j < ys.length := by
      have := (List.getElem?_eq_some_iff.1 hj).1
      rwa [encs_length] at this
    rw [hcell j hjl, ← hj]
    simp [encs, hjl]
  have hel : (encs (Value.int .u8) ys).length = ys.length := encs_length _
  have hcl : cur.toList.length = cap := by rw [Array.length_toList, hcs, Nat.mul_one]
  refine ⟨W.setRow g (cur.toList.take a ++ encs (Value.int .u8) ys ++ cur.toList.drop (a + (encs (Value.int .u8) ys).length)).toArray, fun C => ?_, ?_, ?_, ?_⟩
  · have := run_copy_row (P := P) W dT sT ty e g a ys.length C ad ys.length c3 cur e (encs (Value.int .u8) ys) hu hi hg (by rw [hel]; exact (Nat.min_self _).symm) hce (by rw [hel, hcs, Nat.mul_one]; omega) (by
      intro v hv
      obtain ⟨z, _, rfl⟩ := List.mem_map.1 hv
      rfl)
    rw [hel] at this ⊢
    exact this
  · have hl : (xs.take a ++ ys ++ xs.drop (a + ys.length)).length = xs.length := by
      simp only [List.length_append, List.length_take, List.length_drop]; omega
    refine Kd.R_of_own ?_ h.1
    rw [hl]
    refine ⟨by rw [encs_length, hl, Nat.mul_one], .inr ⟨g, cap, _, rfl, hb, setRow_heap _ _ cur _ e (0, 0) hg, hnc, hcm, ?_, ?_⟩⟩
    · simp only [List.size_toArray, List.length_append, List.length_take, List.length_drop, hel, hcl]; omega
    · rw [Nat.mul_one] at htk ⊢
      rw [hel]
      have e1 : cur.toList.take a = encs (Value.int .u8) (xs.take a) := by
        have := congrArg (List.take a) htk
        rw [List.take_take, Nat.min_eq_left (by omega)] at this
        rw [this]; simp [encs, List.map_take]
      have e2 : (cur.toList.drop (a + ys.length)).take (xs.length - (a + ys.length)) = encs (Value.int .u8) (xs.drop (a + ys.length)) := by
        have := congrArg (List.drop (a + ys.length)) htk
        rw [List.drop_take] at this
        rw [this]; simp [encs, List.map_drop]
      rw [List.toList_toArray, e1]
      have e3 : xs.length = ((encs (Value.int .u8) (xs.take a) ++ encs (Value.int .u8) ys).length) + (xs.length - (a + ys.length)) := by
        simp only [List.length_append, encs_length, List.length_take]; omega
      conv => lhs; rw [e3]
      rw [List.take_length_add_append, e2]
      simp [encs]
  · exact ⟨rfl, rfl, rfl, by simp, fun k hk hne => setRow_other _ _ _ _ (fun he => hne (by rw [he]))⟩
  · exact ⟨rfl, rfl, rfl, by simp, fun k hk => setRow_other _ _ _ _ (by omega)⟩
theorem cut_own {P : Program} (t e : TypeId) {i : TypeInfo} (ht : P.underlying t = some (.slice e)) (hi : P.info? e = some i) (hsz : i.size = 1) (g n cap : Nat) (a b : Int) (h0 : 0 ≤ a) (h1 : a < b) (hm : b ≤ n) (hc : n ≤ cap) :
    ∀ W : World, (Instr.slice t (.slice (some ⟨g, 0, none⟩) n cap) (some (.int .i64 a)) (some (.int .i64 b)) none).run P W = .ok (.slice (some ⟨g, a.toNat, none⟩) (b.toNat - a.toNat) (cap - a.toNat)) W := by
  intro W
  have hel : P.elem t = e := by simp [Program.elem, ht]
  have hu : P.underlying t = some (.slice (P.elem t)) := by rw [hel]; exact ht
  have hne : ¬ (cap = a.toNat) := by omega
  rw [run_slice_lh W t (some ⟨g, 0, none⟩) n cap hu .i64 .i64 a b h0 (by omega) (by omega), hel]
  simp [sizeOf, typeInfo, hi, hsz, sliced, Result.andThen, hne, add_plain]
end Go.Proofs.Ytopmjjnkolfciaa.Pg
end
section
namespace Go.Proofs.Ytopmjjnkolfciaa.Pr
open Go.RowKit Go.Proofs.YtopmjjnkolfciaaW.PrintWords Go.Proofs.YtopmjjnkolfciaaW.PrintLast Go.Proofs.YtopmjjnkolfciaaW.PrintMore
attribute [local go_sem] max2_int min2_int max_two min_two max_three min_three max_four min_four
attribute [local go_sem] Go.Proofs.Ytopmjjnkolfciaa.Hl.str_geq Go.Proofs.Ytopmjjnkolfciaa.Hl.str_gtr Go.Proofs.Ytopmjjnkolfciaa.Hl.str_leq
set_option linter.unusedVariables false
set_option linter.unusedSimpArgs false
theorem crc_bytes_len:∀ (k:Nat) (x0:Int) (x5:List Int) (x12 x13:Int) (r:List Int),crc_Bytes.l0 k x0 x5 x12 x13=some r→r.length=x5.length
 | 0,_,_,_,_,_,h=>by (first|(cases h;done)|(simp [crc_Bytes.l0] at h;done))
 | k+1,x0,x5,x12,x13,r,h=>by
  simp only [crc_Bytes.l0] at h
  repeat' (first|(split at h)|(cases h;done))
  ·have:=crc_bytes_len k _ _ _ _ _ h
   rw [this,List.length_set]
  ·cases h;rfl
theorem crc_bytes_f_len (k:Nat) (v:Int) (n:Nat) (r:List Int) (hn:n≤8) (h:crc_Bytes.f k v n=some r):r.length=n:=by
 have hm:mx 0 (mn (n:Int) 8)=n:=by unfold mx mn;split<;>split<;>omega
 unfold crc_Bytes.f at h
 rw [hm] at h
 rw [if_pos (by omega),if_pos (by omega)] at h
 have:=crc_bytes_len _ _ _ _ _ _ ((Option.bind_some _ _).symm.trans h)
 rw [this,List.length_replicate]
 omega
def extent_page_put.f (k:Nat) (l0:List Int) (a1 a2 a3:Int):Option (List Int):=if ((0≤a1∧0 < a2)∧a2≤8)∧a1+a2≤(l0.length:Int) then ((crc_Bytes.f k (IntKind.u64.wrap a3) a2).bind fun y=>(some (l0.take a1.toNat++y++l0.drop (a1.toNat+a2.toNat)))) else none
set_option maxHeartbeats 8000000 in
set_option maxRecDepth 100000 in
theorem extent_page_put.calls (k:Nat) (P0_:Nat→Prop) (u9000_:Value) (l0:List Int) (a1:Int) (a2:Int) (a3:Int) (r:List Int) (w0 w:World) (hB:Below w0.heap.size w0 w) (ho0:Kd.R (Kd.int .u8) 5 w w0.heap.size P0_ u9000_ l0) (h:extent_page_put.f k l0 a1 a2 a3=some r) :
  Calls Try.prog 51 #[u9000_,.int .i64 a1,.int .i64 a2,.int .i64 a3] w fun e w'=>e=.returned (.tuple #[])∧Kd.R (Kd.int .u8) 5 w' w0.heap.size (fun k_=>(P0_ k_∨w.heap.size≤k_)) u9000_ r∧Below w0.heap.size w0 w'∧Kept w w' (fun k_=>P0_ k_):=by
 unfold extent_page_put.f at h
 by_cases hc:((0≤a1∧0 < a2)∧a2≤8)∧a1+a2≤(l0.length:Int)
 ·rw [if_pos hc] at h
  obtain ⟨⟨⟨h1,h2⟩,h3⟩,h4⟩:=hc
  obtain ⟨y,hy,h⟩:=Option.bind_eq_some_iff.1 h
  have h:=Option.some.inj h
  have hyl:y.length=a2.toNat:=crc_bytes_f_len k _ a2.toNat y (by omega) (by rw [show ((a2.toNat:Nat):Int)=a2 by omega];exact hy)
  have hfo:=Kd.R_form ho0 (show 0 < l0.length by omega)
  obtain ⟨g,cap,rfl,hbg,hglt,cells,hcells⟩:=hfo
  have hcl:l0.length≤cap∧cap≤maxLen:=by
   rcases (Kd.own_of_R ho0).2 with ⟨_,h0⟩|⟨g',cap',cur,hv,hb,hg,hnc,hcm,hcs,htk⟩
   (omega)
   ·injection hv with _ _ hv2
    subst hv2
    exact ⟨hnc,hcm⟩
  have hP:P0_ g:=ho0.1 g rfl
  have hw64:wrap64 (a1+a2)=a1+a2:=by have:=hcl.1;have:=hcl.2;unfold maxLen at this;unfold wrap64;omega
  obtain ⟨i08,hi08,_,hsz8,_⟩:=info_parts info5
  have hcut:=Pg.cut_own (P:=Try.prog) 73 5 Try.underlying73 hi08 hsz8 g l0.length cap a1 (wrap64 (a1+a2)) h1 (by rw [hw64];omega) (by rw [hw64];exact h4) hcl.1
  rw [show (wrap64 (a1+a2)).toNat - a1.toNat=y.length by rw [hw64,hyl];omega] at hcut
  have hsize:(Try.prog.info? 5).map (·.size)=some 1:=by rw [hi08];simp [hsz8]
  have HO:=am ho0
  have HB:=am hB
  have HY:=am hy
  have HYL:=am hyl
  have HH:=am h
  have HP:=am hP
  have HS:=am (show a1.toNat+y.length≤l0.length by omega)
  have HS0:=am (show 0 < y.length by omega)
  have HBG:=am hbg
  have HSZ:=am hsize
  clear ho0 hB hy hyl h hP hbg hglt hcells hcl hw64 hi08 hsz8 h1 h2 h3 h4 hsize
  go_enter Try.func51,Try.ntmps51
  refine start_ (n:=11) (S:=fun w'=>True) (ds:=[]) _ (by kernel_rfl) rfl rfl trivial (fun hHeld=>?_)
  refine pK 0 8 ?_;refine pK 1 9 ?_;refine pK 2 10 ?_;refine pK 3 11 ?_;refine pK 4 12 ?_;refine pK 5 13 ?_;refine pK 6 14 ?_;refine pK 7 15 ?_;refine pK 8 16 ?_
  refine oK 9 (some 17) (fun K hK=>?_)
  refine gS Try.func74 #[.int .u64 (IntKind.u64.wrap a3),.int .i64 a2] ?_
  with_reducible refine (crc_Bytes.calls k (IntKind.u64.wrap a3) a2 y _ HY.out).mono ?_
  rintro e w3 ⟨v3,rfl,ho3,hb3⟩
  refine ⟨_,rfl,?_⟩
  obtain ⟨A3,c3,rfl,hc3,hr3⟩:=Kd.R_reads ho3
  have hO3:=Kd.R_below (Kd.R_drew HO.out) hb3
  have hB3:=HB.out.trans ((below_drew1 (Below.refl w.heap.size w)).trans (hb3.mono (Nat.le_refl _)) |>.mono HB.out.size)
  obtain ⟨w5,hrun,hO5,hg5,hbb5⟩:=Pg.splice_row hO3 a1.toNat HS0.out HS.out 73 46 3 Try.underlying73 HSZ.out A3 c3 hr3
  refine hK.out _ _ trivial (fun hHeld=>?_)
  clear hK K;refine norm_ (a':=?_) ?_ ?_;rotate_left
  ·show Act.put _ (some 17) _=_
   simp only [Act.put,sIb,sC0,sCs,i64_w,i32_w];rfl
  refine oK 10 (some 18) (fun K hK=>?_)
  refine Rw.copy_step w3 (by rfl) (.tmp 13) (.tmp 17) 73 46 rfl (.slice (some ⟨g,a1.toNat,none⟩) y.length (cap - a1.toNat)) (.slice A3 y.length c3) rfl rfl (v':=goInt y.length) (w':=w5) (hrun _) ?_
  refine hK.out _ _ trivial (fun hHeld=>?_)
  clear hK K;refine norm_ (a':=?_) ?_ ?_;rotate_left
  ·show Act.put _ (some 18) _=_
   simp only [Act.put,sIb,sC0,sCs,i64_w,i32_w];rfl
  refine done_ (by kernel_rfl) ?_
  go_end0
  rw [HYL.out] at hO5
  rw [← HH.out]
  exact ⟨rfl,Kd.R_mono hO5 (fun _ hk=>.inl hk),hB3.trans hbb5,Kept.of_grown hg5 ((Kept.refl w (fun k_=>P0_ k_)).drew.below hb3) (fun k e=>.inl (by have:=Option.some.inj e;subst this;exact HP.out))⟩
 ·rw [if_neg hc] at h
  cases h
def extent_page_list.l0:Nat→List Int→List (S24)→Int→Int→Option (List Int)
 | 0,_,_,_,_=>none
 | k+1,x0,x11,x12,x13=>if x13 < x12 then (if 0≤x13 then (if x13 < (x11.length:Int) then ((extent_page_put.f k x0 (wrap64 (4+(wrap64 (12*x13)))) 4 ((rd_T24 x11 x13).f0)).bind fun t349=>((extent_page_put.f k t349 (wrap64 ((wrap64 (4+(wrap64 (12*x13))))+4)) 4 ((rd_T24 x11 x13).f1)).bind fun t350=>((extent_page_put.f k t350 (wrap64 ((wrap64 (4+(wrap64 (12*x13))))+8)) 2 ((rd_T24 x11 x13).f2)).bind fun t351=>(if (rd_T24 x11 x13).f3=true then ((extent_page_put.f k t351 (wrap64 ((wrap64 (4+(wrap64 (12*x13))))+10)) 2 1).bind fun t352=>(extent_page_list.l0 k t352 x11 x12 (wrap64 (x13+1)))) else (extent_page_list.l0 k t351 x11 x12 (wrap64 (x13+1))))))) else (none)) else (none)) else (some x0)
def extent_page_list.f (k:Nat) (l0:List Int) (l1:List (S24)):Option (List Int):=(extent_page_put.f k l0 0 2 (l1.length:Int)).bind fun t346=>(extent_page_list.l0 k t346 l1 (l1.length:Int) 0)
set_option maxHeartbeats 8000000 in
set_option maxRecDepth 100000 in
theorem extent_page_list.calls (k:Nat) (P0_:Nat→Prop) (u9000_:Value) (l0:List Int) (A1:Option Addr) (c1:Nat) (l1:List (S24)) (r:List Int) (w0 w:World) (hB:Below w0.heap.size w0 w) (ho0:Kd.R (Kd.int .u8) 5 w w0.heap.size P0_ u9000_ l0) (hr1:∀ W_,Kept w W_ (fun k_=>P0_ k_)→Kd.C k24 W_ A1 l1.length l1) (hc1:l1.length≤c1) (h:extent_page_list.f k l0 l1=some r) :
  Calls Try.prog 49 #[u9000_,.slice A1 l1.length c1] w fun e w'=>e=.returned (.tuple #[])∧Kd.R (Kd.int .u8) 5 w' w0.heap.size (fun k_=>(P0_ k_∨w.heap.size≤k_)) u9000_ r∧Below w0.heap.size w0 w'∧Kept w w' (fun k_=>P0_ k_):=by
 have hu24:=Try.underlying24
 have HO0:=am (show Kd.R (Kd.int .u8) 5 w w0.heap.size (fun k_=>(P0_ k_∨w.heap.size≤k_)) u9000_ l0 from Kd.R_mono ho0 (fun k_ hk=>(.inl hk)))
 have HR1:=am hr1
 have HC1:=am hc1
 clear hr1 hc1
 have HK:=am (Kept.refl w (fun k_=>P0_ k_))
 have HW0:=am hB.size
 have HB:=am hB
 clear hB
 have H:((extent_page_put.f k l0 0 2 (l1.length:Int)).bind fun t346=>(extent_page_list.l0 k t346 l1 (l1.length:Int) 0))=some r:=h
 clear h
 replace H:=Option.bind_eq_some_iff.mp H
 obtain ⟨t346,A30,H⟩:=H
 replace H:(extent_page_list.l0 k t346 l1 (l1.length:Int) 0)=some r:=H
 have A3:=am A30
 clear A30
 have H':=am H
 clear H
 obtain ⟨Ao4,co4,eo4⟩:=Kd.R_slice HO0.out
 subst eo4
 go_enter Try.func49,Try.ntmps49
 go_wp2_with (first|((with_reducible refine gate_callee (f:=51) rfl ?_);refine goesL_ (some 10) rfl rfl Try.func51 (by kernel_rfl) rfl #[.slice Ao4 l0.length co4,.int .i64 0,.int .i64 2,.int .i64 (l1.length:Int)] rfl (by (try simp only [List.map_toArray,List.map_cons,List.map_nil]);first|done|rfl|(simp only [List.length_drop,List.length_take];rfl)) ?_;(with_reducible refine (extent_page_put.calls k (fun k_=>some k_=(.slice Ao4 l0.length co4:Value).ownBlock) (.slice Ao4 l0.length co4) l0 0 2 (l1.length:Int) t346 w0 _ ?side1 ?side2 A3.out).mono ?_);(case side1=>repeat (first|(with_reducible first|exact HB.out|apply below_alloc|apply pw_below_drewN|apply below_drew1)|exact HB.out));(case side2=>exact Kd.R_tight rfl HO0.out);rintro e w5 ⟨rfl,hy0,hb,hkp⟩;refine ⟨_,rfl,?_⟩;have n0_:=am (Kd.R_reok rfl hy0 (fun k_ e_=>HO0.out.1 k_ e_));have n1_:=am (Kept.then_ (S:=(fun k_=>P0_ k_)) (by repeat (first|(with_reducible first|exact HK.out|apply Kept.alloc|apply Kept.drewN|apply Kept.drew)|exact HK.out)) hkp (fun k_ hs_=>(fun e_=>(HO0.out.1 k_ e_.symm)) hs_));have n2_:=am (hb);clear HO0;clear HK;clear HB;have HO0:=n0_;have HK:=n1_;have HB:=n2_;clear n0_ n1_ n2_;(try clear hb);(try clear hkp);(try clear hy0)))
 go_loopg [13] k (fun kq v13 w'=>∃ (x0_1:List Int) (x13_1:Int),v13=.int .i64 x13_1∧Aside0 (extent_page_list.l0 kq x0_1 l1 (l1.length:Int) x13_1=some r)∧Aside0 (kq≤k)∧Aside0 (Kd.R (Kd.int .u8) 5 w' w0.heap.size (fun k_=>(P0_ k_∨w.heap.size≤k_)) (.slice Ao4 l0.length co4) x0_1)∧Aside0 (Kept w w' (fun k_=>P0_ k_))∧Aside0 (Below w0.heap.size w0 w'))
 case atStart=>exact ⟨(t346),(0),(by first|rfl|(simp;done)|(simp [*];done)),H',⟨Nat.le_refl _⟩,⟨by (with_reducible repeat (first|apply Kd.R_alloc|apply Kd.R_drewN|apply Kd.R_drew));exact HO0.out⟩,⟨by repeat (first|(with_reducible first|exact HK.out|apply Kept.alloc|apply Kept.drewN|apply Kept.drew)|exact HK.out)⟩,⟨bb HB⟩⟩
 case round =>
  clear H'
  try clear c1
  try clear p2
  try clear c4
  try clear c5
  obtain ⟨x0_1,x13_1,rfl,HA,HK1,HO_0,HK,HB⟩:=hrel
  have hl0_1:=(Kd.R_reads' HO_0.out).1
  rw [hl0_1] at HO_0
  (try simp only [hl0_1])
  cases gk with
  | zero=>exact absurd HA.out (by intro h_;cases h_)
  | succ k1 =>
   have H:=HA.out
   clear HA
   simp only [extent_page_list.l0] at H
   by_cases c6:x13_1 < (l1.length:Int)
   ·rw [if_pos c6] at H
    have c6b0:decide (x13_1 < (l1.length:Int))=true:=decide_eq_true c6
    clear c6
    by_cases c7:0≤x13_1
    ·rw [if_pos c7] at H
     have c7b0:decide (0≤x13_1)=true:=decide_eq_true c7
     clear c7
     by_cases c8:x13_1 < (l1.length:Int)
     ·rw [if_pos c8] at H
      have c8b0:decide (x13_1 < (l1.length:Int))=true:=decide_eq_true c8
      clear c8
      replace H:=Option.bind_eq_some_iff.mp H
      obtain ⟨t349,A90,H⟩:=H
      replace H:((extent_page_put.f k1 t349 (wrap64 ((wrap64 (4+(wrap64 (12*x13_1))))+4)) 4 ((rd_T24 l1 x13_1).f1)).bind fun t350=>((extent_page_put.f k1 t350 (wrap64 ((wrap64 (4+(wrap64 (12*x13_1))))+8)) 2 ((rd_T24 l1 x13_1).f2)).bind fun t351=>(if (rd_T24 l1 x13_1).f3=true then ((extent_page_put.f k1 t351 (wrap64 ((wrap64 (4+(wrap64 (12*x13_1))))+10)) 2 1).bind fun t352=>(extent_page_list.l0 k1 t352 l1 (l1.length:Int) (wrap64 (x13_1+1)))) else (extent_page_list.l0 k1 t351 l1 (l1.length:Int) (wrap64 (x13_1+1))))))=some r:=H
      have A9:=am A90
      clear A90
      replace H:=Option.bind_eq_some_iff.mp H
      obtain ⟨t350,A100,H⟩:=H
      replace H:((extent_page_put.f k1 t350 (wrap64 ((wrap64 (4+(wrap64 (12*x13_1))))+8)) 2 ((rd_T24 l1 x13_1).f2)).bind fun t351=>(if (rd_T24 l1 x13_1).f3=true then ((extent_page_put.f k1 t351 (wrap64 ((wrap64 (4+(wrap64 (12*x13_1))))+10)) 2 1).bind fun t352=>(extent_page_list.l0 k1 t352 l1 (l1.length:Int) (wrap64 (x13_1+1)))) else (extent_page_list.l0 k1 t351 l1 (l1.length:Int) (wrap64 (x13_1+1)))))=some r:=H
      have A10:=am A100
      clear A100
      replace H:=Option.bind_eq_some_iff.mp H
      obtain ⟨t351,A110,H⟩:=H
      replace H:(if (rd_T24 l1 x13_1).f3=true then ((extent_page_put.f k1 t351 (wrap64 ((wrap64 (4+(wrap64 (12*x13_1))))+10)) 2 1).bind fun t352=>(extent_page_list.l0 k1 t352 l1 (l1.length:Int) (wrap64 (x13_1+1)))) else (extent_page_list.l0 k1 t351 l1 (l1.length:Int) (wrap64 (x13_1+1))))=some r:=H
      have A11:=am A110
      clear A110
      obtain ⟨bq12,hbq12⟩:∃ b_:Bool,b_=((rd_T24 l1 x13_1).f3):=⟨_,rfl⟩
      replace H:(if bq12=true then ((extent_page_put.f k1 t351 (wrap64 ((wrap64 (4+(wrap64 (12*x13_1))))+10)) 2 1).bind fun t352=>(extent_page_list.l0 k1 t352 l1 (l1.length:Int) (wrap64 (x13_1+1)))) else (extent_page_list.l0 k1 t351 l1 (l1.length:Int) (wrap64 (x13_1+1))))=some r:=by rw [← hbq12] at H;exact H
      have Nbq12:=am hbq12
      clear hbq12
      by_cases c13:bq12=true
      ·subst c13
       have H1:((extent_page_put.f k1 t351 (wrap64 ((wrap64 (4+(wrap64 (12*x13_1))))+10)) 2 1).bind fun t352=>(extent_page_list.l0 k1 t352 l1 (l1.length:Int) (wrap64 (x13_1+1))))=some r:=by rw [if_pos rfl] at H;exact H
       clear H;have H:=H1;clear H1
       replace H:=Option.bind_eq_some_iff.mp H
       obtain ⟨t352,A140,H⟩:=H
       replace H:(extent_page_list.l0 k1 t352 l1 (l1.length:Int) (wrap64 (x13_1+1)))=some r:=H
       have A14:=am A140
       clear A140
       have H':=am H
       clear H
       have p347:0≤(x13_1:Int):=od
       have q347:x13_1 < (l1.length:Int):=od
       obtain ⟨ad347,e347,hx347_0,hx347_1,hx347_2,hx347_3⟩:=at_T24 (Kd.C_kept_now HR1.out HK.out) x13_1 p347 q347
       (try rw [← Nbq12.out] at hx347_3)
       cases e347
       replace p347:=eq_true p347;replace q347:=eq_true q347
       go_wp2_with (first|((with_reducible refine gate_dst (N:=5) rfl ?_);refine box_event ?hg (N:=5) ?hd (cs:=#[.int .i64 0,.int .i64 0,.int .i64 0,.bool false]) (t:=24) ?hr ?_;(case hd=>rfl);(case hg=>rfl);(case hr=>first|(go_simp;done)|(go_simp;rfl));intro gb348 hg w15 hbox hb;have n0_:=am (Kd.R_below (rR HO_0) hb);have n1_:=am (Kept.below (S:=(fun k_=>P0_ k_)) (by repeat (first|(with_reducible first|exact HK.out|apply Kept.alloc|apply Kept.drewN|apply Kept.drew)|exact HK.out)) hb);have n2_:=bst HB hb;have n3_:=am (hbox);have n4_:=am ((by rw [hg];exact (by first|exact HK.out.1|exact (show Kept w _ (fun k_=>P0_ k_) from by repeat (first|(with_reducible first|exact HK.out|apply Kept.alloc|apply Kept.drewN|apply Kept.drew)|exact HK.out)).1):w.heap.size≤gb348));have n5_:=am ((by rw [hg];exact (bz HB):w0.heap.size≤gb348));clear HO_0;clear HK;clear HB;have HO_0:=n0_;have HK:=n1_;have HB:=n2_;have BK348:=n3_;have GW348:=n4_;have GE348:=n5_;clear n0_ n1_ n2_ n3_ n4_ n5_;clear hb hbox hg;have hcz16_0:w15.cell? ⟨gb348,0,none⟩=some (.int .i64 0):=kc BK348 0;have hcz16_1:w15.cell? ⟨gb348,1,none⟩=some (.int .i64 0):=kc BK348 1;have hcz16_2:w15.cell? ⟨gb348,2,none⟩=some (.int .i64 0):=kc BK348 2;have hcz16_3:w15.cell? ⟨gb348,3,none⟩=some (.bool false):=kc BK348 3;have hfz16_0:=blk_frozen BK348.out 0;have hfz16_1:=blk_frozen BK348.out 1;have hfz16_2:=blk_frozen BK348.out 2;have hfz16_3:=blk_frozen BK348.out 3)|((with_reducible refine gate_store (t:=24) (p:=5) rfl ?_);refine store_event (t:=24) (p:=5) (v:=?vo_w17) (w1:=((((w15.setCell ⟨gb348,0,none⟩ (.int .i64 ((rd_T24 l1 x13_1).f0))).setCell ⟨gb348,1,none⟩ (.int .i64 ((rd_T24 l1 x13_1).f1))).setCell ⟨gb348,2,none⟩ (.int .i64 ((rd_T24 l1 x13_1).f2))).setCell ⟨gb348,3,none⟩ (.bool true))) ?hg ?ho ?hn ?hr ?_;(case ho=>rfl);(case hg=>rfl);(case hn=>rfl);(case hr=>first|(go_simp;done)|(go_simp;rfl));intro w17 hw;have n0_:Aside0 (Kd.R (Kd.int .u8) 5 w17 w0.heap.size (fun k_=>(P0_ k_∨w.heap.size≤k_)) (.slice Ao4 x0_1.length co4) x0_1):=⟨(by rw [hw];exact (by (with_reducible repeat (first|apply Kd.R_alloc|apply Kd.R_drewN|apply Kd.R_drew));exact Kd.R_mono (Kd.R_far (p:=⟨gb348,3,none⟩) (Kd.R_far (p:=⟨gb348,2,none⟩) (Kd.R_far (p:=⟨gb348,1,none⟩) (Kd.R_far (p:=⟨gb348,0,none⟩) (Kd.R_types HO_0.out BK348.out (by decide)) (fun _ hk=>hk.2) (.int .i64 ((rd_T24 l1 x13_1).f0))) (fun _ hk=>hk.2) (.int .i64 ((rd_T24 l1 x13_1).f1))) (fun _ hk=>hk.2) (.int .i64 ((rd_T24 l1 x13_1).f2))) (fun _ hk=>hk.2) (.bool true)) (fun _ hk=>hk.1)))⟩;have n1_:Aside0 (w17.heap[gb348]? = some (.cells #[.int .i64 ((rd_T24 l1 x13_1).f0),.int .i64 ((rd_T24 l1 x13_1).f1),.int .i64 ((rd_T24 l1 x13_1).f2),.bool true] 24 (0,0))):=⟨(by rw [hw];exact (by (with_reducible repeat (first|refine blk_drewN ?_ _|refine blk_drew ?_|refine blk_alloc ?_ _));refine blk_put (cs:=#[.int .i64 ((rd_T24 l1 x13_1).f0),.int .i64 ((rd_T24 l1 x13_1).f1),.int .i64 ((rd_T24 l1 x13_1).f2),.bool false]) ?_ 3 _ rfl;(with_reducible repeat (first|refine blk_drewN ?_ _|refine blk_drew ?_|refine blk_alloc ?_ _));refine blk_put (cs:=#[.int .i64 ((rd_T24 l1 x13_1).f0),.int .i64 ((rd_T24 l1 x13_1).f1),.int .i64 0,.bool false]) ?_ 2 _ rfl;(with_reducible repeat (first|refine blk_drewN ?_ _|refine blk_drew ?_|refine blk_alloc ?_ _));refine blk_put (cs:=#[.int .i64 ((rd_T24 l1 x13_1).f0),.int .i64 0,.int .i64 0,.bool false]) ?_ 1 _ rfl;(with_reducible repeat (first|refine blk_drewN ?_ _|refine blk_drew ?_|refine blk_alloc ?_ _));refine blk_put (cs:=#[.int .i64 0,.int .i64 0,.int .i64 0,.bool false]) ?_ 0 _ rfl;(with_reducible repeat (first|refine blk_drewN ?_ _|refine blk_drew ?_|refine blk_alloc ?_ _));exact BK348.out))⟩;have n2_:Aside0 (Kept w w17 (fun k_=>P0_ k_)):=⟨(by rw [hw];exact (by repeat (first|(with_reducible first|exact HK.out|apply Kept.alloc|apply Kept.drewN|apply Kept.drew|refine Kept.setCell ?_ (.inr GW348.out) _)|exact HK.out)))⟩;have n3_:Aside0 (Below w0.heap.size w0 w17):=⟨(by rw [hw];exact (bxs HB GE348))⟩;clear hw;clear HO_0;clear BK348;clear HK;clear HB;have HO_0:=n0_;have BK348:=n1_;have HK:=n2_;have HB:=n3_;clear n0_ n1_ n2_ n3_;have hcz18_0:w17.cell? ⟨gb348,0,none⟩=some (.int .i64 ((rd_T24 l1 x13_1).f0)):=kc BK348 0;have hcz18_1:w17.cell? ⟨gb348,1,none⟩=some (.int .i64 ((rd_T24 l1 x13_1).f1)):=kc BK348 1;have hcz18_2:w17.cell? ⟨gb348,2,none⟩=some (.int .i64 ((rd_T24 l1 x13_1).f2)):=kc BK348 2;have hcz18_3:w17.cell? ⟨gb348,3,none⟩=some (.bool true):=kc BK348 3;have hfz18_0:=blk_frozen BK348.out 0;have hfz18_1:=blk_frozen BK348.out 1;have hfz18_2:=blk_frozen BK348.out 2;have hfz18_3:=blk_frozen BK348.out 3)|((with_reducible refine gate_callee (f:=51) rfl ?_);refine goesL_ (some 25) rfl rfl Try.func51 (by kernel_rfl) rfl #[.slice Ao4 x0_1.length co4,.int .i64 (wrap64 (4+(wrap64 (12*x13_1)))),.int .i64 4,.int .i64 ((rd_T24 l1 x13_1).f0)] rfl (by (try simp only [List.map_toArray,List.map_cons,List.map_nil]);first|done|rfl|(simp only [List.length_drop,List.length_take];rfl)) ?_;(with_reducible refine (extent_page_put.calls k1 (fun k_=>some k_=(.slice Ao4 x0_1.length co4:Value).ownBlock) (.slice Ao4 x0_1.length co4) x0_1 (wrap64 (4+(wrap64 (12*x13_1)))) 4 ((rd_T24 l1 x13_1).f0) t349 w0 _ ?side1 ?side2 A9.out).mono ?_);(case side1=>repeat (first|(with_reducible first|exact HB.out|apply below_alloc|apply pw_below_drewN|apply below_drew1|refine below_set ?_ GE348.out)|exact HB.out));(case side2=>exact Kd.R_tight rfl HO_0.out);rintro e w19 ⟨rfl,hy0,hb,hkp⟩;refine ⟨_,rfl,?_⟩;have n0_:=am (Kd.R_reok rfl hy0 (fun k_ e_=>HO_0.out.1 k_ e_));have n1_:=am (blk_kept (rK BK348) hkp (fun hs_=>(fun e_=>(Kd.R_ne HO_0.out BK348.out (by decide)) e_) hs_));have n2_:=am (Kept.then_ (S:=(fun k_=>P0_ k_)) (by repeat (first|(with_reducible first|exact HK.out|apply Kept.alloc|apply Kept.drewN|apply Kept.drew|refine Kept.setCell ?_ (.inr GW348.out) _)|exact HK.out)) hkp (fun k_ hs_=>(fun e_=>(HO_0.out.1 k_ e_.symm)) hs_));have n3_:=am (hb);clear HO_0;clear BK348;clear HK;clear HB;have HO_0:=n0_;have BK348:=n1_;have HK:=n2_;have HB:=n3_;clear n0_ n1_ n2_ n3_;(try clear hb);(try clear hkp);(try clear hy0);have hcz20_0:w19.cell? ⟨gb348,0,none⟩=some (.int .i64 ((rd_T24 l1 x13_1).f0)):=kc BK348 0;have hcz20_1:w19.cell? ⟨gb348,1,none⟩=some (.int .i64 ((rd_T24 l1 x13_1).f1)):=kc BK348 1;have hcz20_2:w19.cell? ⟨gb348,2,none⟩=some (.int .i64 ((rd_T24 l1 x13_1).f2)):=kc BK348 2;have hcz20_3:w19.cell? ⟨gb348,3,none⟩=some (.bool true):=kc BK348 3;have hfz20_0:=blk_frozen BK348.out 0;have hfz20_1:=blk_frozen BK348.out 1;have hfz20_2:=blk_frozen BK348.out 2;have hfz20_3:=blk_frozen BK348.out 3)|((with_reducible refine gate_callee (f:=51) rfl ?_);refine goesL_ (some 31) rfl rfl Try.func51 (by kernel_rfl) rfl #[.slice Ao4 x0_1.length co4,.int .i64 (wrap64 ((wrap64 (4+(wrap64 (12*x13_1))))+4)),.int .i64 4,.int .i64 ((rd_T24 l1 x13_1).f1)] rfl (by (try simp only [List.map_toArray,List.map_cons,List.map_nil]);first|done|rfl|(simp only [List.length_drop,List.length_take];rfl)) ?_;(with_reducible refine (extent_page_put.calls k1 (fun k_=>some k_=(.slice Ao4 x0_1.length co4:Value).ownBlock) (.slice Ao4 x0_1.length co4) t349 (wrap64 ((wrap64 (4+(wrap64 (12*x13_1))))+4)) 4 ((rd_T24 l1 x13_1).f1) t350 w0 _ ?side1 ?side2 A10.out).mono ?_);(case side1=>repeat (first|(with_reducible first|exact HB.out|apply below_alloc|apply pw_below_drewN|apply below_drew1|refine below_set ?_ GE348.out)|exact HB.out));(case side2=>exact Kd.R_tight rfl HO_0.out);rintro e w21 ⟨rfl,hy0,hb,hkp⟩;refine ⟨_,rfl,?_⟩;have n0_:=am (Kd.R_reok rfl hy0 (fun k_ e_=>HO_0.out.1 k_ e_));have n1_:=am (blk_kept (rK BK348) hkp (fun hs_=>(fun e_=>(Kd.R_ne HO_0.out BK348.out (by decide)) e_) hs_));have n2_:=am (Kept.then_ (S:=(fun k_=>P0_ k_)) (by repeat (first|(with_reducible first|exact HK.out|apply Kept.alloc|apply Kept.drewN|apply Kept.drew|refine Kept.setCell ?_ (.inr GW348.out) _)|exact HK.out)) hkp (fun k_ hs_=>(fun e_=>(HO_0.out.1 k_ e_.symm)) hs_));have n3_:=am (hb);clear HO_0;clear BK348;clear HK;clear HB;have HO_0:=n0_;have BK348:=n1_;have HK:=n2_;have HB:=n3_;clear n0_ n1_ n2_ n3_;(try clear hb);(try clear hkp);(try clear hy0);have hcz22_0:w21.cell? ⟨gb348,0,none⟩=some (.int .i64 ((rd_T24 l1 x13_1).f0)):=kc BK348 0;have hcz22_1:w21.cell? ⟨gb348,1,none⟩=some (.int .i64 ((rd_T24 l1 x13_1).f1)):=kc BK348 1;have hcz22_2:w21.cell? ⟨gb348,2,none⟩=some (.int .i64 ((rd_T24 l1 x13_1).f2)):=kc BK348 2;have hcz22_3:w21.cell? ⟨gb348,3,none⟩=some (.bool true):=kc BK348 3;have hfz22_0:=blk_frozen BK348.out 0;have hfz22_1:=blk_frozen BK348.out 1;have hfz22_2:=blk_frozen BK348.out 2;have hfz22_3:=blk_frozen BK348.out 3)|((with_reducible refine gate_callee (f:=51) rfl ?_);refine goesL_ (some 37) rfl rfl Try.func51 (by kernel_rfl) rfl #[.slice Ao4 x0_1.length co4,.int .i64 (wrap64 ((wrap64 (4+(wrap64 (12*x13_1))))+8)),.int .i64 2,.int .i64 ((rd_T24 l1 x13_1).f2)] rfl (by (try simp only [List.map_toArray,List.map_cons,List.map_nil]);first|done|rfl|(simp only [List.length_drop,List.length_take];rfl)) ?_;(with_reducible refine (extent_page_put.calls k1 (fun k_=>some k_=(.slice Ao4 x0_1.length co4:Value).ownBlock) (.slice Ao4 x0_1.length co4) t350 (wrap64 ((wrap64 (4+(wrap64 (12*x13_1))))+8)) 2 ((rd_T24 l1 x13_1).f2) t351 w0 _ ?side1 ?side2 A11.out).mono ?_);(case side1=>repeat (first|(with_reducible first|exact HB.out|apply below_alloc|apply pw_below_drewN|apply below_drew1|refine below_set ?_ GE348.out)|exact HB.out));(case side2=>exact Kd.R_tight rfl HO_0.out);rintro e w23 ⟨rfl,hy0,hb,hkp⟩;refine ⟨_,rfl,?_⟩;have n0_:=am (Kd.R_reok rfl hy0 (fun k_ e_=>HO_0.out.1 k_ e_));have n1_:=am (blk_kept (rK BK348) hkp (fun hs_=>(fun e_=>(Kd.R_ne HO_0.out BK348.out (by decide)) e_) hs_));have n2_:=am (Kept.then_ (S:=(fun k_=>P0_ k_)) (by repeat (first|(with_reducible first|exact HK.out|apply Kept.alloc|apply Kept.drewN|apply Kept.drew|refine Kept.setCell ?_ (.inr GW348.out) _)|exact HK.out)) hkp (fun k_ hs_=>(fun e_=>(HO_0.out.1 k_ e_.symm)) hs_));have n3_:=am (hb);clear HO_0;clear BK348;clear HK;clear HB;have HO_0:=n0_;have BK348:=n1_;have HK:=n2_;have HB:=n3_;clear n0_ n1_ n2_ n3_;(try clear hb);(try clear hkp);(try clear hy0);have hcz24_0:w23.cell? ⟨gb348,0,none⟩=some (.int .i64 ((rd_T24 l1 x13_1).f0)):=kc BK348 0;have hcz24_1:w23.cell? ⟨gb348,1,none⟩=some (.int .i64 ((rd_T24 l1 x13_1).f1)):=kc BK348 1;have hcz24_2:w23.cell? ⟨gb348,2,none⟩=some (.int .i64 ((rd_T24 l1 x13_1).f2)):=kc BK348 2;have hcz24_3:w23.cell? ⟨gb348,3,none⟩=some (.bool true):=kc BK348 3;have hfz24_0:=blk_frozen BK348.out 0;have hfz24_1:=blk_frozen BK348.out 1;have hfz24_2:=blk_frozen BK348.out 2;have hfz24_3:=blk_frozen BK348.out 3)|((with_reducible refine gate_callee (f:=51) rfl ?_);refine goesL_ (some 43) rfl rfl Try.func51 (by kernel_rfl) rfl #[.slice Ao4 x0_1.length co4,.int .i64 (wrap64 ((wrap64 (4+(wrap64 (12*x13_1))))+10)),.int .i64 2,.int .i64 1] rfl (by (try simp only [List.map_toArray,List.map_cons,List.map_nil]);first|done|rfl|(simp only [List.length_drop,List.length_take];rfl)) ?_;(with_reducible refine (extent_page_put.calls k1 (fun k_=>some k_=(.slice Ao4 x0_1.length co4:Value).ownBlock) (.slice Ao4 x0_1.length co4) t351 (wrap64 ((wrap64 (4+(wrap64 (12*x13_1))))+10)) 2 1 t352 w0 _ ?side1 ?side2 A14.out).mono ?_);(case side1=>repeat (first|(with_reducible first|exact HB.out|apply below_alloc|apply pw_below_drewN|apply below_drew1|refine below_set ?_ GE348.out)|exact HB.out));(case side2=>exact Kd.R_tight rfl HO_0.out);rintro e w25 ⟨rfl,hy0,hb,hkp⟩;refine ⟨_,rfl,?_⟩;have n0_:=am (Kd.R_reok rfl hy0 (fun k_ e_=>HO_0.out.1 k_ e_));have n1_:=am (blk_kept (rK BK348) hkp (fun hs_=>(fun e_=>(Kd.R_ne HO_0.out BK348.out (by decide)) e_) hs_));have n2_:=am (Kept.then_ (S:=(fun k_=>P0_ k_)) (by repeat (first|(with_reducible first|exact HK.out|apply Kept.alloc|apply Kept.drewN|apply Kept.drew|refine Kept.setCell ?_ (.inr GW348.out) _)|exact HK.out)) hkp (fun k_ hs_=>(fun e_=>(HO_0.out.1 k_ e_.symm)) hs_));have n3_:=am (hb);clear HO_0;clear BK348;clear HK;clear HB;have HO_0:=n0_;have BK348:=n1_;have HK:=n2_;have HB:=n3_;clear n0_ n1_ n2_ n3_;(try clear hb);(try clear hkp);(try clear hy0)))
       (try simp only [← hl0_1])
       go_roundg k1
       case measure=>have:=HK1.out;omega
       case rel=>exact ⟨(t352),(wrap64 (x13_1+1)),(by first|rfl|(simp;done)|(simp [*];done)),H',⟨by have:=HK1.out;omega⟩,⟨by (try simp only [hl0_1]);(with_reducible repeat (first|apply Kd.R_alloc|apply Kd.R_drewN|apply Kd.R_drew));exact HO_0.out⟩,⟨by repeat (first|(with_reducible first|exact HK.out|apply Kept.alloc|apply Kept.drewN|apply Kept.drew|refine Kept.setCell ?_ (.inr GW348.out) _)|exact HK.out)⟩,⟨bxs HB GE348⟩⟩
      ·replace c13:=Bool.eq_false_iff.mpr c13
       subst c13
       have H1:(extent_page_list.l0 k1 t351 l1 (l1.length:Int) (wrap64 (x13_1+1)))=some r:=by rw [if_neg (show ¬ (false=true) by decide)] at H;exact H
       clear H;have H:=H1;clear H1
       have H':=am H
       clear H
       have p347:0≤(x13_1:Int):=od
       have q347:x13_1 < (l1.length:Int):=od
       obtain ⟨ad347,e347,hx347_0,hx347_1,hx347_2,hx347_3⟩:=at_T24 (Kd.C_kept_now HR1.out HK.out) x13_1 p347 q347
       (try rw [← Nbq12.out] at hx347_3)
       cases e347
       replace p347:=eq_true p347;replace q347:=eq_true q347
       go_wp2_with (first|((with_reducible refine gate_dst (N:=5) rfl ?_);refine box_event ?hg (N:=5) ?hd (cs:=#[.int .i64 0,.int .i64 0,.int .i64 0,.bool false]) (t:=24) ?hr ?_;(case hd=>rfl);(case hg=>rfl);(case hr=>first|(go_simp;done)|(go_simp;rfl));intro gb348 hg w26 hbox hb;have n0_:=am (Kd.R_below (rR HO_0) hb);have n1_:=am (Kept.below (S:=(fun k_=>P0_ k_)) (by repeat (first|(with_reducible first|exact HK.out|apply Kept.alloc|apply Kept.drewN|apply Kept.drew)|exact HK.out)) hb);have n2_:=bst HB hb;have n3_:=am (hbox);have n4_:=am ((by rw [hg];exact (by first|exact HK.out.1|exact (show Kept w _ (fun k_=>P0_ k_) from by repeat (first|(with_reducible first|exact HK.out|apply Kept.alloc|apply Kept.drewN|apply Kept.drew)|exact HK.out)).1):w.heap.size≤gb348));have n5_:=am ((by rw [hg];exact (bz HB):w0.heap.size≤gb348));clear HO_0;clear HK;clear HB;have HO_0:=n0_;have HK:=n1_;have HB:=n2_;have BK348:=n3_;have GW348:=n4_;have GE348:=n5_;clear n0_ n1_ n2_ n3_ n4_ n5_;clear hb hbox hg;have hcz27_0:w26.cell? ⟨gb348,0,none⟩=some (.int .i64 0):=kc BK348 0;have hcz27_1:w26.cell? ⟨gb348,1,none⟩=some (.int .i64 0):=kc BK348 1;have hcz27_2:w26.cell? ⟨gb348,2,none⟩=some (.int .i64 0):=kc BK348 2;have hcz27_3:w26.cell? ⟨gb348,3,none⟩=some (.bool false):=kc BK348 3;have hfz27_0:=blk_frozen BK348.out 0;have hfz27_1:=blk_frozen BK348.out 1;have hfz27_2:=blk_frozen BK348.out 2;have hfz27_3:=blk_frozen BK348.out 3)|((with_reducible refine gate_store (t:=24) (p:=5) rfl ?_);refine store_event (t:=24) (p:=5) (v:=?vo_w28) (w1:=((((w26.setCell ⟨gb348,0,none⟩ (.int .i64 ((rd_T24 l1 x13_1).f0))).setCell ⟨gb348,1,none⟩ (.int .i64 ((rd_T24 l1 x13_1).f1))).setCell ⟨gb348,2,none⟩ (.int .i64 ((rd_T24 l1 x13_1).f2))).setCell ⟨gb348,3,none⟩ (.bool false))) ?hg ?ho ?hn ?hr ?_;(case ho=>rfl);(case hg=>rfl);(case hn=>rfl);(case hr=>first|(go_simp;done)|(go_simp;rfl));intro w28 hw;have n0_:Aside0 (Kd.R (Kd.int .u8) 5 w28 w0.heap.size (fun k_=>(P0_ k_∨w.heap.size≤k_)) (.slice Ao4 x0_1.length co4) x0_1):=⟨(by rw [hw];exact (by (with_reducible repeat (first|apply Kd.R_alloc|apply Kd.R_drewN|apply Kd.R_drew));exact Kd.R_mono (Kd.R_far (p:=⟨gb348,3,none⟩) (Kd.R_far (p:=⟨gb348,2,none⟩) (Kd.R_far (p:=⟨gb348,1,none⟩) (Kd.R_far (p:=⟨gb348,0,none⟩) (Kd.R_types HO_0.out BK348.out (by decide)) (fun _ hk=>hk.2) (.int .i64 ((rd_T24 l1 x13_1).f0))) (fun _ hk=>hk.2) (.int .i64 ((rd_T24 l1 x13_1).f1))) (fun _ hk=>hk.2) (.int .i64 ((rd_T24 l1 x13_1).f2))) (fun _ hk=>hk.2) (.bool false)) (fun _ hk=>hk.1)))⟩;have n1_:Aside0 (w28.heap[gb348]? = some (.cells #[.int .i64 ((rd_T24 l1 x13_1).f0),.int .i64 ((rd_T24 l1 x13_1).f1),.int .i64 ((rd_T24 l1 x13_1).f2),.bool false] 24 (0,0))):=⟨(by rw [hw];exact (by (with_reducible repeat (first|refine blk_drewN ?_ _|refine blk_drew ?_|refine blk_alloc ?_ _));refine blk_put (cs:=#[.int .i64 ((rd_T24 l1 x13_1).f0),.int .i64 ((rd_T24 l1 x13_1).f1),.int .i64 ((rd_T24 l1 x13_1).f2),.bool false]) ?_ 3 _ rfl;(with_reducible repeat (first|refine blk_drewN ?_ _|refine blk_drew ?_|refine blk_alloc ?_ _));refine blk_put (cs:=#[.int .i64 ((rd_T24 l1 x13_1).f0),.int .i64 ((rd_T24 l1 x13_1).f1),.int .i64 0,.bool false]) ?_ 2 _ rfl;(with_reducible repeat (first|refine blk_drewN ?_ _|refine blk_drew ?_|refine blk_alloc ?_ _));refine blk_put (cs:=#[.int .i64 ((rd_T24 l1 x13_1).f0),.int .i64 0,.int .i64 0,.bool false]) ?_ 1 _ rfl;(with_reducible repeat (first|refine blk_drewN ?_ _|refine blk_drew ?_|refine blk_alloc ?_ _));refine blk_put (cs:=#[.int .i64 0,.int .i64 0,.int .i64 0,.bool false]) ?_ 0 _ rfl;(with_reducible repeat (first|refine blk_drewN ?_ _|refine blk_drew ?_|refine blk_alloc ?_ _));exact BK348.out))⟩;have n2_:Aside0 (Kept w w28 (fun k_=>P0_ k_)):=⟨(by rw [hw];exact (by repeat (first|(with_reducible first|exact HK.out|apply Kept.alloc|apply Kept.drewN|apply Kept.drew|refine Kept.setCell ?_ (.inr GW348.out) _)|exact HK.out)))⟩;have n3_:Aside0 (Below w0.heap.size w0 w28):=⟨(by rw [hw];exact (bxs HB GE348))⟩;clear hw;clear HO_0;clear BK348;clear HK;clear HB;have HO_0:=n0_;have BK348:=n1_;have HK:=n2_;have HB:=n3_;clear n0_ n1_ n2_ n3_;have hcz29_0:w28.cell? ⟨gb348,0,none⟩=some (.int .i64 ((rd_T24 l1 x13_1).f0)):=kc BK348 0;have hcz29_1:w28.cell? ⟨gb348,1,none⟩=some (.int .i64 ((rd_T24 l1 x13_1).f1)):=kc BK348 1;have hcz29_2:w28.cell? ⟨gb348,2,none⟩=some (.int .i64 ((rd_T24 l1 x13_1).f2)):=kc BK348 2;have hcz29_3:w28.cell? ⟨gb348,3,none⟩=some (.bool false):=kc BK348 3;have hfz29_0:=blk_frozen BK348.out 0;have hfz29_1:=blk_frozen BK348.out 1;have hfz29_2:=blk_frozen BK348.out 2;have hfz29_3:=blk_frozen BK348.out 3)|((with_reducible refine gate_callee (f:=51) rfl ?_);refine goesL_ (some 25) rfl rfl Try.func51 (by kernel_rfl) rfl #[.slice Ao4 x0_1.length co4,.int .i64 (wrap64 (4+(wrap64 (12*x13_1)))),.int .i64 4,.int .i64 ((rd_T24 l1 x13_1).f0)] rfl (by (try simp only [List.map_toArray,List.map_cons,List.map_nil]);first|done|rfl|(simp only [List.length_drop,List.length_take];rfl)) ?_;(with_reducible refine (extent_page_put.calls k1 (fun k_=>some k_=(.slice Ao4 x0_1.length co4:Value).ownBlock) (.slice Ao4 x0_1.length co4) x0_1 (wrap64 (4+(wrap64 (12*x13_1)))) 4 ((rd_T24 l1 x13_1).f0) t349 w0 _ ?side1 ?side2 A9.out).mono ?_);(case side1=>repeat (first|(with_reducible first|exact HB.out|apply below_alloc|apply pw_below_drewN|apply below_drew1|refine below_set ?_ GE348.out)|exact HB.out));(case side2=>exact Kd.R_tight rfl HO_0.out);rintro e w30 ⟨rfl,hy0,hb,hkp⟩;refine ⟨_,rfl,?_⟩;have n0_:=am (Kd.R_reok rfl hy0 (fun k_ e_=>HO_0.out.1 k_ e_));have n1_:=am (blk_kept (rK BK348) hkp (fun hs_=>(fun e_=>(Kd.R_ne HO_0.out BK348.out (by decide)) e_) hs_));have n2_:=am (Kept.then_ (S:=(fun k_=>P0_ k_)) (by repeat (first|(with_reducible first|exact HK.out|apply Kept.alloc|apply Kept.drewN|apply Kept.drew|refine Kept.setCell ?_ (.inr GW348.out) _)|exact HK.out)) hkp (fun k_ hs_=>(fun e_=>(HO_0.out.1 k_ e_.symm)) hs_));have n3_:=am (hb);clear HO_0;clear BK348;clear HK;clear HB;have HO_0:=n0_;have BK348:=n1_;have HK:=n2_;have HB:=n3_;clear n0_ n1_ n2_ n3_;(try clear hb);(try clear hkp);(try clear hy0);have hcz31_0:w30.cell? ⟨gb348,0,none⟩=some (.int .i64 ((rd_T24 l1 x13_1).f0)):=kc BK348 0;have hcz31_1:w30.cell? ⟨gb348,1,none⟩=some (.int .i64 ((rd_T24 l1 x13_1).f1)):=kc BK348 1;have hcz31_2:w30.cell? ⟨gb348,2,none⟩=some (.int .i64 ((rd_T24 l1 x13_1).f2)):=kc BK348 2;have hcz31_3:w30.cell? ⟨gb348,3,none⟩=some (.bool false):=kc BK348 3;have hfz31_0:=blk_frozen BK348.out 0;have hfz31_1:=blk_frozen BK348.out 1;have hfz31_2:=blk_frozen BK348.out 2;have hfz31_3:=blk_frozen BK348.out 3)|((with_reducible refine gate_callee (f:=51) rfl ?_);refine goesL_ (some 31) rfl rfl Try.func51 (by kernel_rfl) rfl #[.slice Ao4 x0_1.length co4,.int .i64 (wrap64 ((wrap64 (4+(wrap64 (12*x13_1))))+4)),.int .i64 4,.int .i64 ((rd_T24 l1 x13_1).f1)] rfl (by (try simp only [List.map_toArray,List.map_cons,List.map_nil]);first|done|rfl|(simp only [List.length_drop,List.length_take];rfl)) ?_;(with_reducible refine (extent_page_put.calls k1 (fun k_=>some k_=(.slice Ao4 x0_1.length co4:Value).ownBlock) (.slice Ao4 x0_1.length co4) t349 (wrap64 ((wrap64 (4+(wrap64 (12*x13_1))))+4)) 4 ((rd_T24 l1 x13_1).f1) t350 w0 _ ?side1 ?side2 A10.out).mono ?_);(case side1=>repeat (first|(with_reducible first|exact HB.out|apply below_alloc|apply pw_below_drewN|apply below_drew1|refine below_set ?_ GE348.out)|exact HB.out));(case side2=>exact Kd.R_tight rfl HO_0.out);rintro e w32 ⟨rfl,hy0,hb,hkp⟩;refine ⟨_,rfl,?_⟩;have n0_:=am (Kd.R_reok rfl hy0 (fun k_ e_=>HO_0.out.1 k_ e_));have n1_:=am (blk_kept (rK BK348) hkp (fun hs_=>(fun e_=>(Kd.R_ne HO_0.out BK348.out (by decide)) e_) hs_));have n2_:=am (Kept.then_ (S:=(fun k_=>P0_ k_)) (by repeat (first|(with_reducible first|exact HK.out|apply Kept.alloc|apply Kept.drewN|apply Kept.drew|refine Kept.setCell ?_ (.inr GW348.out) _)|exact HK.out)) hkp (fun k_ hs_=>(fun e_=>(HO_0.out.1 k_ e_.symm)) hs_));have n3_:=am (hb);clear HO_0;clear BK348;clear HK;clear HB;have HO_0:=n0_;have BK348:=n1_;have HK:=n2_;have HB:=n3_;clear n0_ n1_ n2_ n3_;(try clear hb);(try clear hkp);(try clear hy0);have hcz33_0:w32.cell? ⟨gb348,0,none⟩=some (.int .i64 ((rd_T24 l1 x13_1).f0)):=kc BK348 0;have hcz33_1:w32.cell? ⟨gb348,1,none⟩=some (.int .i64 ((rd_T24 l1 x13_1).f1)):=kc BK348 1;have hcz33_2:w32.cell? ⟨gb348,2,none⟩=some (.int .i64 ((rd_T24 l1 x13_1).f2)):=kc BK348 2;have hcz33_3:w32.cell? ⟨gb348,3,none⟩=some (.bool false):=kc BK348 3;have hfz33_0:=blk_frozen BK348.out 0;have hfz33_1:=blk_frozen BK348.out 1;have hfz33_2:=blk_frozen BK348.out 2;have hfz33_3:=blk_frozen BK348.out 3)|((with_reducible refine gate_callee (f:=51) rfl ?_);refine goesL_ (some 37) rfl rfl Try.func51 (by kernel_rfl) rfl #[.slice Ao4 x0_1.length co4,.int .i64 (wrap64 ((wrap64 (4+(wrap64 (12*x13_1))))+8)),.int .i64 2,.int .i64 ((rd_T24 l1 x13_1).f2)] rfl (by (try simp only [List.map_toArray,List.map_cons,List.map_nil]);first|done|rfl|(simp only [List.length_drop,List.length_take];rfl)) ?_;(with_reducible refine (extent_page_put.calls k1 (fun k_=>some k_=(.slice Ao4 x0_1.length co4:Value).ownBlock) (.slice Ao4 x0_1.length co4) t350 (wrap64 ((wrap64 (4+(wrap64 (12*x13_1))))+8)) 2 ((rd_T24 l1 x13_1).f2) t351 w0 _ ?side1 ?side2 A11.out).mono ?_);(case side1=>repeat (first|(with_reducible first|exact HB.out|apply below_alloc|apply pw_below_drewN|apply below_drew1|refine below_set ?_ GE348.out)|exact HB.out));(case side2=>exact Kd.R_tight rfl HO_0.out);rintro e w34 ⟨rfl,hy0,hb,hkp⟩;refine ⟨_,rfl,?_⟩;have n0_:=am (Kd.R_reok rfl hy0 (fun k_ e_=>HO_0.out.1 k_ e_));have n1_:=am (blk_kept (rK BK348) hkp (fun hs_=>(fun e_=>(Kd.R_ne HO_0.out BK348.out (by decide)) e_) hs_));have n2_:=am (Kept.then_ (S:=(fun k_=>P0_ k_)) (by repeat (first|(with_reducible first|exact HK.out|apply Kept.alloc|apply Kept.drewN|apply Kept.drew|refine Kept.setCell ?_ (.inr GW348.out) _)|exact HK.out)) hkp (fun k_ hs_=>(fun e_=>(HO_0.out.1 k_ e_.symm)) hs_));have n3_:=am (hb);clear HO_0;clear BK348;clear HK;clear HB;have HO_0:=n0_;have BK348:=n1_;have HK:=n2_;have HB:=n3_;clear n0_ n1_ n2_ n3_;(try clear hb);(try clear hkp);(try clear hy0);have hcz35_0:w34.cell? ⟨gb348,0,none⟩=some (.int .i64 ((rd_T24 l1 x13_1).f0)):=kc BK348 0;have hcz35_1:w34.cell? ⟨gb348,1,none⟩=some (.int .i64 ((rd_T24 l1 x13_1).f1)):=kc BK348 1;have hcz35_2:w34.cell? ⟨gb348,2,none⟩=some (.int .i64 ((rd_T24 l1 x13_1).f2)):=kc BK348 2;have hcz35_3:w34.cell? ⟨gb348,3,none⟩=some (.bool false):=kc BK348 3;have hfz35_0:=blk_frozen BK348.out 0;have hfz35_1:=blk_frozen BK348.out 1;have hfz35_2:=blk_frozen BK348.out 2;have hfz35_3:=blk_frozen BK348.out 3))
       (try simp only [← hl0_1])
       go_roundg k1
       case measure=>have:=HK1.out;omega
       case rel=>exact ⟨(t351),(wrap64 (x13_1+1)),(by first|rfl|(simp;done)|(simp [*];done)),H',⟨by have:=HK1.out;omega⟩,⟨by (try simp only [hl0_1]);(with_reducible repeat (first|apply Kd.R_alloc|apply Kd.R_drewN|apply Kd.R_drew));exact HO_0.out⟩,⟨by repeat (first|(with_reducible first|exact HK.out|apply Kept.alloc|apply Kept.drewN|apply Kept.drew|refine Kept.setCell ?_ (.inr GW348.out) _)|exact HK.out)⟩,⟨bxs HB GE348⟩⟩
     ·rw [if_neg c8] at H
      exact absurd H (by simp)
    ·rw [if_neg c7] at H
     exact absurd H (by simp)
   ·rw [if_neg c6] at H
    have c6b0:decide (x13_1 < (l1.length:Int))=false:=decide_eq_false c6
    clear c6;obtain rfl:=Option.some.inj H;go_wp2
    first|go_end0|((try simp only [Exit.inBlock,Exit.then]);refine bodyPost_ret (results_none rfl _ _ _) rfl ?_)
    exact ⟨by first|rfl|(simp [errW_none,errW_some]<;>rfl)|(simp [*,errW_none,errW_some]<;>rfl),(by first|exact (rR HO_0)|(simp only [hl0_1];exact (rR HO_0))),bb HB,by repeat (first|(with_reducible first|exact HK.out|apply Kept.alloc|apply Kept.drewN|apply Kept.drew)|exact HK.out)⟩
def extent_index.l0:Nat→List Int→List Int→Int→Int→Option (List Int)
 | 0,_,_,_,_=>none
 | k+1,x3,x13,x14,x15=>if x15 < x14 then (if 0≤x15 then (if x15 < (x13.length:Int) then ((extent_page_put.f k x3 (wrap64 (4+(wrap64 (4*x15)))) 4 (rd x13 x15)).bind fun t363=>(extent_index.l0 k t363 x13 x14 (wrap64 (x15+1)))) else (none)) else (none)) else (some x3)
def extent_index.f (k:Nat) (l0:List Int):Option (List Int):=if 60≤281474976710656 then ((extent_page_put.f k (List.replicate 60 0) 0 2 (l0.length:Int)).bind fun t360=>((extent_page_put.f k t360 2 2 1).bind fun t361=>(extent_index.l0 k t361 l0 (l0.length:Int) 0))) else (none)
set_option maxHeartbeats 8000000 in
set_option maxRecDepth 100000 in
theorem extent_index.calls (k:Nat) (A0:Option Addr) (c0:Nat) (l0:List Int) (r:List Int) (w:World) (hr0:Kd.C (Kd.int .i64) w A0 l0.length l0) (hc0:l0.length≤c0) (h:extent_index.f k l0=some r) :
  Calls Try.prog 53 #[.slice A0 l0.length c0] w fun e w'=>∃ v0_:Value,e=.returned (v0_)∧Kd.R (Kd.int .u8) 5 w' w.heap.size (fun _=>True) v0_ r∧Below w.heap.size w w':=by
 have HR0:=am hr0
 have HC0:=am hc0
 clear hr0 hc0
 have HB:=am (Below.refl w.heap.size w)
 have H:(if 60≤281474976710656 then ((extent_page_put.f k (List.replicate 60 0) 0 2 (l0.length:Int)).bind fun t360=>((extent_page_put.f k t360 2 2 1).bind fun t361=>(extent_index.l0 k t361 l0 (l0.length:Int) 0))) else (none))=some r:=h
 clear h
 by_cases c2:60≤281474976710656
 ·rw [if_pos c2] at H
  have c2b0:=eq_true c2
  have c2b1:decide (60≤281474976710656)=true:=decide_eq_true c2
  clear c2
  obtain ⟨y357,hy357⟩:∃ y_:List Int,y_=(List.replicate 60 0):=⟨_,rfl⟩
  replace H:((extent_page_put.f k y357 0 2 (l0.length:Int)).bind fun t360=>((extent_page_put.f k t360 2 2 1).bind fun t361=>(extent_index.l0 k t361 l0 (l0.length:Int) 0)))=some r:=by first|(rw [hy357];with_reducible exact H)|(have H2_:=(Option.bind_some _ _).symm.trans H;rw [hy357];with_reducible exact H2_)|(have H2_:=(Option.bind_some _ _).symm.trans H;with_reducible exact H2_)|with_reducible exact H|(rw [hy357];exact H)|exact H
  have Ny357:=am hy357
  clear hy357
  replace H:=Option.bind_eq_some_iff.mp H
  obtain ⟨t360,A30,H⟩:=H
  replace H:((extent_page_put.f k t360 2 2 1).bind fun t361=>(extent_index.l0 k t361 l0 (l0.length:Int) 0))=some r:=H
  have A3:=am A30
  clear A30
  replace H:=Option.bind_eq_some_iff.mp H
  obtain ⟨t361,A40,H⟩:=H
  replace H:(extent_index.l0 k t361 l0 (l0.length:Int) 0)=some r:=H
  have A4:=am A40
  clear A40
  have H':=am H
  clear H
  go_enter Try.func53,Try.ntmps53
  go_wp2_with (first|((with_reducible refine gate_dst (N:=6) rfl ?_);refine Kd.R_make (Kd.int .u8) _ 5 rfl (N:=6) rfl 73 _ _ rfl 60 rfl rfl Try.underlying73 (.int .u8 0) 1 info5 rfl (by decide) (by omega) 0 (ok:=fun _=>True) (okp:=fun _=>True) rfl (fun _ hk=>hk) trivial (by omega) (by omega) (Below.refl _ _) (Nat.le_refl _) ?_;intro v358 w5 ho6 hb hg_ hnew_;clear hg_ hnew_;(first|rw [← Ny357.out] at ho6|(simp only [Int.reduceToNat] at ho6;rw [← Ny357.out] at ho6));have n0_:=am (Kd.R_lower ho6 (bz HB));have n1_:=bst HB hb;clear HB;have HO359:=n0_;have HB:=n1_;clear n0_ n1_;clear hb ho6;obtain ⟨Ao7,co7,eo7⟩:=Kd.R_slice HO359.out;subst eo7)|((with_reducible refine gate_callee (f:=51) rfl ?_);refine goesL_ (some 10) rfl rfl Try.func51 (by kernel_rfl) rfl #[.slice Ao7 y357.length co7,.int .i64 0,.int .i64 2,.int .i64 (l0.length:Int)] rfl (by (try simp only [List.map_toArray,List.map_cons,List.map_nil]);first|done|rfl|(simp only [List.length_drop,List.length_take];rfl)) ?_;(with_reducible refine (extent_page_put.calls k (fun k_=>some k_=(.slice Ao7 y357.length co7:Value).ownBlock) (.slice Ao7 y357.length co7) y357 0 2 (l0.length:Int) t360 w _ ?side1 ?side2 A3.out).mono ?_);(case side1=>repeat (first|(with_reducible first|exact HB.out|apply below_alloc|apply pw_below_drewN|apply below_drew1)|exact HB.out));(case side2=>exact Kd.R_tight rfl HO359.out);rintro e w8 ⟨rfl,hy0,hb,hkp⟩;refine ⟨_,rfl,?_⟩;have n0_:=am (Kd.R_reok rfl hy0 (fun k_ e_=>HO359.out.1 k_ e_));have n1_:=am (hb);clear HO359;clear HB;have HO359:=n0_;have HB:=n1_;clear n0_ n1_;(try clear hb);(try clear hkp);(try clear hy0))|((with_reducible refine gate_callee (f:=51) rfl ?_);refine goesL_ (some 12) rfl rfl Try.func51 (by kernel_rfl) rfl #[.slice Ao7 y357.length co7,.int .i64 2,.int .i64 2,.int .i64 1] rfl (by (try simp only [List.map_toArray,List.map_cons,List.map_nil]);first|done|rfl|(simp only [List.length_drop,List.length_take];rfl)) ?_;(with_reducible refine (extent_page_put.calls k (fun k_=>some k_=(.slice Ao7 y357.length co7:Value).ownBlock) (.slice Ao7 y357.length co7) t360 2 2 1 t361 w _ ?side1 ?side2 A4.out).mono ?_);(case side1=>repeat (first|(with_reducible first|exact HB.out|apply below_alloc|apply pw_below_drewN|apply below_drew1)|exact HB.out));(case side2=>exact Kd.R_tight rfl HO359.out);rintro e w9 ⟨rfl,hy0,hb,hkp⟩;refine ⟨_,rfl,?_⟩;have n0_:=am (Kd.R_reok rfl hy0 (fun k_ e_=>HO359.out.1 k_ e_));have n1_:=am (hb);clear HO359;clear HB;have HO359:=n0_;have HB:=n1_;clear n0_ n1_;(try clear hb);(try clear hkp);(try clear hy0)))
  go_loopg [15] k (fun kq v15 w'=>∃ (x3_1:List Int) (x15_1:Int),v15=.int .i64 x15_1∧Aside0 (extent_index.l0 kq x3_1 l0 (l0.length:Int) x15_1=some r)∧Aside0 (kq≤k)∧Aside0 (Kd.R (Kd.int .u8) 5 w' w.heap.size (fun _=>True) (.slice Ao7 y357.length co7) x3_1)∧Aside0 (Below w.heap.size w w'))
  case atStart=>exact ⟨(t361),(0),(by first|rfl|(simp;done)|(simp [*];done)),H',⟨Nat.le_refl _⟩,⟨by (with_reducible repeat (first|apply Kd.R_alloc|apply Kd.R_drewN|apply Kd.R_drew));exact HO359.out⟩,⟨bb HB⟩⟩
  case round =>
   clear H'
   try clear c2
   try clear c2b0
   try clear c2b1
   try clear p2
   try clear c5
   obtain ⟨x3_1,x15_1,rfl,HA,HK1,HO_3,HB⟩:=hrel
   have hl3_1:=(Kd.R_reads' HO_3.out).1
   rw [hl3_1] at HO_3
   (try simp only [hl3_1])
   cases gk with
   | zero=>exact absurd HA.out (by intro h_;cases h_)
   | succ k1 =>
    have H:=HA.out
    clear HA
    simp only [extent_index.l0] at H
    by_cases c10:x15_1 < (l0.length:Int)
    ·rw [if_pos c10] at H
     have c10b0:decide (x15_1 < (l0.length:Int))=true:=decide_eq_true c10
     clear c10
     by_cases c11:0≤x15_1
     ·rw [if_pos c11] at H
      have c11b0:decide (0≤x15_1)=true:=decide_eq_true c11
      clear c11
      by_cases c12:x15_1 < (l0.length:Int)
      ·rw [if_pos c12] at H
       have c12b0:decide (x15_1 < (l0.length:Int))=true:=decide_eq_true c12
       clear c12
       replace H:=Option.bind_eq_some_iff.mp H
       obtain ⟨t363,A130,H⟩:=H
       replace H:(extent_index.l0 k1 t363 l0 (l0.length:Int) (wrap64 (x15_1+1)))=some r:=H
       have A13:=am A130
       clear A130
       have H':=am H
       clear H
       have p362:0≤(x15_1:Int):=od
       have q362:x15_1 < (l0.length:Int):=od
       obtain ⟨ad362,e362,hx362_0⟩:=Kd.at_int HR0.out x15_1 p362 q362
       cases e362
       replace hx362_0:=hB HB hx362_0
       replace p362:=eq_true p362;replace q362:=eq_true q362
       go_wp2_with (first|((with_reducible refine gate_callee (f:=51) rfl ?_);refine goesL_ (some 25) rfl rfl Try.func51 (by kernel_rfl) rfl #[.slice Ao7 x3_1.length co7,.int .i64 (wrap64 (4+(wrap64 (4*x15_1)))),.int .i64 4,.int .i64 (rd l0 x15_1)] rfl (by (try simp only [List.map_toArray,List.map_cons,List.map_nil]);first|done|rfl|(simp only [List.length_drop,List.length_take];rfl)) ?_;(with_reducible refine (extent_page_put.calls k1 (fun k_=>some k_=(.slice Ao7 x3_1.length co7:Value).ownBlock) (.slice Ao7 x3_1.length co7) x3_1 (wrap64 (4+(wrap64 (4*x15_1)))) 4 (rd l0 x15_1) t363 w _ ?side1 ?side2 A13.out).mono ?_);(case side1=>repeat (first|(with_reducible first|exact HB.out|apply below_alloc|apply pw_below_drewN|apply below_drew1)|exact HB.out));(case side2=>exact Kd.R_tight rfl HO_3.out);rintro e w14 ⟨rfl,hy0,hb,hkp⟩;refine ⟨_,rfl,?_⟩;have n0_:=am (Kd.R_reok rfl hy0 (fun k_ e_=>HO_3.out.1 k_ e_));have n1_:=am (hb);clear HO_3;clear HB;have HO_3:=n0_;have HB:=n1_;clear n0_ n1_;(try clear hb);(try clear hkp);(try clear hy0)))
       (try simp only [← hl3_1])
       go_roundg k1
       case measure=>have:=HK1.out;omega
       case rel=>exact ⟨(t363),(wrap64 (x15_1+1)),(by first|rfl|(simp;done)|(simp [*];done)),H',⟨by have:=HK1.out;omega⟩,⟨by (try simp only [hl3_1]);(with_reducible repeat (first|apply Kd.R_alloc|apply Kd.R_drewN|apply Kd.R_drew));exact HO_3.out⟩,⟨bb HB⟩⟩
      ·rw [if_neg c12] at H
       exact absurd H (by simp)
     ·rw [if_neg c11] at H
      exact absurd H (by simp)
    ·rw [if_neg c10] at H
     have c10b0:decide (x15_1 < (l0.length:Int))=false:=decide_eq_false c10
     clear c10;obtain rfl:=Option.some.inj H;go_wp2;go_ret
     exact ⟨_,by first|rfl|(simp [errW_none,errW_some]<;>rfl)|(simp [*,errW_none,errW_some]<;>rfl),by (with_reducible repeat (first|apply Kd.R_alloc|apply Kd.R_drewN|apply Kd.R_drew));exact HO_3.out,bb HB⟩
 ·rw [if_neg c2] at H
  exact absurd H (by simp)
def extent_page_get.f (k:Nat) (l0:List Int) (a1:Int) (a2:Int):Option (Int):=if 0≤a1 then (if a1≤(wrap64 (a1+a2)) then (if (wrap64 (a1+a2))≤(l0.length:Int) then ((crc_Number.f k ((l0.take ((wrap64 (a1+a2)):Int).toNat).drop (a1:Int).toNat)).bind fun bt460=>(some (wrap64 (bt460.1)))) else (none)) else (none)) else (none)
set_option maxHeartbeats 8000000 in
set_option maxRecDepth 100000 in
theorem extent_page_get.calls (k:Nat) (A0:Option Addr) (c0:Nat) (l0:List Int) (a1:Int) (a2:Int) (r:Int) (w:World) (hr0:Kd.C (Kd.int .u8) w A0 l0.length l0) (hc0:l0.length≤c0) (h:extent_page_get.f k l0 a1 a2=some r) :
  Calls Try.prog 59 #[.slice A0 l0.length c0,.int .i64 a1,.int .i64 a2] w fun e w'=>e=.returned (.int .i64 r)∧Drawn0 w w':=by
 have HR0:=am hr0
 have HC0:=am hc0
 clear hr0 hc0
 have H:(if 0≤a1 then (if a1≤(wrap64 (a1+a2)) then (if (wrap64 (a1+a2))≤(l0.length:Int) then ((crc_Number.f k ((l0.take ((wrap64 (a1+a2)):Int).toNat).drop (a1:Int).toNat)).bind fun bt460=>(some (wrap64 (bt460.1)))) else (none)) else (none)) else (none))=some r:=h
 clear h
 by_cases c4:0≤a1
 ·rw [if_pos c4] at H
  have c4b0:=eq_true c4
  have c4b1:decide (0≤a1)=true:=decide_eq_true c4
  clear c4
  by_cases c5:a1≤(wrap64 (a1+a2))
  ·rw [if_pos c5] at H
   have c5b0:=eq_true c5
   have c5b1:decide (a1≤(wrap64 (a1+a2)))=true:=decide_eq_true c5
   by_cases c6:(wrap64 (a1+a2))≤(l0.length:Int)
   ·rw [if_pos c6] at H
    have c6b0:=eq_true c6
    have c6b1:decide ((wrap64 (a1+a2))≤(l0.length:Int))=true:=decide_eq_true c6
    replace H:=Option.bind_eq_some_iff.mp H
    obtain ⟨⟨t460,t461⟩,A70,H⟩:=H
    replace H:(some (wrap64 (t460)))=some r:=H
    have A7:=am A70
    clear A70;obtain rfl:=Option.some.inj H
    obtain ⟨i08,hi08,_,hsz8,_⟩:=info_parts info5
    obtain ⟨A8,hcut8,hA8,hC8⟩:=print_mid_of (P:=Try.prog) (Value.int .u8) 0 73 5 .i64 .i64 Try.underlying73 hi08 hsz8 A0 c0 l0 a1 (wrap64 (a1+a2)) (od) (by first|omega|exact od) (od) HC0.out
    have HR459:=am (Kd.C_of_reads (h1:=fun _=>rfl) (hA8 _ (Kd.reads_of_C HR0.out)))
    have HC459:=am hC8
    clear hA8 hC8 hi08 hsz8
    go_enter Try.func59,Try.ntmps59
    go_wp2_with (first|((with_reducible refine gate_callee (f:=78) rfl ?_);refine goesL_ (some 16) rfl rfl Try.func78 (by kernel_rfl) rfl #[.slice A8 ((l0.take ((wrap64 (a1+a2)):Int).toNat).drop (a1:Int).toNat).length (c0 - a1.toNat)] rfl (by (try simp only [List.map_toArray,List.map_cons,List.map_nil]);first|done|(rw [show ((l0.take ((wrap64 (a1+a2)):Int).toNat).drop (a1:Int).toNat).length=((wrap64 (a1+a2)).toNat - a1.toNat) from (by rw [List.length_drop,List.length_take];have h_:((wrap64 (a1+a2)):Int)≤(l0.length:Int):=od;omega)]<;>rfl)|rfl|(simp only [List.length_drop,List.length_take];rfl)) ?_;(with_reducible refine (crc_Number.calls k _ _ ((l0.take ((wrap64 (a1+a2)):Int).toNat).drop (a1:Int).toNat) t460 t461 _ ?side1 ?side2 A7.out).mono ?_);(case side1=>exact cc HR459.out);(case side2=>exact HC459.out);rintro e w' ⟨rfl,⟨nd,rfl⟩⟩;refine ⟨_,rfl,?_⟩))
    go_ret
    exact ⟨by first|rfl|(simp;done)|(simp [*];done),by repeat (first|exact Drawn0.refl _|apply Drawn0.step)⟩
   ·rw [if_neg c6] at H
    exact absurd H (by simp)
  ·rw [if_neg c5] at H
   exact absurd H (by simp)
 ·rw [if_neg c4] at H
  exact absurd H (by simp)
def extent_page_extents.l0:Nat→List Int→List (S24)→Int→Int→Option ((List (S24)))
 | 0,_,_,_,_=>none
 | k+1,x0,x5,x8,x9=>if x9 < x8 then ((extent_page_get.f k x0 (wrap64 (4+(wrap64 (12*x9)))) 4).bind fun t462=>((extent_page_get.f k x0 (wrap64 ((wrap64 (4+(wrap64 (12*x9))))+4)) 4).bind fun t463=>((extent_page_get.f k x0 (wrap64 ((wrap64 (4+(wrap64 (12*x9))))+8)) 2).bind fun t464=>((extent_page_get.f k x0 (wrap64 ((wrap64 (4+(wrap64 (12*x9))))+10)) 2).bind fun t465=>(if x5.length < 4398046511104 then (extent_page_extents.l0 k x0 (x5++[(⟨t462,t463,t464,(t465==1)⟩:S24)]) x8 (wrap64 (x9+1))) else (none)))))) else (some x5)
def extent_page_extents.f (k:Nat) (l0:List Int) (a1:Int):Option ((List (S24))):=extent_page_extents.l0 k l0 ([]:List (S24)) a1 0
set_option maxHeartbeats 8000000 in
set_option maxRecDepth 100000 in
theorem extent_page_extents.calls (k:Nat) (A0:Option Addr) (c0:Nat) (l0:List Int) (a1:Int) (r:List (S24)) (w:World) (hr0:Kd.C (Kd.int .u8) w A0 l0.length l0) (hc0:l0.length≤c0) (h:extent_page_extents.f k l0 a1=some r) :
  Calls Try.prog 60 #[.slice A0 l0.length c0,.int .i64 a1] w fun e w'=>∃ v0_:Value,e=.returned (v0_)∧Kd.R k24 24 w' w.heap.size (fun _=>True) v0_ r∧Below w.heap.size w w':=by
 have hu24:=Try.underlying24
 have HR0:=am hr0
 have HC0:=am hc0
 clear hr0 hc0
 have HB:=am (Below.refl w.heap.size w)
 have H:(extent_page_extents.l0 k l0 ([]:List (S24)) a1 0)=some r:=h
 clear h
 have H':=am H
 clear H
 go_enter Try.func60,Try.ntmps60
 go_wp2
 go_loopg [5,9] k (fun kq v5 v9 w'=>∃ (x5_1:List (S24)) (x9_1:Int),v9=.int .i64 x9_1∧Aside0 (extent_page_extents.l0 kq l0 x5_1 a1 x9_1=some r)∧Aside0 (kq≤k)∧Aside0 (Kd.R k24 24 w' w.heap.size (fun _=>True) v5 x5_1)∧Aside0 (Below w.heap.size w w'))
 case atStart=>exact ⟨(([]:List (S24))),(0),(by first|rfl|(simp;done)|(simp [*];done)),H',⟨Nat.le_refl _⟩,⟨by first|exact Kd.R_nil _ _ _ _ _|exact Kd.N_nil _ _ _ _ _|exact Kd.V_nil _ _ _ _ _|exact Kd.Q_nil _ _ _ _ _|exact Kd.S_nil _ _ _ _ _⟩,⟨bb HB⟩⟩
 case round =>
  clear H'
  try clear p2
  obtain ⟨x5_1,x9_1,rfl,HA,HK1,HO_5,HB⟩:=hrel
  cases gk with
  | zero=>exact absurd HA.out (by intro h_;cases h_)
  | succ k1 =>
   have H:=HA.out
   clear HA
   simp only [extent_page_extents.l0] at H
   by_cases c3:x9_1 < a1
   ·rw [if_pos c3] at H
    have c3b0:decide (x9_1 < a1)=true:=decide_eq_true c3
    clear c3
    replace H:=Option.bind_eq_some_iff.mp H
    obtain ⟨t462,A40,H⟩:=H
    replace H:((extent_page_get.f k1 l0 (wrap64 ((wrap64 (4+(wrap64 (12*x9_1))))+4)) 4).bind fun t463=>((extent_page_get.f k1 l0 (wrap64 ((wrap64 (4+(wrap64 (12*x9_1))))+8)) 2).bind fun t464=>((extent_page_get.f k1 l0 (wrap64 ((wrap64 (4+(wrap64 (12*x9_1))))+10)) 2).bind fun t465=>(if x5_1.length < 4398046511104 then (extent_page_extents.l0 k1 l0 (x5_1++[(⟨t462,t463,t464,(t465==1)⟩:S24)]) a1 (wrap64 (x9_1+1))) else (none)))))=some r:=H
    have A4:=am A40
    clear A40
    replace H:=Option.bind_eq_some_iff.mp H
    obtain ⟨t463,A50,H⟩:=H
    replace H:((extent_page_get.f k1 l0 (wrap64 ((wrap64 (4+(wrap64 (12*x9_1))))+8)) 2).bind fun t464=>((extent_page_get.f k1 l0 (wrap64 ((wrap64 (4+(wrap64 (12*x9_1))))+10)) 2).bind fun t465=>(if x5_1.length < 4398046511104 then (extent_page_extents.l0 k1 l0 (x5_1++[(⟨t462,t463,t464,(t465==1)⟩:S24)]) a1 (wrap64 (x9_1+1))) else (none))))=some r:=H
    have A5:=am A50
    clear A50
    replace H:=Option.bind_eq_some_iff.mp H
    obtain ⟨t464,A60,H⟩:=H
    replace H:((extent_page_get.f k1 l0 (wrap64 ((wrap64 (4+(wrap64 (12*x9_1))))+10)) 2).bind fun t465=>(if x5_1.length < 4398046511104 then (extent_page_extents.l0 k1 l0 (x5_1++[(⟨t462,t463,t464,(t465==1)⟩:S24)]) a1 (wrap64 (x9_1+1))) else (none)))=some r:=H
    have A6:=am A60
    clear A60
    replace H:=Option.bind_eq_some_iff.mp H
    obtain ⟨t465,A70,H⟩:=H
    replace H:(if x5_1.length < 4398046511104 then (extent_page_extents.l0 k1 l0 (x5_1++[(⟨t462,t463,t464,(t465==1)⟩:S24)]) a1 (wrap64 (x9_1+1))) else (none))=some r:=H
    have A7:=am A70
    clear A70
    by_cases c8:x5_1.length < 4398046511104
    ·rw [if_pos c8] at H
     have LMc8:=am c8
     clear c8
     obtain ⟨y466,hy466⟩:∃ y_:List (S24),y_=(x5_1++[(⟨t462,t463,t464,(t465==1)⟩:S24)]):=⟨_,rfl⟩
     replace H:(extent_page_extents.l0 k1 l0 y466 a1 (wrap64 (x9_1+1)))=some r:=by first|(rw [hy466];with_reducible exact H)|(have H2_:=(Option.bind_some _ _).symm.trans H;rw [hy466];with_reducible exact H2_)|(have H2_:=(Option.bind_some _ _).symm.trans H;with_reducible exact H2_)|with_reducible exact H|(rw [hy466];exact H)|exact H
     have Ny466:=am hy466
     clear hy466
     have H':=am H
     clear H
     go_wp2_with (first|((with_reducible refine gate_callee (f:=59) rfl ?_);refine goesL_ (some 18) rfl rfl Try.func59 (by kernel_rfl) rfl #[.slice A0 l0.length c0,.int .i64 (wrap64 (4+(wrap64 (12*x9_1)))),.int .i64 4] rfl (by (try simp only [List.map_toArray,List.map_cons,List.map_nil]);first|done|rfl|(simp only [List.length_drop,List.length_take];rfl)) ?_;(with_reducible refine (extent_page_get.calls k1 _ _ l0 (wrap64 (4+(wrap64 (12*x9_1)))) 4 t462 _ ?side1 ?side2 A4.out).mono ?_);(case side1=>exact cc (Kd.C_below HR0.out HB.out));(case side2=>exact HC0.out);rintro e w' ⟨rfl,⟨nd,rfl⟩⟩;refine ⟨_,rfl,?_⟩)|((with_reducible refine gate_callee (f:=59) rfl ?_);refine goesL_ (some 22) rfl rfl Try.func59 (by kernel_rfl) rfl #[.slice A0 l0.length c0,.int .i64 (wrap64 ((wrap64 (4+(wrap64 (12*x9_1))))+4)),.int .i64 4] rfl (by (try simp only [List.map_toArray,List.map_cons,List.map_nil]);first|done|rfl|(simp only [List.length_drop,List.length_take];rfl)) ?_;(with_reducible refine (extent_page_get.calls k1 _ _ l0 (wrap64 ((wrap64 (4+(wrap64 (12*x9_1))))+4)) 4 t463 _ ?side1 ?side2 A5.out).mono ?_);(case side1=>repeat (first|exact (Kd.C_below HR0.out (bb HB))|(with_reducible refine Kd.C_alloc ?_ _)|(with_reducible refine Kd.C_drewN ?_ _)|(with_reducible refine Kd.C_drew ?_)));(case side2=>exact HC0.out);rintro e w' ⟨rfl,⟨nd,rfl⟩⟩;refine ⟨_,rfl,?_⟩)|((with_reducible refine gate_callee (f:=59) rfl ?_);refine goesL_ (some 26) rfl rfl Try.func59 (by kernel_rfl) rfl #[.slice A0 l0.length c0,.int .i64 (wrap64 ((wrap64 (4+(wrap64 (12*x9_1))))+8)),.int .i64 2] rfl (by (try simp only [List.map_toArray,List.map_cons,List.map_nil]);first|done|rfl|(simp only [List.length_drop,List.length_take];rfl)) ?_;(with_reducible refine (extent_page_get.calls k1 _ _ l0 (wrap64 ((wrap64 (4+(wrap64 (12*x9_1))))+8)) 2 t464 _ ?side1 ?side2 A6.out).mono ?_);(case side1=>repeat (first|exact (Kd.C_below HR0.out (bb HB))|(with_reducible refine Kd.C_alloc ?_ _)|(with_reducible refine Kd.C_drewN ?_ _)|(with_reducible refine Kd.C_drew ?_)));(case side2=>exact HC0.out);rintro e w' ⟨rfl,⟨nd,rfl⟩⟩;refine ⟨_,rfl,?_⟩)|((with_reducible refine gate_callee (f:=59) rfl ?_);refine goesL_ (some 30) rfl rfl Try.func59 (by kernel_rfl) rfl #[.slice A0 l0.length c0,.int .i64 (wrap64 ((wrap64 (4+(wrap64 (12*x9_1))))+10)),.int .i64 2] rfl (by (try simp only [List.map_toArray,List.map_cons,List.map_nil]);first|done|rfl|(simp only [List.length_drop,List.length_take];rfl)) ?_;(with_reducible refine (extent_page_get.calls k1 _ _ l0 (wrap64 ((wrap64 (4+(wrap64 (12*x9_1))))+10)) 2 t465 _ ?side1 ?side2 A7.out).mono ?_);(case side1=>repeat (first|exact (Kd.C_below HR0.out (bb HB))|(with_reducible refine Kd.C_alloc ?_ _)|(with_reducible refine Kd.C_drewN ?_ _)|(with_reducible refine Kd.C_drew ?_)));(case side2=>exact HC0.out);rintro e w' ⟨rfl,⟨nd,rfl⟩⟩;refine ⟨_,rfl,?_⟩)|((with_reducible refine gate_builtin (b:=.append) (xs:=#[.tmp 15,.tmp 33]) rfl ?_);at_builtin;refine Kd.R_append k24 (w0:=w) w.heap.size rfl (.tmp 15) (.tmp 33) 22 24 (.agg #[(.int .i64 0),(.int .i64 0),(.int .i64 0),(.bool false)]) 32 rfl Try.underlying22 info24 rfl (by decide) (by omega) u5 x5_1 (⟨t462,t463,t464,(t465==1)⟩:S24) [.int .i64 t462,.int .i64 t463,.int .i64 t464,.bool (t465==1)] (fun _=>True) (fun _=>False) rfl rfl ?aP (fun _ hk=>hk.elim) ?aF ?aO ?aB ?aS ?aL ?_;(case aP=>exact k24_mkM _ _ _ (⟨t462,t463,t464,(t465==1)⟩:S24));(case aB=>exact (bb HB));(case aF=>exact (fun _ _=>trivial));(case aO=>exact (rR HO_5));(case aS=>exact (bz HB));(case aL=>have:=LMc8.out;omega);intro v467 w9 ho hb hg hat;rw [← Ny466.out] at ho;have n0_:=am (hb);have n1_:=am (ho);clear HB;clear HO_5;have HB:=n0_;have HO468:=n1_;clear n0_ n1_;clear ho hb hg hat))
     go_roundg k1
     case measure=>have:=HK1.out;omega
     case rel=>exact ⟨(y466),(wrap64 (x9_1+1)),(by first|rfl|(simp;done)|(simp [*];done)),H',⟨by have:=HK1.out;omega⟩,⟨by (with_reducible repeat (first|apply Kd.R_alloc|apply Kd.R_drewN|apply Kd.R_drew));exact HO468.out⟩,⟨bb HB⟩⟩
    ·rw [if_neg c8] at H
     exact absurd H (by simp)
   ·rw [if_neg c3] at H
    have c3b0:decide (x9_1 < a1)=false:=decide_eq_false c3
    clear c3;obtain rfl:=Option.some.inj H;go_wp2;go_ret
    exact ⟨_,by first|rfl|(simp [errW_none,errW_some]<;>rfl)|(simp [*,errW_none,errW_some]<;>rfl),by (with_reducible repeat (first|apply Kd.R_alloc|apply Kd.R_drewN|apply Kd.R_drew));exact HO_5.out,bb HB⟩
def bytes_Equal.f (l0:List Int) (l1:List Int):Option (Bool):=some ((strOfNums l0).toList==(strOfNums l1).toList)
set_option maxHeartbeats 8000000 in
set_option maxRecDepth 100000 in
theorem bytes_Equal.calls (A0:Option Addr) (c0:Nat) (l0:List Int) (A1:Option Addr) (c1:Nat) (l1:List Int) (r:Bool) (w:World) (hr0:Kd.C (Kd.int .u8) w A0 l0.length l0) (hc0:l0.length≤c0) (hr1:Kd.C (Kd.int .u8) w A1 l1.length l1) (hc1:l1.length≤c1) (h:bytes_Equal.f l0 l1=some r) :
  Calls Try.prog 61 #[.slice A0 l0.length c0,.slice A1 l1.length c1] w fun e w'=>e=.returned (.bool r)∧Drawn0 w w':=by
 have HR0:=am hr0
 have HC0:=am hc0
 clear hr0 hc0
 have HR1:=am hr1
 have HC1:=am hc1
 clear hr1 hc1
 have H:(some ((strOfNums l0).toList==(strOfNums l1).toList))=some r:=h
 clear h;obtain rfl:=Option.some.inj H
 have hcv3:=Kd.C_string (P:=Try.prog) (A:=A0) (c:=c0) Try.underlying46 Try.underlying5 Try.underlying9 HR0.out
 have hcv4:=Kd.C_string (P:=Try.prog) (A:=A1) (c:=c1) Try.underlying46 Try.underlying5 Try.underlying9 HR1.out
 go_enter Try.func61,Try.ntmps61
 go_wp2;go_ret
 exact ⟨by first|rfl|(simp;done)|(simp [*];done),by repeat (first|exact Drawn0.refl _|apply Drawn0.step)⟩
def slices_EqualFunc_byte_byte_byte_byte.l0:Nat→List (List Int)→List (List Int)→Int→Option (Bool)
 | 0,_,_,_=>none
 | k+1,l,m,i=>if i < (l.length:Int) then (if 0≤i then (if i < (m.length:Int) then ((bytes_Equal.f (rd_L5 l i) (rd_L5 m i)).bind fun t=>(if t=true then (slices_EqualFunc_byte_byte_byte_byte.l0 k l m (wrap64 (i+1))) else (some false))) else none) else none) else some true
def slices_EqualFunc_byte_byte_byte_byte.f (k:Nat) (l0:List (List Int)) (l1:List (List Int)):Option (Bool):=if (l0.length:Int)=(l1.length:Int) then (slices_EqualFunc_byte_byte_byte_byte.l0 k l0 l1 0) else (some false)
set_option maxHeartbeats 8000000 in
set_option maxRecDepth 100000 in
theorem slices_EqualFunc_byte_byte_byte_byte.calls (k:Nat) (A0:Option Addr) (c0:Nat) (l0:List (List Int)) (A1:Option Addr) (c1:Nat) (l1:List (List Int)) (r:Bool) (w:World) (hr0:Kd.C (Kd.slice 5 (Kd.int .u8)) w A0 l0.length l0) (hc0:l0.length≤c0) (hr1:Kd.C (Kd.slice 5 (Kd.int .u8)) w A1 l1.length l1) (hc1:l1.length≤c1) (h:slices_EqualFunc_byte_byte_byte_byte.f k l0 l1=some r) :
  Calls Try.prog 62 #[.slice A0 l0.length c0,.slice A1 l1.length c1,.func (.func 61) #[] #[]] w fun e w'=>e=.returned (.bool r)∧Below w.heap.size w w':=by
 unfold slices_EqualFunc_byte_byte_byte_byte.f at h
 have HR0:=am hr0
 have HC0:=am hc0
 have HR1:=am hr1
 have HC1:=am hc1
 clear hr0 hc0 hr1 hc1
 by_cases hc:(l0.length:Int)=(l1.length:Int)
 ·rw [if_pos hc] at h
  have hcb:((l0.length:Int) != (l1.length:Int))=false:=bne_eq_false_iff_eq.2 hc
  have HH:=am h
  clear h hc
  go_enter Try.func62,Try.ntmps62
  go_wp2
  go_loopg [17] k (fun kq v17 w'=>∃ (i:Int),v17=.int .i64 i∧Aside0 (slices_EqualFunc_byte_byte_byte_byte.l0 kq l0 l1 i=some r)∧Aside0 (kq≤k)∧Aside0 (Below w.heap.size w w'))
  case atStart=>exact ⟨0,rfl,HH,⟨Nat.le_refl _⟩,⟨Below.refl _ _⟩⟩
  case round =>
   obtain ⟨i,rfl,HL,HK,HB⟩:=hrel
   cases gk with
   | zero=>exact absurd HL.out (by intro h_;cases h_)
   | succ g =>
    have hl:=HL.out
    unfold slices_EqualFunc_byte_byte_byte_byte.l0 at hl
    by_cases hi:i < (l0.length:Int)
    ·rw [if_pos hi] at hl
     by_cases hi0:0≤i
     ·rw [if_pos hi0] at hl
      by_cases hi1:i < (l1.length:Int)
      ·rw [if_pos hi1] at hl
       obtain ⟨t,ht,hl⟩:=Option.bind_eq_some_iff.1 hl
       obtain ⟨ad,A2,c2,ead,hx,hl2,hC2⟩:=at_L5 HR0.out i hi0 hi
       cases ead
       obtain ⟨ae,A3,c3,eae,hy,hl3,hC3⟩:=at_L5 HR1.out i hi0 hi1
       cases eae
       have hxw:=hB HB hx
       have hyw:=hB HB hy
       have HC2:=am hC2
       have HC3:=am hC3
       have HL2:=am hl2
       have HL3:=am hl3
       have HT:=am ht
       have HLL:=am hl
       have hib:decide (i < (l0.length:Int))=true:=decide_eq_true hi
       clear hx hy hl2 hl3 hC2 hC3 ht hl
       replace hi:=eq_true hi
       replace hi0:=eq_true hi0
       replace hi1:=eq_true hi1
       cases t with
       | true =>
        go_wp2_with (go_at_call 61;refine (bytes_Equal.calls A2 c2 (rd_L5 l0 i) A3 c3 (rd_L5 l1 i) true _ (Kd.C_below HC2.out HB.out) HL2.out (Kd.C_below HC3.out HB.out) HL3.out HT.out).mono ?_;rintro e w' ⟨rfl,hd⟩;have HD:=am (HB.out.trans ((Drawn0.below hd).mono HB.out.size)))
        go_roundg g
        case measure=>have:=HK.out;omega
        case rel=>exact ⟨wrap64 (i+1),rfl,⟨by simpa using HLL.out⟩,⟨by have:=HK.out;omega⟩,HD⟩
       | false =>
        obtain rfl:false=r:=by simpa using HLL.out
        go_wp2_with (go_at_call 61;refine (bytes_Equal.calls A2 c2 (rd_L5 l0 i) A3 c3 (rd_L5 l1 i) false _ (Kd.C_below HC2.out HB.out) HL2.out (Kd.C_below HC3.out HB.out) HL3.out HT.out).mono ?_;rintro e w' ⟨rfl,hd⟩;have HD:=am (HB.out.trans ((Drawn0.below hd).mono HB.out.size)))
        go_ret
        exact ⟨rfl,HD.out⟩
      ·rw [if_neg hi1] at hl
       cases hl
     ·rw [if_neg hi0] at hl
      cases hl
    ·rw [if_neg hi] at hl
     obtain rfl:=Option.some.inj hl
     have hib:decide (i < (l0.length:Int))=false:=decide_eq_false hi
     go_wp2;go_ret
     exact ⟨rfl,HB.out⟩
 ·rw [if_neg hc] at h
  obtain rfl:=Option.some.inj h
  have hcb:((l0.length:Int) != (l1.length:Int))=true:=bne_iff_ne.2 hc
  go_enter Try.func62,Try.ntmps62
  go_wp2;go_ret
  exact ⟨rfl,Below.refl _ _⟩
mutual
def r_10_numbers.l0:Nat→List Int→Int→Option (Bool)
 | 0,_,_=>none
 | k+1,x0,x3=>if x3 < (x0.length:Int) then (if 0≤x3 then (if (rd x0 x3) < 1 then (r_10_numbers.j1 k x0 x3 true) else (r_10_numbers.j1 k x0 x3 (decide ((rd x0 x3)≥1024)))) else (none)) else (some true)
def r_10_numbers.j1:Nat→List Int→Int→Bool→Option (Bool)
 | 0,_,_,_=>none
 | k+1,x0,x3,x22=>if x22=true then (some false) else (r_10_numbers.l1 k x0 x3 0)
def r_10_numbers.l1:Nat→List Int→Int→Int→Option (Bool)
 | 0,_,_,_=>none
 | k+1,x0,x3,x4=>if x4 < x3 then (if 0≤x4 then (if x4 < (x0.length:Int) then (if 0≤x3 then (if x3 < (x0.length:Int) then (if (rd x0 x4)=(rd x0 x3) then (some false) else (r_10_numbers.l1 k x0 x3 (wrap64 (x4+1)))) else (none)) else (none)) else (none)) else (none)) else (r_10_numbers.l0 k x0 (wrap64 (x3+1)))
end
def r_10_numbers.f (k:Nat) (l0:List Int):Option (Bool):=r_10_numbers.l0 k l0 0
set_option maxHeartbeats 8000000 in
set_option maxRecDepth 100000 in
theorem r_10_numbers.calls (k:Nat) (A0:Option Addr) (c0:Nat) (l0:List Int) (r:Bool) (w:World) (hr0:Kd.C (Kd.int .i64) w A0 l0.length l0) (hc0:l0.length≤c0) (h:r_10_numbers.f k l0=some r) :
  Calls Try.prog 54 #[.slice A0 l0.length c0] w fun e w'=>e=.returned (.bool r)∧Drawn0 w w':=by
 have HR0:=am hr0
 have HC0:=am hc0
 clear hr0 hc0
 have H:(r_10_numbers.l0 k l0 0)=some r:=h
 clear h
 have H':=am H
 clear H
 go_enter Try.func54,Try.ntmps54
 go_wp2
 repeat (go_quiet (fail);try go_wp2)
 go_loopg [3] k (fun kq v3 w'=>∃ (x3_1:Int),v3=.int .i64 x3_1∧Aside0 (r_10_numbers.l0 kq l0 x3_1=some r)∧Aside0 (kq≤k)∧Drawn0 w w')
 case atStart=>exact ⟨(0),(by first|rfl|(simp;done)|(simp [*];done)),H',⟨Nat.le_refl _⟩,by repeat (first|exact Drawn0.refl _|apply Drawn0.step)⟩
 case round =>
  clear H'
  obtain ⟨x3_1,rfl,HA,HK1,⟨m1,rfl⟩⟩:=hrel
  cases gk with
  | zero=>exact absurd HA.out (by intro h_;cases h_)
  | succ k1 =>
   have H:=HA.out
   clear HA
   simp only [r_10_numbers.l0] at H
   by_cases c2:x3_1 < (l0.length:Int)
   ·rw [if_pos c2] at H
    have c2b0:decide (x3_1 < (l0.length:Int))=true:=decide_eq_true c2
    clear c2
    have HC3:=am H
    clear H
    go_upto_region 4 with (fail)
    repeat (go_quiet (fail);go_upto_region 4 with (fail))
    go_cut [22] (fun v22 wc=>∃ (kq:Nat) (x22_2:Bool),v22=.bool x22_2∧Aside0 (r_10_numbers.j1 kq l0 x3_1 x22_2=some r)∧Aside0 (kq≤k1)∧Drawn0 w wc)
    case first =>
     have H:=HC3.out
     clear HC3
     by_cases c4:0≤x3_1
     ·rw [if_pos c4] at H
      have c4b0:decide (0≤x3_1)=true:=decide_eq_true c4
      clear c4
      (first|rw [c4b0]|(simp only [i64_w,i32_w];rw [c4b0])|skip)
      by_cases c5:(rd l0 x3_1) < 1
      ·rw [if_pos c5] at H
       have c5b0:decide ((rd l0 x3_1) < 1)=true:=decide_eq_true c5
       clear c5
       have H':=am H
       clear H
       have p364:0≤(x3_1:Int):=od
       have q364:x3_1 < (l0.length:Int):=od
       obtain ⟨ad364,e364,hx364_0⟩:=Kd.at_int HR0.out x3_1 p364 q364
       cases e364
       replace p364:=eq_true p364;replace q364:=eq_true q364;go_wp2
       repeat (go_quiet (fail);try go_wp2)
       go_meet
       case rel=>exact ⟨_,(true),(by first|rfl|(simp;done)|(simp [*];done)),H',⟨by have:=HK1.out;first|omega|exact Nat.le_refl _⟩,by repeat (first|exact Drawn0.refl _|apply Drawn0.step)⟩
      ·rw [if_neg c5] at H
       have c5b0:decide ((rd l0 x3_1) < 1)=false:=decide_eq_false c5
       clear c5
       have H':=am H
       clear H
       have p364:0≤(x3_1:Int):=od
       have q364:x3_1 < (l0.length:Int):=od
       obtain ⟨ad364,e364,hx364_0⟩:=Kd.at_int HR0.out x3_1 p364 q364
       cases e364
       replace p364:=eq_true p364;replace q364:=eq_true q364
       have p365:0≤(x3_1:Int):=od
       have q365:x3_1 < (l0.length:Int):=od
       obtain ⟨ad365,e365,hx365_0⟩:=Kd.at_int HR0.out x3_1 p365 q365
       obtain rfl:ad364=ad365:=(by injection e365)
       replace p365:=eq_true p365;replace q365:=eq_true q365;go_wp2
       repeat (go_quiet (fail);try go_wp2)
       go_meet
       case rel=>exact ⟨_,(decide ((rd l0 x3_1)≥1024)),(by first|rfl|(simp;done)|(simp [*];done)),H',⟨by have:=HK1.out;first|omega|exact Nat.le_refl _⟩,by repeat (first|exact Drawn0.refl _|apply Drawn0.step)⟩
     ·rw [if_neg c4] at H
      exact absurd H (by simp)
    case rest =>
     clear HC3
     try clear c2
     try clear c2b0
     try clear p2
     try clear p3
     try clear q3
     try clear hx3
     try clear c4
     try clear c4b0
     try clear c5
     try clear c5b0
     try clear hx364_0
     try clear hx365_0
     try clear p364
     try clear p365
     try clear q364
     try clear q365
     obtain ⟨kq,x22_2,rfl,HA,HJ2,⟨mc2,rfl⟩⟩:=hcut
     cases kq with
     | zero=>exact absurd HA.out (by intro h_;cases h_)
     | succ kj2 =>
      have H:=HA.out
      clear HA
      simp only [r_10_numbers.j1] at H
      by_cases c6:x22_2=true
      ·subst c6
       have H1:(some false)=some r:=by rw [if_pos rfl] at H;exact H
       clear H;have H:=H1;clear H1;obtain rfl:=Option.some.inj H;go_wp2
       repeat (go_quiet (fail);try go_wp2)
       go_ret
       exact ⟨by first|rfl|(simp;done)|(simp [*];done),by repeat (first|exact Drawn0.refl _|apply Drawn0.step)⟩
      ·replace c6:=Bool.eq_false_iff.mpr c6
       subst c6
       have H1:(r_10_numbers.l1 kj2 l0 x3_1 0)=some r:=by rw [if_neg (show ¬ (false=true) by decide)] at H;exact H
       clear H;have H:=H1;clear H1
       have H':=am H
       clear H;go_wp2
       repeat (go_quiet (fail);try go_wp2)
       go_loopg [4] kj2 (fun kq v4 w'=>∃ (x4_3:Int),v4=.int .i64 x4_3∧Aside0 (r_10_numbers.l1 kq l0 x3_1 x4_3=some r)∧Aside0 (kq≤kj2)∧Drawn0 w w')
       case atStart=>exact ⟨(0),(by first|rfl|(simp;done)|(simp [*];done)),H',⟨Nat.le_refl _⟩,by repeat (first|exact Drawn0.refl _|apply Drawn0.step)⟩
       case round =>
        clear H'
        try clear c2
        try clear c2b0
        try clear p2
        try clear p3
        try clear q3
        try clear hx3
        try clear c4
        try clear c4b0
        try clear c5
        try clear c5b0
        try clear c6
        try clear hx364_0
        try clear hx365_0
        try clear p2
        try clear p3
        try clear p364
        try clear p365
        try clear q3
        try clear q364
        try clear q365
        obtain ⟨x4_3,rfl,HA,HK3,⟨m3,rfl⟩⟩:=hrel
        cases gk with
        | zero=>exact absurd HA.out (by intro h_;cases h_)
        | succ k3 =>
         have H:=HA.out
         clear HA
         simp only [r_10_numbers.l1] at H
         by_cases c7:x4_3 < x3_1
         ·rw [if_pos c7] at H
          have c7b0:decide (x4_3 < x3_1)=true:=decide_eq_true c7
          clear c7
          by_cases c8:0≤x4_3
          ·rw [if_pos c8] at H
           have c8b0:decide (0≤x4_3)=true:=decide_eq_true c8
           clear c8
           by_cases c9:x4_3 < (l0.length:Int)
           ·rw [if_pos c9] at H
            have c9b0:decide (x4_3 < (l0.length:Int))=true:=decide_eq_true c9
            clear c9
            by_cases c10:0≤x3_1
            ·rw [if_pos c10] at H
             have c10b0:decide (0≤x3_1)=true:=decide_eq_true c10
             clear c10
             by_cases c11:x3_1 < (l0.length:Int)
             ·rw [if_pos c11] at H
              have c11b0:decide (x3_1 < (l0.length:Int))=true:=decide_eq_true c11
              clear c11
              by_cases c12:(rd l0 x4_3)=(rd l0 x3_1)
              ·rw [if_pos c12] at H
               have c12b0:((rd l0 x4_3)==(rd l0 x3_1))=true:=beq_iff_eq.mpr c12
               have c12b1:((rd l0 x4_3) != (rd l0 x3_1))=false:=bne_eq_false_iff_eq.mpr c12
               clear c12;obtain rfl:=Option.some.inj H
               have p366:0≤(x4_3:Int):=od
               have q366:x4_3 < (l0.length:Int):=od
               obtain ⟨ad366,e366,hx366_0⟩:=Kd.at_int HR0.out x4_3 p366 q366
               cases e366
               replace p366:=eq_true p366;replace q366:=eq_true q366
               have p367:0≤(x3_1:Int):=od
               have q367:x3_1 < (l0.length:Int):=od
               obtain ⟨ad367,e367,hx367_0⟩:=Kd.at_int HR0.out x3_1 p367 q367
               obtain rfl:ad366=ad367:=(by injection e367)
               replace p367:=eq_true p367;replace q367:=eq_true q367;go_wp2
               repeat (go_quiet (fail);try go_wp2)
               go_ret
               exact ⟨by first|rfl|(simp;done)|(simp [*];done),by repeat (first|exact Drawn0.refl _|apply Drawn0.step)⟩
              ·rw [if_neg c12] at H
               have c12b0:((rd l0 x4_3)==(rd l0 x3_1))=false:=beq_eq_false_iff_ne.mpr c12
               have c12b1:((rd l0 x4_3) != (rd l0 x3_1))=true:=bne_iff_ne.mpr c12
               have H':=am H
               clear H
               have p366:0≤(x4_3:Int):=od
               have q366:x4_3 < (l0.length:Int):=od
               obtain ⟨ad366,e366,hx366_0⟩:=Kd.at_int HR0.out x4_3 p366 q366
               cases e366
               replace p366:=eq_true p366;replace q366:=eq_true q366
               have p367:0≤(x3_1:Int):=od
               have q367:x3_1 < (l0.length:Int):=od
               obtain ⟨ad367,e367,hx367_0⟩:=Kd.at_int HR0.out x3_1 p367 q367
               obtain rfl:ad366=ad367:=(by injection e367)
               replace p367:=eq_true p367;replace q367:=eq_true q367;go_wp2
               repeat (go_quiet (fail);try go_wp2)
               go_roundg k3
               case measure=>have:=HK1.out;have:=HJ2.out;have:=HK3.out;omega
               case rel=>exact ⟨(wrap64 (x4_3+1)),(by first|rfl|(simp;done)|(simp [*];done)),H',⟨by have:=HK1.out;have:=HJ2.out;have:=HK3.out;omega⟩,by repeat (first|exact Drawn0.refl _|apply Drawn0.step)⟩
             ·rw [if_neg c11] at H
              exact absurd H (by simp)
            ·rw [if_neg c10] at H
             exact absurd H (by simp)
           ·rw [if_neg c9] at H
            exact absurd H (by simp)
          ·rw [if_neg c8] at H
           exact absurd H (by simp)
         ·rw [if_neg c7] at H
          have c7b0:decide (x4_3 < x3_1)=false:=decide_eq_false c7
          clear c7
          have H':=am H
          clear H;go_wp2
          repeat (go_quiet (fail);try go_wp2)
          go_roundg k3
          case measure=>have:=HK1.out;have:=HJ2.out;have:=HK3.out;omega
          case rel=>exact ⟨(wrap64 (x3_1+1)),(by first|rfl|(simp;done)|(simp [*];done)),H',⟨by have:=HK1.out;have:=HJ2.out;have:=HK3.out;omega⟩,by repeat (first|exact Drawn0.refl _|apply Drawn0.step)⟩
   ·rw [if_neg c2] at H
    have c2b0:decide (x3_1 < (l0.length:Int))=false:=decide_eq_false c2
    clear c2;obtain rfl:=Option.some.inj H;go_wp2
    repeat (go_quiet (fail);try go_wp2)
    go_ret
    exact ⟨by first|rfl|(simp;done)|(simp [*];done),by repeat (first|exact Drawn0.refl _|apply Drawn0.step)⟩
def r_10_filled.l0:Nat→List Int→Int→Option (List Int)
 | 0,_,_=>none
 | k+1,x0,x1=>if (x0.length:Int) < x1 then (if x0.length < 140737488355328 then (r_10_filled.l0 k (x0++[0]) x1) else (none)) else (some x0)
def r_10_filled.f (k:Nat) (l0:List Int) (a1:Int):Option (List Int):=r_10_filled.l0 k l0 a1
set_option maxHeartbeats 8000000 in
set_option maxRecDepth 100000 in
theorem r_10_filled.calls (k:Nat) (P0_:Nat→Prop) (u9000_:Value) (l0:List Int) (a1:Int) (r:List Int) (w0 w:World) (hB:Below w0.heap.size w0 w) (ho0:Kd.R (Kd.int .u8) 5 w w0.heap.size P0_ u9000_ l0) (h:r_10_filled.f k l0 a1=some r) :
  Calls Try.prog 55 #[u9000_,.int .i64 a1] w fun e w'=>∃ v0_:Value,e=.returned (v0_)∧Kd.R (Kd.int .u8) 5 w' w0.heap.size (fun k_=>(P0_ k_∨w.heap.size≤k_)) v0_ r∧Below w0.heap.size w0 w'∧Kept w w' (fun k_=>P0_ k_):=by
 have HO0:=am (show Kd.R (Kd.int .u8) 5 w w0.heap.size (fun k_=>(P0_ k_∨w.heap.size≤k_)) u9000_ l0 from Kd.R_mono ho0 (fun k_ hk=>(.inl hk)))
 have HK:=am (Kept.refl w (fun k_=>P0_ k_))
 have HW0:=am hB.size
 have HB:=am hB
 clear hB
 have H:(r_10_filled.l0 k l0 a1)=some r:=h
 clear h
 have H':=am H
 clear H
 go_enter Try.func55,Try.ntmps55
 go_wp2
 go_loopg [0] k (fun kq v0 w'=>∃ (x0_1:List Int),Aside0 (r_10_filled.l0 kq x0_1 a1=some r)∧Aside0 (kq≤k)∧Aside0 (Kd.R (Kd.int .u8) 5 w' w0.heap.size (fun k_=>(P0_ k_∨w.heap.size≤k_)) v0 x0_1)∧Aside0 (Kept w w' (fun k_=>P0_ k_))∧Aside0 (Below w0.heap.size w0 w'))
 case atStart=>exact ⟨(l0),H',⟨Nat.le_refl _⟩,⟨by (with_reducible repeat (first|apply Kd.R_alloc|apply Kd.R_drewN|apply Kd.R_drew));exact HO0.out⟩,⟨by repeat (first|(with_reducible first|exact HK.out|apply Kept.alloc|apply Kept.drewN|apply Kept.drew)|exact HK.out)⟩,⟨bb HB⟩⟩
 case round =>
  clear H'
  try clear p2
  obtain ⟨x0_1,HA,HK1,HO_0,HK,HB⟩:=hrel
  cases gk with
  | zero=>exact absurd HA.out (by intro h_;cases h_)
  | succ k1 =>
   have H:=HA.out
   clear HA
   simp only [r_10_filled.l0] at H
   by_cases c3:(x0_1.length:Int) < a1
   ·rw [if_pos c3] at H
    have c3b0:decide ((x0_1.length:Int) < a1)=true:=decide_eq_true c3
    clear c3
    by_cases c4:x0_1.length < 140737488355328
    ·rw [if_pos c4] at H
     have LMc4:=am c4
     clear c4
     obtain ⟨y368,hy368⟩:∃ y_:List Int,y_=(x0_1++[0]):=⟨_,rfl⟩
     replace H:(r_10_filled.l0 k1 y368 a1)=some r:=by first|(rw [hy368];with_reducible exact H)|(have H2_:=(Option.bind_some _ _).symm.trans H;rw [hy368];with_reducible exact H2_)|(have H2_:=(Option.bind_some _ _).symm.trans H;with_reducible exact H2_)|with_reducible exact H|(rw [hy368];exact H)|exact H
     have Ny368:=am hy368
     clear hy368
     have H':=am H
     clear H
     obtain ⟨Ao5,co5,eo5⟩:=Kd.R_slice HO_0.out
     subst eo5
     go_wp2_with (first|((with_reducible refine gate_builtin (b:=.append) (xs:=#[.tmp 9,.tmp 10]) rfl ?_);at_builtin;refine Kd.R_append (Kd.int .u8) (w0:=w0) w0.heap.size rfl (.tmp 9) (.tmp 10) 46 5 (.int .u8 0) 1 rfl Try.underlying46 info5 rfl (by decide) (by omega) (.slice Ao5 x0_1.length co5) x0_1 0 [.int .u8 0] (fun k_=>(P0_ k_∨w.heap.size≤k_)) (fun _=>False) rfl rfl ?aP (fun _ hk=>hk.elim) ?aF ?aO ?aB ?aS ?aL ?_;(case aP=>exact rfl);(case aB=>exact (bb HB));(case aF=>exact (fun k_ hk=>(.inr (Nat.le_trans (by first|exact HK.out.1|exact (show Kept w _ (fun k_=>P0_ k_) from by repeat (first|(with_reducible first|exact HK.out|apply Kept.alloc|apply Kept.drewN|apply Kept.drew)|exact HK.out)).1) hk))));(case aO=>exact (rR HO_0));(case aS=>exact (bz HB));(case aL=>have:=LMc4.out;omega);intro v369 w6 ho hb hg hat;rw [← Ny368.out] at ho;have n0_:=am (hb);have n1_:=am (Kept.of_grown (S:=(fun k_=>P0_ k_)) hg (by repeat (first|(with_reducible first|exact HK.out|apply Kept.alloc|apply Kept.drewN|apply Kept.drew)|exact HK.out)) (fun k_ e_=>(HO_0.out.1 k_ e_)));have n2_:=am (ho);clear HB;clear HK;clear HO_0;have HB:=n0_;have HK:=n1_;have HO370:=n2_;clear n0_ n1_ n2_;clear ho hb hg hat))
     go_roundg k1
     case measure=>have:=HK1.out;omega
     case rel=>exact ⟨(y368),H',⟨by have:=HK1.out;omega⟩,⟨by (with_reducible repeat (first|apply Kd.R_alloc|apply Kd.R_drewN|apply Kd.R_drew));exact HO370.out⟩,⟨by repeat (first|(with_reducible first|exact HK.out|apply Kept.alloc|apply Kept.drewN|apply Kept.drew)|exact HK.out)⟩,⟨bb HB⟩⟩
    ·rw [if_neg c4] at H
     exact absurd H (by simp)
   ·rw [if_neg c3] at H
    have c3b0:decide ((x0_1.length:Int) < a1)=false:=decide_eq_false c3
    clear c3;obtain rfl:=Option.some.inj H
    obtain ⟨Ao7,co7,eo7⟩:=Kd.R_slice HO_0.out
    subst eo7
    go_wp2;go_ret
    exact ⟨_,by first|rfl|(simp [errW_none,errW_some]<;>rfl)|(simp [*,errW_none,errW_some]<;>rfl),by (with_reducible repeat (first|apply Kd.R_alloc|apply Kd.R_drewN|apply Kd.R_drew));exact HO_0.out,bb HB,by repeat (first|(with_reducible first|exact HK.out|apply Kept.alloc|apply Kept.drewN|apply Kept.drew)|exact HK.out)⟩
def r_10_bytes.f (k:Nat) (a0_0:Int) (a0_1:Int) (a0_2:Int) (a0_3:Bool):Option (List Int):=(r_01_Bytes.f k (IntKind.u64.wrap (a0_0)) 4).bind fun t375=>((r_01_Bytes.f k (IntKind.u64.wrap (a0_1)) 4).bind fun t378=>(if t375.length+t378.length < 140737488355328 then ((some (t375++t378:List Int)).bind fun y381=>((r_01_Bytes.f k (IntKind.u64.wrap (a0_2)) 2).bind fun t384=>(if y381.length+t384.length < 140737488355328 then ((some (y381++t384:List Int)).bind fun y387=>(if a0_3=true then ((some (([1,0]:List Int):List Int)).bind fun y390=>(if y387.length+y390.length < 140737488355328 then (some (y387++y390)) else (none))) else ((some (([0,0]:List Int):List Int)).bind fun y396=>(if y387.length+y396.length < 140737488355328 then (some (y387++y396)) else (none))))) else (none)))) else (none)))
def r_10_bytes.T1:Bool×List (List Nat×List Nat):=(true,[([],[]),([0],[0]),([1],[1]),([2],[2]),([],[]),([4],[4]),([5],[5]),([6,3],[6]),([3,7,7],[3,7]),([8,8,0,1,2,3,4,5,6,7,8],[8])])
def r_10_bytes.B1:List Nat:=[0,1,3,7,0,16,48,127,255,511]
theorem r_10_bytes.tab1:rtab .any (opsOf Try.f76 1)=r_10_bytes.T1:=by kernel_rfl
theorem r_10_bytes.bits1:waitsOk r_10_bytes.T1.2 r_10_bytes.B1=true:=by kernel_rfl
set_option maxHeartbeats 8000000 in
set_option maxRecDepth 100000 in
theorem r_10_bytes.calls (k:Nat) (a0_0:Int) (a0_1:Int) (a0_2:Int) (a0_3:Bool) (r:List Int) (w:World) (h:r_10_bytes.f k a0_0 a0_1 a0_2 a0_3=some r) :
  Calls Try.prog 76 #[.agg #[.int .i64 a0_0,.int .i64 a0_1,.int .i64 a0_2,.bool a0_3]] w fun e w'=>∃ v0_:Value,e=.returned (v0_)∧Kd.R (Kd.int .u8) 5 w' w.heap.size (fun _=>True) v0_ r∧Below w.heap.size w w':=by
 have hu24:=Try.underlying24
 have HB:=am (Below.refl w.heap.size w)
 have H:((r_01_Bytes.f k (IntKind.u64.wrap (a0_0)) 4).bind fun t375=>((r_01_Bytes.f k (IntKind.u64.wrap (a0_1)) 4).bind fun t378=>(if t375.length+t378.length < 140737488355328 then ((some (t375++t378:List Int)).bind fun y381=>((r_01_Bytes.f k (IntKind.u64.wrap (a0_2)) 2).bind fun t384=>(if y381.length+t384.length < 140737488355328 then ((some (y381++t384:List Int)).bind fun y387=>(if a0_3=true then ((some (([1,0]:List Int):List Int)).bind fun y390=>(if y387.length+y390.length < 140737488355328 then (some (y387++y390)) else (none))) else ((some (([0,0]:List Int):List Int)).bind fun y396=>(if y387.length+y396.length < 140737488355328 then (some (y387++y396)) else (none))))) else (none)))) else (none))))=some r:=h
 clear h
 replace H:=Option.bind_eq_some_iff.mp H
 obtain ⟨t375,A20,H⟩:=H
 replace H:((r_01_Bytes.f k (IntKind.u64.wrap (a0_1)) 4).bind fun t378=>(if t375.length+t378.length < 140737488355328 then ((some (t375++t378:List Int)).bind fun y381=>((r_01_Bytes.f k (IntKind.u64.wrap (a0_2)) 2).bind fun t384=>(if y381.length+t384.length < 140737488355328 then ((some (y381++t384:List Int)).bind fun y387=>(if a0_3=true then ((some (([1,0]:List Int):List Int)).bind fun y390=>(if y387.length+y390.length < 140737488355328 then (some (y387++y390)) else (none))) else ((some (([0,0]:List Int):List Int)).bind fun y396=>(if y387.length+y396.length < 140737488355328 then (some (y387++y396)) else (none))))) else (none)))) else (none)))=some r:=H
 have A2:=am A20
 clear A20
 replace H:=Option.bind_eq_some_iff.mp H
 obtain ⟨t378,A30,H⟩:=H
 replace H:(if t375.length+t378.length < 140737488355328 then ((some (t375++t378:List Int)).bind fun y381=>((r_01_Bytes.f k (IntKind.u64.wrap (a0_2)) 2).bind fun t384=>(if y381.length+t384.length < 140737488355328 then ((some (y381++t384:List Int)).bind fun y387=>(if a0_3=true then ((some (([1,0]:List Int):List Int)).bind fun y390=>(if y387.length+y390.length < 140737488355328 then (some (y387++y390)) else (none))) else ((some (([0,0]:List Int):List Int)).bind fun y396=>(if y387.length+y396.length < 140737488355328 then (some (y387++y396)) else (none))))) else (none)))) else (none))=some r:=H
 have A3:=am A30
 clear A30
 by_cases c4:t375.length+t378.length < 140737488355328
 ·rw [if_pos c4] at H
  have LMc4:=am c4
  clear c4
  obtain ⟨y381,hy381⟩:∃ y_:List Int,y_=(t375++t378):=⟨_,rfl⟩
  replace H:((r_01_Bytes.f k (IntKind.u64.wrap (a0_2)) 2).bind fun t384=>(if y381.length+t384.length < 140737488355328 then ((some (y381++t384:List Int)).bind fun y387=>(if a0_3=true then ((some (([1,0]:List Int):List Int)).bind fun y390=>(if y387.length+y390.length < 140737488355328 then (some (y387++y390)) else (none))) else ((some (([0,0]:List Int):List Int)).bind fun y396=>(if y387.length+y396.length < 140737488355328 then (some (y387++y396)) else (none))))) else (none)))=some r:=by first|(rw [hy381];with_reducible exact H)|(have H2_:=(Option.bind_some _ _).symm.trans H;rw [hy381];with_reducible exact H2_)|(have H2_:=(Option.bind_some _ _).symm.trans H;with_reducible exact H2_)|with_reducible exact H|(rw [hy381];exact H)|exact H
  have Ny381:=am hy381
  clear hy381
  replace H:=Option.bind_eq_some_iff.mp H
  obtain ⟨t384,A50,H⟩:=H
  replace H:(if y381.length+t384.length < 140737488355328 then ((some (y381++t384:List Int)).bind fun y387=>(if a0_3=true then ((some (([1,0]:List Int):List Int)).bind fun y390=>(if y387.length+y390.length < 140737488355328 then (some (y387++y390)) else (none))) else ((some (([0,0]:List Int):List Int)).bind fun y396=>(if y387.length+y396.length < 140737488355328 then (some (y387++y396)) else (none))))) else (none))=some r:=H
  have A5:=am A50
  clear A50
  by_cases c6:y381.length+t384.length < 140737488355328
  ·rw [if_pos c6] at H
   have LMc6:=am c6
   clear c6
   obtain ⟨y387,hy387⟩:∃ y_:List Int,y_=(y381++t384):=⟨_,rfl⟩
   replace H:(if a0_3=true then ((some (([1,0]:List Int):List Int)).bind fun y390=>(if y387.length+y390.length < 140737488355328 then (some (y387++y390)) else (none))) else ((some (([0,0]:List Int):List Int)).bind fun y396=>(if y387.length+y396.length < 140737488355328 then (some (y387++y396)) else (none))))=some r:=by first|(rw [hy387];with_reducible exact H)|(have H2_:=(Option.bind_some _ _).symm.trans H;rw [hy387];with_reducible exact H2_)|(have H2_:=(Option.bind_some _ _).symm.trans H;with_reducible exact H2_)|with_reducible exact H|(rw [hy387];exact H)|exact H
   have Ny387:=am hy387
   clear hy387
   by_cases c7:a0_3=true
   ·subst c7
    have H1:((some (([1,0]:List Int):List Int)).bind fun y390=>(if y387.length+y390.length < 140737488355328 then (some (y387++y390)) else (none)))=some r:=by rw [if_pos rfl] at H;exact H
    clear H;have H:=H1;clear H1
    obtain ⟨y390,hy390⟩:∃ y_:List Int,y_=(([1,0]:List Int)):=⟨_,rfl⟩
    replace H:(if y387.length+y390.length < 140737488355328 then (some (y387++y390)) else (none))=some r:=by first|(rw [hy390];with_reducible exact H)|(have H2_:=(Option.bind_some _ _).symm.trans H;rw [hy390];with_reducible exact H2_)|(have H2_:=(Option.bind_some _ _).symm.trans H;with_reducible exact H2_)|with_reducible exact H|(rw [hy390];exact H)|exact H
    have Ny390:=am hy390
    clear hy390
    by_cases c8:y387.length+y390.length < 140737488355328
    ·rw [if_pos c8] at H
     have LMc8:=am c8
     clear c8
     obtain ⟨y393,hy393⟩:∃ y_:List Int,y_=(y387++y390):=⟨_,rfl⟩
     replace H:(some y393)=some r:=by first|(rw [hy393];with_reducible exact H)|(have H2_:=(Option.bind_some _ _).symm.trans H;rw [hy393];with_reducible exact H2_)|(have H2_:=(Option.bind_some _ _).symm.trans H;with_reducible exact H2_)|with_reducible exact H|(rw [hy393];exact H)|exact H
     have Ny393:=am hy393
     clear hy393;obtain rfl:=Option.some.inj H
     go_enter Try.func76,Try.ntmps76
     try go_wp2_with (first|((with_reducible refine gate_dst (N:=1) rfl ?_);refine box_event ?hg (N:=1) ?hd (cs:=#[.int .i64 a0_0,.int .i64 a0_1,.int .i64 a0_2,.bool true]) (t:=24) ?hr ?_;(case hd=>rfl);(case hg=>rfl);(case hr=>first|(go_simp;done)|(go_simp;rfl));intro gb374 hg w9 hbox hb;have n0_:=bst HB hb;have n1_:=am (hbox);have n2_:=am ((gz hg HB));have n3_:=am ((gz hg HB));clear HB;have HB:=n0_;have BK374:=n1_;have GW374:=n2_;have GE374:=n3_;clear n0_ n1_ n2_ n3_;clear hb hbox hg))
     have n0_:=am (blk_drew BK374.out)
     have n1_:=am (below_drew1 HB.out)
     clear BK374;clear HB;have BK374:=n0_;have HB:=n1_;clear n0_ n1_
     refine start_ (n:=10) (S:=fun w'=>w'.cell? ⟨gb374,0,none⟩=some (.int .i64 a0_0)∧w'.cell? ⟨gb374,1,none⟩=some (.int .i64 a0_1)∧w'.cell? ⟨gb374,2,none⟩=some (.int .i64 a0_2)∧w'.cell? ⟨gb374,3,none⟩=some (.bool true)) (ds:=[]) _ (by kernel_rfl) rfl rfl ⟨kc BK374 0,kc BK374 1,kc BK374 2,kc BK374 3⟩ (fun hHeld=>?_);refine with_tabW r_10_bytes.tab1 r_10_bytes.bits1 (fun HT_ HW_=>?_)
     generalize w9.drew=w10 at BK374 HB hHeld ⊢
     refine pS 0 4 HT_ ?_;refine pS 4 8 HT_ ?_;refine tS 1 5 HT_ HW_ hHeld ?_ (hy:=by rintro w' ⟨s0,s1,s2,s3⟩;go_simp;with_reducible rfl);refine pS 2 6 HT_ ?_;refine tS 5 9 HT_ HW_ hHeld ?_ (hy:=by rintro w' ⟨s0,s1,s2,s3⟩;go_simp;with_reducible rfl);refine pS 6 10 HT_ ?_
     refine oS 3 (some 7) HT_ (fun K hK=>?_)
     refine gS Try.func57 #[.int .u64 (IntKind.u64.wrap (a0_0)),.int .i64 4] ?_
     with_reducible refine (r_01_Bytes.calls k (IntKind.u64.wrap (a0_0)) 4 t375 _ A2.out).mono ?_
     rintro e w11 ⟨v376,rfl,ho0,hb⟩
     refine ⟨_,rfl,?_⟩
     have n0_:=am (Kd.R_lower ho0 (below_size (bxs HB GE374)))
     have n1_:=am (blk_below (g:=gb374) (o:=.cells #[.int .i64 a0_0,.int .i64 a0_1,.int .i64 a0_2,.bool true] 24 (0,0)) (rK BK374) hb)
     have n2_:=am (below_step (bxs HB GE374) hb)
     clear BK374;clear HB;have HO377:=n0_;have BK374:=n1_;have HB:=n2_;clear n0_ n1_ n2_
     (try clear hb)
     (try clear hb2)
     (try clear hk)
     (try clear hi)
     (try clear ho0)
     refine hK.out _ _ ⟨kc BK374 0,kc BK374 1,kc BK374 2,kc BK374 3⟩ (fun hHeld=>?_)
     clear hK K;refine norm_ (a':=?_) ?_ ?_;rotate_left
     ·show Act.put _ (some 7) _=_
      simp only [Act.put,sIb,sC0,sCs,i64_w,i32_w];rfl
     refine oS 7 (some 11) HT_ (fun K hK=>?_)
     refine gS Try.func57 #[.int .u64 (IntKind.u64.wrap (a0_1)),.int .i64 4] ?_
     with_reducible refine (r_01_Bytes.calls k (IntKind.u64.wrap (a0_1)) 4 t378 _ A3.out).mono ?_
     rintro e w12 ⟨v379,rfl,ho0,hb⟩
     refine ⟨_,rfl,?_⟩
     have n0_:=am (Kd.R_elder' (rR HO377) (Kd.R_base ho0) hb)
     have n1_:=am (Kd.R_lower (Kd.R_new' ho0 (Kd.R_lt (rR HO377))) (below_size (bxs HB GE374)))
     have n2_:=am (blk_below (g:=gb374) (o:=.cells #[.int .i64 a0_0,.int .i64 a0_1,.int .i64 a0_2,.bool true] 24 (0,0)) (rK BK374) hb)
     have n3_:=am (below_step (bxs HB GE374) hb)
     clear HO377;clear BK374;clear HB;have HO377:=n0_;have HO380:=n1_;have BK374:=n2_;have HB:=n3_;clear n0_ n1_ n2_ n3_
     (try clear hb)
     (try clear hb2)
     (try clear hk)
     (try clear hi)
     (try clear ho0)
     obtain ⟨Ao14,co14,eo14⟩:=Kd.R_slice HO380.out
     (first|subst eo14|(injection eo14 with f1_ f2_ f3_;have f4_:=f1_.symm;have f5_:=f3_.symm;clear f1_ f2_ f3_;subst f4_;subst f5_))
     refine hK.out _ _ ⟨kc BK374 0,kc BK374 1,kc BK374 2,kc BK374 3⟩ (fun hHeld=>?_)
     clear hK K;refine norm_ (a':=?_) ?_ ?_;rotate_left
     ·show Act.put _ (some 11) _=_
      simp only [Act.put,sIb,sC0,sCs,i64_w,i32_w];rfl
     refine oS 8 (some 12) HT_ (fun K hK=>?_)
     refine Kd.R_append_rows_step (Kd.int .u8) (w0:=w) w.heap.size (by rfl) (.tmp 7) (.tmp 11) 46 5 (.int .u8 0) 1 rfl Try.underlying46 info5 rfl (by decide) (by omega) v376 t375 t378 _ _ _ (fun k_=>some k_≠(.slice Ao14 t378.length co14:Value).ownBlock) (fun _=>False) rfl rfl ?aO ?aR (fun _ _ h=>h) (fun _ h=>h.elim) ?aF ?aB ?aS ?aL ?_
     (case aR=>exact cc (Kd.R_reads' HO380.out).2.2)
     (case aB=>exact (bxs HB GE374))
     (case aF=>exact (fun k_ hk=>Kd.fresh' (Kd.R_lt (rR HO380)) k_ hk))
     (case aO=>exact (by (with_reducible repeat (first|apply Kd.R_alloc|apply Kd.R_drewN|apply Kd.R_drew));exact Kd.R_mono HO377.out (fun _ hk=>hk.2)))
     (case aS=>exact (below_size (bxs HB GE374)))
     (case aL=>have:=LMc4.out;omega)
     intro v382 w13 ho hb hg hat
     rw [← Ny381.out] at ho
     have n0_:=am (blk_grown (g:=gb374) (o:=.cells #[.int .i64 a0_0,.int .i64 a0_1,.int .i64 a0_2,.bool true] 24 (0,0)) (rK BK374) hg (Kd.R_ne HO377.out BK374.out (by decide)))
     have n1_:=am (Kd.R_after (ok:=(fun _=>True)) (rR HO380) hg hat)
     have n2_:=am (hb)
     have n3_:=am (ho)
     clear BK374;clear HO380;clear HB;clear HO377;have BK374:=n0_;have HO380:=n1_;have HB:=n2_;have HO383:=n3_;clear n0_ n1_ n2_ n3_;clear ho hb hg hat
     refine hK.out _ _ ⟨kc BK374 0,kc BK374 1,kc BK374 2,kc BK374 3⟩ (fun hHeld=>?_)
     clear hK K;refine norm_ (a':=?_) ?_ ?_;rotate_left
     ·show Act.put _ (some 12) _=_
      simp only [Act.put,sIb,sC0,sCs,i64_w,i32_w];rfl
     refine pS 9 3 HT_ ?_
     refine done_ (done_of HT_.out (by kernel_rfl)) ?_
     have hcz15_0:w13.cell? ⟨gb374,0,none⟩=some (.int .i64 a0_0):=kc BK374 0
     have hcz15_1:w13.cell? ⟨gb374,1,none⟩=some (.int .i64 a0_1):=kc BK374 1
     have hcz15_2:w13.cell? ⟨gb374,2,none⟩=some (.int .i64 a0_2):=kc BK374 2
     have hcz15_3:w13.cell? ⟨gb374,3,none⟩=some (.bool true):=kc BK374 3
     have hfz15_0:=blk_frozen BK374.out 0
     have hfz15_1:=blk_frozen BK374.out 1
     have hfz15_2:=blk_frozen BK374.out 2
     have hfz15_3:=blk_frozen BK374.out 3
     try go_wp2_with (first|((with_reducible refine gate_callee (f:=57) rfl ?_);refine goesL_ (some 17) rfl rfl Try.func57 (by kernel_rfl) rfl #[.int .u64 (IntKind.u64.wrap (a0_2)),.int .i64 2] rfl (by (try simp only [List.map_toArray,List.map_cons,List.map_nil]);first|done|rfl|(simp only [List.length_drop,List.length_take];rfl)) ?_;(with_reducible refine (r_01_Bytes.calls k (IntKind.u64.wrap (a0_2)) 2 t384 _ A5.out).mono ?_);rintro e w16 ⟨v385,rfl,ho0,hb⟩;refine ⟨_,rfl,?_⟩;have n0_:=am (Kd.R_elder' (rR HO380) (Kd.R_base ho0) hb);have n1_:=am (Kd.R_elder' (rR HO383) (Kd.R_base ho0) hb);have n2_:=am (Kd.R_lower (Kd.R_new' (Kd.R_new' ho0 (Kd.R_lt (rR HO380))) (Kd.R_lt (rR HO383))) (below_size (bxs HB GE374)));have n3_:=am (blk_below (g:=gb374) (o:=.cells #[.int .i64 a0_0,.int .i64 a0_1,.int .i64 a0_2,.bool true] 24 (0,0)) (rK BK374) hb);have n4_:=am (below_step (bxs HB GE374) hb);clear HO380;clear HO383;clear BK374;clear HB;have HO380:=n0_;have HO383:=n1_;have HO386:=n2_;have BK374:=n3_;have HB:=n4_;clear n0_ n1_ n2_ n3_ n4_;(try clear hb);(try clear hb2);(try clear hk);(try clear hi);(try clear ho0);obtain ⟨Ao18,co18,eo18⟩:=Kd.R_slice HO386.out;subst eo18)|((with_reducible refine gate_builtin (b:=.append) (xs:=#[.tmp 13,.tmp 17]) rfl ?_);at_builtin;refine Kd.R_append_rows (Kd.int .u8) (w0:=w) w.heap.size rfl (.tmp 13) (.tmp 17) 46 5 (.int .u8 0) 1 rfl Try.underlying46 info5 rfl (by decide) (by omega) v382 y381 t384 _ _ _ (fun k_=>some k_≠(.slice Ao14 t378.length co14:Value).ownBlock∧some k_≠(.slice Ao18 t384.length co18:Value).ownBlock) (fun _=>False) rfl rfl ?aO ?aR (fun _ _ h=>h) (fun _ h=>h.elim) ?aF ?aB ?aS ?aL ?_;(case aR=>exact cc (Kd.R_reads' HO386.out).2.2);(case aB=>exact (bxs HB GE374));(case aF=>exact (fun k_ hk=>⟨Kd.fresh' (Kd.R_lt (rR HO380)) k_ hk,Kd.fresh' (Kd.R_lt (rR HO386)) k_ hk⟩));(case aO=>exact (rR HO383));(case aS=>exact (below_size (bxs HB GE374)));(case aL=>have:=LMc6.out;omega);intro v388 w17 ho hb hg hat;rw [← Ny387.out] at ho;have n0_:=am (blk_grown (g:=gb374) (o:=.cells #[.int .i64 a0_0,.int .i64 a0_1,.int .i64 a0_2,.bool true] 24 (0,0)) (rK BK374) hg (Kd.R_ne HO383.out BK374.out (by decide)));have n1_:=am (Kd.R_after (ok:=(fun k_=>some k_≠(.slice Ao18 t384.length co18:Value).ownBlock)) (by (with_reducible repeat (first|apply Kd.R_alloc|apply Kd.R_drewN|apply Kd.R_drew));exact Kd.R_mono HO380.out (fun _ hk=>⟨hk.2,hk.1.2⟩)) hg hat);have n2_:=am (Kd.R_after (ok:=(fun k_=>some k_≠(.slice Ao14 t378.length co14:Value).ownBlock)) (by (with_reducible repeat (first|apply Kd.R_alloc|apply Kd.R_drewN|apply Kd.R_drew));exact Kd.R_mono HO386.out (fun _ hk=>⟨hk.1.2,hk.2⟩)) hg hat);have n3_:=am (hb);have n4_:=am (ho);clear BK374;clear HO380;clear HO386;clear HB;clear HO383;have BK374:=n0_;have HO380:=n1_;have HO386:=n2_;have HB:=n3_;have HO389:=n4_;clear n0_ n1_ n2_ n3_ n4_;clear ho hb hg hat;have hcz19_0:w17.cell? ⟨gb374,0,none⟩=some (.int .i64 a0_0):=kc BK374 0;have hcz19_1:w17.cell? ⟨gb374,1,none⟩=some (.int .i64 a0_1):=kc BK374 1;have hcz19_2:w17.cell? ⟨gb374,2,none⟩=some (.int .i64 a0_2):=kc BK374 2;have hcz19_3:w17.cell? ⟨gb374,3,none⟩=some (.bool true):=kc BK374 3;have hfz19_0:=blk_frozen BK374.out 0;have hfz19_1:=blk_frozen BK374.out 1;have hfz19_2:=blk_frozen BK374.out 2;have hfz19_3:=blk_frozen BK374.out 3)|((with_reducible refine gate_dst (N:=22) rfl ?_);refine Kd.R_lit (Kd.int .u8) _ 5 ?hg (N:=22) ?hd (xs:=([1,0]:List Int)) (inner:=[.int .u8 1,.int .u8 0]) (ok:=fun _=>True) (okp:=fun _=>True) ?hr ?hp (fun _ hk=>hk) trivial (Below.refl _ _) (Nat.le_refl _) (by simp) ?_;(case hd=>rfl);(case hg=>rfl);(case hr=>first|(go_simp;done)|(go_simp;rfl));(case hp=>exact (Reps.one (show Kd.M (Kd.int .u8) _ _ _ 1 [.int .u8 1] from rfl) (Reps.one (show Kd.M (Kd.int .u8) _ _ _ 0 [.int .u8 0] from rfl) (Reps.none _ _))));intro v391 w20 ho21 hb hg_ hnew_;clear hg_ hnew_;(first|rw [← Ny390.out] at ho21|(simp only [Int.reduceToNat] at ho21;rw [← Ny390.out] at ho21));have n0_:=am (Kd.R_elder' (rR HO380) (Kd.R_base ho21) hb);have n1_:=am (Kd.R_elder' (rR HO386) (Kd.R_base ho21) hb);have n2_:=am (Kd.R_elder' (rR HO389) (Kd.R_base ho21) hb);have n3_:=am (Kd.R_lower (Kd.R_new' (Kd.R_new' (Kd.R_new' ho21 (Kd.R_lt (rR HO380))) (Kd.R_lt (rR HO386))) (Kd.R_lt (rR HO389))) (below_size (bxs HB GE374)));have n4_:=am (blk_below (g:=gb374) (o:=.cells #[.int .i64 a0_0,.int .i64 a0_1,.int .i64 a0_2,.bool true] 24 (0,0)) (rK BK374) hb);have n5_:=am (below_step (bxs HB GE374) hb);clear HO380;clear HO386;clear HO389;clear BK374;clear HB;have HO380:=n0_;have HO386:=n1_;have HO389:=n2_;have HO392:=n3_;have BK374:=n4_;have HB:=n5_;clear n0_ n1_ n2_ n3_ n4_ n5_;clear hb ho21;obtain ⟨Ao23,co23,eo23⟩:=Kd.R_slice HO392.out;subst eo23)|((with_reducible refine gate_builtin (b:=.append) (xs:=#[.tmp 21,.tmp 22]) rfl ?_);at_builtin;refine Kd.R_append_rows (Kd.int .u8) (w0:=w) w.heap.size rfl (.tmp 21) (.tmp 22) 46 5 (.int .u8 0) 1 rfl Try.underlying46 info5 rfl (by decide) (by omega) v388 y387 y390 _ _ _ (fun k_=>some k_≠(.slice Ao14 t378.length co14:Value).ownBlock∧some k_≠(.slice Ao18 t384.length co18:Value).ownBlock∧some k_≠(.slice Ao23 y390.length co23:Value).ownBlock) (fun _=>False) rfl rfl ?aO ?aR (fun _ _ h=>h) (fun _ h=>h.elim) ?aF ?aB ?aS ?aL ?_;(case aR=>exact cc (Kd.R_reads' HO392.out).2.2);(case aB=>exact (bxs HB GE374));(case aF=>exact (fun k_ hk=>⟨Kd.fresh' (Kd.R_lt (rR HO380)) k_ hk,Kd.fresh' (Kd.R_lt (rR HO386)) k_ hk,Kd.fresh' (Kd.R_lt (rR HO392)) k_ hk⟩));(case aO=>exact (by (with_reducible repeat (first|apply Kd.R_alloc|apply Kd.R_drewN|apply Kd.R_drew));exact Kd.R_mono HO389.out (fun _ hk=>⟨hk.1.1,⟨hk.1.2,hk.2⟩⟩)));(case aS=>exact (below_size (bxs HB GE374)));(case aL=>have:=LMc8.out;omega);intro v394 w22 ho hb hg hat;rw [← Ny393.out] at ho;have n0_:=am (blk_grown (g:=gb374) (o:=.cells #[.int .i64 a0_0,.int .i64 a0_1,.int .i64 a0_2,.bool true] 24 (0,0)) (rK BK374) hg (Kd.R_ne HO389.out BK374.out (by decide)));have n1_:=am (Kd.R_after (ok:=(fun k_=>some k_≠(.slice Ao18 t384.length co18:Value).ownBlock∧some k_≠(.slice Ao23 y390.length co23:Value).ownBlock)) (by (with_reducible repeat (first|apply Kd.R_alloc|apply Kd.R_drewN|apply Kd.R_drew));exact Kd.R_mono HO380.out (fun _ hk=>⟨⟨hk.1.1,hk.2⟩,hk.1.2⟩)) hg hat);have n2_:=am (Kd.R_after (ok:=(fun k_=>some k_≠(.slice Ao14 t378.length co14:Value).ownBlock∧some k_≠(.slice Ao23 y390.length co23:Value).ownBlock)) (by (with_reducible repeat (first|apply Kd.R_alloc|apply Kd.R_drewN|apply Kd.R_drew));exact Kd.R_mono HO386.out (fun _ hk=>⟨⟨hk.1.1,hk.2⟩,hk.1.2⟩)) hg hat);have n3_:=am (Kd.R_after (ok:=(fun k_=>some k_≠(.slice Ao14 t378.length co14:Value).ownBlock∧some k_≠(.slice Ao18 t384.length co18:Value).ownBlock)) (by (with_reducible repeat (first|apply Kd.R_alloc|apply Kd.R_drewN|apply Kd.R_drew));exact Kd.R_mono HO392.out (fun _ hk=>⟨⟨hk.1.1.2,hk.1.2⟩,hk.2⟩)) hg hat);have n4_:=am (hb);have n5_:=am (ho);clear BK374;clear HO380;clear HO386;clear HO392;clear HB;clear HO389;have BK374:=n0_;have HO380:=n1_;have HO386:=n2_;have HO392:=n3_;have HB:=n4_;have HO395:=n5_;clear n0_ n1_ n2_ n3_ n4_ n5_;clear ho hb hg hat))
     go_ret
     exact ⟨_,by first|rfl|(simp [errW_none,errW_some]<;>rfl)|(simp [*,errW_none,errW_some]<;>rfl),by (with_reducible repeat (first|apply Kd.R_alloc|apply Kd.R_drewN|apply Kd.R_drew));exact Kd.R_mono HO395.out (fun _ hk=>trivial),bxs HB GE374⟩
    ·rw [if_neg c8] at H
     exact absurd H (by simp)
   ·replace c7:=Bool.eq_false_iff.mpr c7
    subst c7
    have H1:((some (([0,0]:List Int):List Int)).bind fun y396=>(if y387.length+y396.length < 140737488355328 then (some (y387++y396)) else (none)))=some r:=by rw [if_neg (show ¬ (false=true) by decide)] at H;exact H
    clear H;have H:=H1;clear H1
    obtain ⟨y396,hy396⟩:∃ y_:List Int,y_=(([0,0]:List Int)):=⟨_,rfl⟩
    replace H:(if y387.length+y396.length < 140737488355328 then (some (y387++y396)) else (none))=some r:=by first|(rw [hy396];with_reducible exact H)|(have H2_:=(Option.bind_some _ _).symm.trans H;rw [hy396];with_reducible exact H2_)|(have H2_:=(Option.bind_some _ _).symm.trans H;with_reducible exact H2_)|with_reducible exact H|(rw [hy396];exact H)|exact H
    have Ny396:=am hy396
    clear hy396
    by_cases c24:y387.length+y396.length < 140737488355328
    ·rw [if_pos c24] at H
     have LMc24:=am c24
     clear c24
     obtain ⟨y399,hy399⟩:∃ y_:List Int,y_=(y387++y396):=⟨_,rfl⟩
     replace H:(some y399)=some r:=by first|(rw [hy399];with_reducible exact H)|(have H2_:=(Option.bind_some _ _).symm.trans H;rw [hy399];with_reducible exact H2_)|(have H2_:=(Option.bind_some _ _).symm.trans H;with_reducible exact H2_)|with_reducible exact H|(rw [hy399];exact H)|exact H
     have Ny399:=am hy399
     clear hy399;obtain rfl:=Option.some.inj H
     go_enter Try.func76,Try.ntmps76
     try go_wp2_with (first|((with_reducible refine gate_dst (N:=1) rfl ?_);refine box_event ?hg (N:=1) ?hd (cs:=#[.int .i64 a0_0,.int .i64 a0_1,.int .i64 a0_2,.bool false]) (t:=24) ?hr ?_;(case hd=>rfl);(case hg=>rfl);(case hr=>first|(go_simp;done)|(go_simp;rfl));intro gb374 hg w25 hbox hb;have n0_:=bst HB hb;have n1_:=am (hbox);have n2_:=am ((gz hg HB));have n3_:=am ((gz hg HB));clear HB;have HB:=n0_;have BK374:=n1_;have GW374:=n2_;have GE374:=n3_;clear n0_ n1_ n2_ n3_;clear hb hbox hg))
     have n0_:=am (blk_drew BK374.out)
     have n1_:=am (below_drew1 HB.out)
     clear BK374;clear HB;have BK374:=n0_;have HB:=n1_;clear n0_ n1_
     refine start_ (n:=10) (S:=fun w'=>w'.cell? ⟨gb374,0,none⟩=some (.int .i64 a0_0)∧w'.cell? ⟨gb374,1,none⟩=some (.int .i64 a0_1)∧w'.cell? ⟨gb374,2,none⟩=some (.int .i64 a0_2)∧w'.cell? ⟨gb374,3,none⟩=some (.bool false)) (ds:=[]) _ (by kernel_rfl) rfl rfl ⟨kc BK374 0,kc BK374 1,kc BK374 2,kc BK374 3⟩ (fun hHeld=>?_);refine with_tabW r_10_bytes.tab1 r_10_bytes.bits1 (fun HT_ HW_=>?_)
     generalize w25.drew=w26 at BK374 HB hHeld ⊢
     refine pS 0 4 HT_ ?_;refine pS 4 8 HT_ ?_;refine tS 1 5 HT_ HW_ hHeld ?_ (hy:=by rintro w' ⟨s0,s1,s2,s3⟩;go_simp;with_reducible rfl);refine pS 2 6 HT_ ?_;refine tS 5 9 HT_ HW_ hHeld ?_ (hy:=by rintro w' ⟨s0,s1,s2,s3⟩;go_simp;with_reducible rfl);refine pS 6 10 HT_ ?_
     refine oS 3 (some 7) HT_ (fun K hK=>?_)
     refine gS Try.func57 #[.int .u64 (IntKind.u64.wrap (a0_0)),.int .i64 4] ?_
     with_reducible refine (r_01_Bytes.calls k (IntKind.u64.wrap (a0_0)) 4 t375 _ A2.out).mono ?_
     rintro e w27 ⟨v376,rfl,ho0,hb⟩
     refine ⟨_,rfl,?_⟩
     have n0_:=am (Kd.R_lower ho0 (below_size (bxs HB GE374)))
     have n1_:=am (blk_below (g:=gb374) (o:=.cells #[.int .i64 a0_0,.int .i64 a0_1,.int .i64 a0_2,.bool false] 24 (0,0)) (rK BK374) hb)
     have n2_:=am (below_step (bxs HB GE374) hb)
     clear BK374;clear HB;have HO377:=n0_;have BK374:=n1_;have HB:=n2_;clear n0_ n1_ n2_
     (try clear hb)
     (try clear hb2)
     (try clear hk)
     (try clear hi)
     (try clear ho0)
     refine hK.out _ _ ⟨kc BK374 0,kc BK374 1,kc BK374 2,kc BK374 3⟩ (fun hHeld=>?_)
     clear hK K;refine norm_ (a':=?_) ?_ ?_;rotate_left
     ·show Act.put _ (some 7) _=_
      simp only [Act.put,sIb,sC0,sCs,i64_w,i32_w];rfl
     refine oS 7 (some 11) HT_ (fun K hK=>?_)
     refine gS Try.func57 #[.int .u64 (IntKind.u64.wrap (a0_1)),.int .i64 4] ?_
     with_reducible refine (r_01_Bytes.calls k (IntKind.u64.wrap (a0_1)) 4 t378 _ A3.out).mono ?_
     rintro e w28 ⟨v379,rfl,ho0,hb⟩
     refine ⟨_,rfl,?_⟩
     have n0_:=am (Kd.R_elder' (rR HO377) (Kd.R_base ho0) hb)
     have n1_:=am (Kd.R_lower (Kd.R_new' ho0 (Kd.R_lt (rR HO377))) (below_size (bxs HB GE374)))
     have n2_:=am (blk_below (g:=gb374) (o:=.cells #[.int .i64 a0_0,.int .i64 a0_1,.int .i64 a0_2,.bool false] 24 (0,0)) (rK BK374) hb)
     have n3_:=am (below_step (bxs HB GE374) hb)
     clear HO377;clear BK374;clear HB;have HO377:=n0_;have HO380:=n1_;have BK374:=n2_;have HB:=n3_;clear n0_ n1_ n2_ n3_
     (try clear hb)
     (try clear hb2)
     (try clear hk)
     (try clear hi)
     (try clear ho0)
     obtain ⟨Ao30,co30,eo30⟩:=Kd.R_slice HO380.out
     (first|subst eo30|(injection eo30 with f1_ f2_ f3_;have f4_:=f1_.symm;have f5_:=f3_.symm;clear f1_ f2_ f3_;subst f4_;subst f5_))
     refine hK.out _ _ ⟨kc BK374 0,kc BK374 1,kc BK374 2,kc BK374 3⟩ (fun hHeld=>?_)
     clear hK K;refine norm_ (a':=?_) ?_ ?_;rotate_left
     ·show Act.put _ (some 11) _=_
      simp only [Act.put,sIb,sC0,sCs,i64_w,i32_w];rfl
     refine oS 8 (some 12) HT_ (fun K hK=>?_)
     refine Kd.R_append_rows_step (Kd.int .u8) (w0:=w) w.heap.size (by rfl) (.tmp 7) (.tmp 11) 46 5 (.int .u8 0) 1 rfl Try.underlying46 info5 rfl (by decide) (by omega) v376 t375 t378 _ _ _ (fun k_=>some k_≠(.slice Ao30 t378.length co30:Value).ownBlock) (fun _=>False) rfl rfl ?aO ?aR (fun _ _ h=>h) (fun _ h=>h.elim) ?aF ?aB ?aS ?aL ?_
     (case aR=>exact cc (Kd.R_reads' HO380.out).2.2)
     (case aB=>exact (bxs HB GE374))
     (case aF=>exact (fun k_ hk=>Kd.fresh' (Kd.R_lt (rR HO380)) k_ hk))
     (case aO=>exact (by (with_reducible repeat (first|apply Kd.R_alloc|apply Kd.R_drewN|apply Kd.R_drew));exact Kd.R_mono HO377.out (fun _ hk=>hk.2)))
     (case aS=>exact (below_size (bxs HB GE374)))
     (case aL=>have:=LMc4.out;omega)
     intro v382 w29 ho hb hg hat
     rw [← Ny381.out] at ho
     have n0_:=am (blk_grown (g:=gb374) (o:=.cells #[.int .i64 a0_0,.int .i64 a0_1,.int .i64 a0_2,.bool false] 24 (0,0)) (rK BK374) hg (Kd.R_ne HO377.out BK374.out (by decide)))
     have n1_:=am (Kd.R_after (ok:=(fun _=>True)) (rR HO380) hg hat)
     have n2_:=am (hb)
     have n3_:=am (ho)
     clear BK374;clear HO380;clear HB;clear HO377;have BK374:=n0_;have HO380:=n1_;have HB:=n2_;have HO383:=n3_;clear n0_ n1_ n2_ n3_;clear ho hb hg hat
     refine hK.out _ _ ⟨kc BK374 0,kc BK374 1,kc BK374 2,kc BK374 3⟩ (fun hHeld=>?_)
     clear hK K;refine norm_ (a':=?_) ?_ ?_;rotate_left
     ·show Act.put _ (some 12) _=_
      simp only [Act.put,sIb,sC0,sCs,i64_w,i32_w];rfl
     refine pS 9 3 HT_ ?_
     refine done_ (done_of HT_.out (by kernel_rfl)) ?_
     have hcz31_0:w29.cell? ⟨gb374,0,none⟩=some (.int .i64 a0_0):=kc BK374 0
     have hcz31_1:w29.cell? ⟨gb374,1,none⟩=some (.int .i64 a0_1):=kc BK374 1
     have hcz31_2:w29.cell? ⟨gb374,2,none⟩=some (.int .i64 a0_2):=kc BK374 2
     have hcz31_3:w29.cell? ⟨gb374,3,none⟩=some (.bool false):=kc BK374 3
     have hfz31_0:=blk_frozen BK374.out 0
     have hfz31_1:=blk_frozen BK374.out 1
     have hfz31_2:=blk_frozen BK374.out 2
     have hfz31_3:=blk_frozen BK374.out 3
     try go_wp2_with (first|((with_reducible refine gate_callee (f:=57) rfl ?_);refine goesL_ (some 17) rfl rfl Try.func57 (by kernel_rfl) rfl #[.int .u64 (IntKind.u64.wrap (a0_2)),.int .i64 2] rfl (by (try simp only [List.map_toArray,List.map_cons,List.map_nil]);first|done|rfl|(simp only [List.length_drop,List.length_take];rfl)) ?_;(with_reducible refine (r_01_Bytes.calls k (IntKind.u64.wrap (a0_2)) 2 t384 _ A5.out).mono ?_);rintro e w32 ⟨v385,rfl,ho0,hb⟩;refine ⟨_,rfl,?_⟩;have n0_:=am (Kd.R_elder' (rR HO380) (Kd.R_base ho0) hb);have n1_:=am (Kd.R_elder' (rR HO383) (Kd.R_base ho0) hb);have n2_:=am (Kd.R_lower (Kd.R_new' (Kd.R_new' ho0 (Kd.R_lt (rR HO380))) (Kd.R_lt (rR HO383))) (below_size (bxs HB GE374)));have n3_:=am (blk_below (g:=gb374) (o:=.cells #[.int .i64 a0_0,.int .i64 a0_1,.int .i64 a0_2,.bool false] 24 (0,0)) (rK BK374) hb);have n4_:=am (below_step (bxs HB GE374) hb);clear HO380;clear HO383;clear BK374;clear HB;have HO380:=n0_;have HO383:=n1_;have HO386:=n2_;have BK374:=n3_;have HB:=n4_;clear n0_ n1_ n2_ n3_ n4_;(try clear hb);(try clear hb2);(try clear hk);(try clear hi);(try clear ho0);obtain ⟨Ao34,co34,eo34⟩:=Kd.R_slice HO386.out;subst eo34)|((with_reducible refine gate_builtin (b:=.append) (xs:=#[.tmp 13,.tmp 17]) rfl ?_);at_builtin;refine Kd.R_append_rows (Kd.int .u8) (w0:=w) w.heap.size rfl (.tmp 13) (.tmp 17) 46 5 (.int .u8 0) 1 rfl Try.underlying46 info5 rfl (by decide) (by omega) v382 y381 t384 _ _ _ (fun k_=>some k_≠(.slice Ao30 t378.length co30:Value).ownBlock∧some k_≠(.slice Ao34 t384.length co34:Value).ownBlock) (fun _=>False) rfl rfl ?aO ?aR (fun _ _ h=>h) (fun _ h=>h.elim) ?aF ?aB ?aS ?aL ?_;(case aR=>exact cc (Kd.R_reads' HO386.out).2.2);(case aB=>exact (bxs HB GE374));(case aF=>exact (fun k_ hk=>⟨Kd.fresh' (Kd.R_lt (rR HO380)) k_ hk,Kd.fresh' (Kd.R_lt (rR HO386)) k_ hk⟩));(case aO=>exact (rR HO383));(case aS=>exact (below_size (bxs HB GE374)));(case aL=>have:=LMc6.out;omega);intro v388 w33 ho hb hg hat;rw [← Ny387.out] at ho;have n0_:=am (blk_grown (g:=gb374) (o:=.cells #[.int .i64 a0_0,.int .i64 a0_1,.int .i64 a0_2,.bool false] 24 (0,0)) (rK BK374) hg (Kd.R_ne HO383.out BK374.out (by decide)));have n1_:=am (Kd.R_after (ok:=(fun k_=>some k_≠(.slice Ao34 t384.length co34:Value).ownBlock)) (by (with_reducible repeat (first|apply Kd.R_alloc|apply Kd.R_drewN|apply Kd.R_drew));exact Kd.R_mono HO380.out (fun _ hk=>⟨hk.2,hk.1.2⟩)) hg hat);have n2_:=am (Kd.R_after (ok:=(fun k_=>some k_≠(.slice Ao30 t378.length co30:Value).ownBlock)) (by (with_reducible repeat (first|apply Kd.R_alloc|apply Kd.R_drewN|apply Kd.R_drew));exact Kd.R_mono HO386.out (fun _ hk=>⟨hk.1.2,hk.2⟩)) hg hat);have n3_:=am (hb);have n4_:=am (ho);clear BK374;clear HO380;clear HO386;clear HB;clear HO383;have BK374:=n0_;have HO380:=n1_;have HO386:=n2_;have HB:=n3_;have HO389:=n4_;clear n0_ n1_ n2_ n3_ n4_;clear ho hb hg hat;have hcz35_0:w33.cell? ⟨gb374,0,none⟩=some (.int .i64 a0_0):=kc BK374 0;have hcz35_1:w33.cell? ⟨gb374,1,none⟩=some (.int .i64 a0_1):=kc BK374 1;have hcz35_2:w33.cell? ⟨gb374,2,none⟩=some (.int .i64 a0_2):=kc BK374 2;have hcz35_3:w33.cell? ⟨gb374,3,none⟩=some (.bool false):=kc BK374 3;have hfz35_0:=blk_frozen BK374.out 0;have hfz35_1:=blk_frozen BK374.out 1;have hfz35_2:=blk_frozen BK374.out 2;have hfz35_3:=blk_frozen BK374.out 3)|((with_reducible refine gate_dst (N:=25) rfl ?_);refine Kd.R_lit (Kd.int .u8) _ 5 ?hg (N:=25) ?hd (xs:=([0,0]:List Int)) (inner:=[.int .u8 0,.int .u8 0]) (ok:=fun _=>True) (okp:=fun _=>True) ?hr ?hp (fun _ hk=>hk) trivial (Below.refl _ _) (Nat.le_refl _) (by simp) ?_;(case hd=>rfl);(case hg=>rfl);(case hr=>first|(go_simp;done)|(go_simp;rfl));(case hp=>exact (Reps.one (show Kd.M (Kd.int .u8) _ _ _ 0 [.int .u8 0] from rfl) (Reps.one (show Kd.M (Kd.int .u8) _ _ _ 0 [.int .u8 0] from rfl) (Reps.none _ _))));intro v397 w36 ho37 hb hg_ hnew_;clear hg_ hnew_;(first|rw [← Ny396.out] at ho37|(simp only [Int.reduceToNat] at ho37;rw [← Ny396.out] at ho37));have n0_:=am (Kd.R_elder' (rR HO380) (Kd.R_base ho37) hb);have n1_:=am (Kd.R_elder' (rR HO386) (Kd.R_base ho37) hb);have n2_:=am (Kd.R_elder' (rR HO389) (Kd.R_base ho37) hb);have n3_:=am (Kd.R_lower (Kd.R_new' (Kd.R_new' (Kd.R_new' ho37 (Kd.R_lt (rR HO380))) (Kd.R_lt (rR HO386))) (Kd.R_lt (rR HO389))) (below_size (bxs HB GE374)));have n4_:=am (blk_below (g:=gb374) (o:=.cells #[.int .i64 a0_0,.int .i64 a0_1,.int .i64 a0_2,.bool false] 24 (0,0)) (rK BK374) hb);have n5_:=am (below_step (bxs HB GE374) hb);clear HO380;clear HO386;clear HO389;clear BK374;clear HB;have HO380:=n0_;have HO386:=n1_;have HO389:=n2_;have HO398:=n3_;have BK374:=n4_;have HB:=n5_;clear n0_ n1_ n2_ n3_ n4_ n5_;clear hb ho37;obtain ⟨Ao39,co39,eo39⟩:=Kd.R_slice HO398.out;subst eo39)|((with_reducible refine gate_builtin (b:=.append) (xs:=#[.tmp 24,.tmp 25]) rfl ?_);at_builtin;refine Kd.R_append_rows (Kd.int .u8) (w0:=w) w.heap.size rfl (.tmp 24) (.tmp 25) 46 5 (.int .u8 0) 1 rfl Try.underlying46 info5 rfl (by decide) (by omega) v388 y387 y396 _ _ _ (fun k_=>some k_≠(.slice Ao30 t378.length co30:Value).ownBlock∧some k_≠(.slice Ao34 t384.length co34:Value).ownBlock∧some k_≠(.slice Ao39 y396.length co39:Value).ownBlock) (fun _=>False) rfl rfl ?aO ?aR (fun _ _ h=>h) (fun _ h=>h.elim) ?aF ?aB ?aS ?aL ?_;(case aR=>exact cc (Kd.R_reads' HO398.out).2.2);(case aB=>exact (bxs HB GE374));(case aF=>exact (fun k_ hk=>⟨Kd.fresh' (Kd.R_lt (rR HO380)) k_ hk,Kd.fresh' (Kd.R_lt (rR HO386)) k_ hk,Kd.fresh' (Kd.R_lt (rR HO398)) k_ hk⟩));(case aO=>exact (by (with_reducible repeat (first|apply Kd.R_alloc|apply Kd.R_drewN|apply Kd.R_drew));exact Kd.R_mono HO389.out (fun _ hk=>⟨hk.1.1,⟨hk.1.2,hk.2⟩⟩)));(case aS=>exact (below_size (bxs HB GE374)));(case aL=>have:=LMc24.out;omega);intro v400 w38 ho hb hg hat;rw [← Ny399.out] at ho;have n0_:=am (blk_grown (g:=gb374) (o:=.cells #[.int .i64 a0_0,.int .i64 a0_1,.int .i64 a0_2,.bool false] 24 (0,0)) (rK BK374) hg (Kd.R_ne HO389.out BK374.out (by decide)));have n1_:=am (Kd.R_after (ok:=(fun k_=>some k_≠(.slice Ao34 t384.length co34:Value).ownBlock∧some k_≠(.slice Ao39 y396.length co39:Value).ownBlock)) (by (with_reducible repeat (first|apply Kd.R_alloc|apply Kd.R_drewN|apply Kd.R_drew));exact Kd.R_mono HO380.out (fun _ hk=>⟨⟨hk.1.1,hk.2⟩,hk.1.2⟩)) hg hat);have n2_:=am (Kd.R_after (ok:=(fun k_=>some k_≠(.slice Ao30 t378.length co30:Value).ownBlock∧some k_≠(.slice Ao39 y396.length co39:Value).ownBlock)) (by (with_reducible repeat (first|apply Kd.R_alloc|apply Kd.R_drewN|apply Kd.R_drew));exact Kd.R_mono HO386.out (fun _ hk=>⟨⟨hk.1.1,hk.2⟩,hk.1.2⟩)) hg hat);have n3_:=am (Kd.R_after (ok:=(fun k_=>some k_≠(.slice Ao30 t378.length co30:Value).ownBlock∧some k_≠(.slice Ao34 t384.length co34:Value).ownBlock)) (by (with_reducible repeat (first|apply Kd.R_alloc|apply Kd.R_drewN|apply Kd.R_drew));exact Kd.R_mono HO398.out (fun _ hk=>⟨⟨hk.1.1.2,hk.1.2⟩,hk.2⟩)) hg hat);have n4_:=am (hb);have n5_:=am (ho);clear BK374;clear HO380;clear HO386;clear HO398;clear HB;clear HO389;have BK374:=n0_;have HO380:=n1_;have HO386:=n2_;have HO398:=n3_;have HB:=n4_;have HO401:=n5_;clear n0_ n1_ n2_ n3_ n4_ n5_;clear ho hb hg hat))
     go_ret
     exact ⟨_,by first|rfl|(simp [errW_none,errW_some]<;>rfl)|(simp [*,errW_none,errW_some]<;>rfl),by (with_reducible repeat (first|apply Kd.R_alloc|apply Kd.R_drewN|apply Kd.R_drew));exact Kd.R_mono HO401.out (fun _ hk=>trivial),bxs HB GE374⟩
    ·rw [if_neg c24] at H
     exact absurd H (by simp)
  ·rw [if_neg c6] at H
   exact absurd H (by simp)
 ·rw [if_neg c4] at H
  exact absurd H (by simp)
def r_10_list.l0:Nat→List (S24)→List Int→Int→Option (List Int)
 | 0,_,_,_=>none
 | k+1,x0,x5,x6=>if x6 < (x0.length:Int) then (if 0≤x6 then ((r_10_bytes.f k ((rd_T24 x0 x6).f0) ((rd_T24 x0 x6).f1) ((rd_T24 x0 x6).f2) ((rd_T24 x0 x6).f3)).bind fun t406=>(if x5.length+t406.length < 140737488355328 then (r_10_list.l0 k x0 (x5++t406) (wrap64 (x6+1))) else (none))) else (none)) else (some x5)
def r_10_list.f (k:Nat) (l0:List (S24)) (a1:Int):Option (List Int):=r_10_list.l0 k l0 (([((l0.length:Int)) % 256,0,a1,0]:List Int)) 0
set_option maxHeartbeats 8000000 in
set_option maxRecDepth 100000 in
theorem r_10_list.calls (k:Nat) (A0:Option Addr) (c0:Nat) (l0:List (S24)) (a1:Int) (r:List Int) (w:World) (hr0:Kd.C k24 w A0 l0.length l0) (hc0:l0.length≤c0) (h:r_10_list.f k l0 a1=some r) :
  Calls Try.prog 56 #[.slice A0 l0.length c0,.int .u8 a1] w fun e w'=>∃ v0_:Value,e=.returned (v0_)∧Kd.R (Kd.int .u8) 5 w' w.heap.size (fun _=>True) v0_ r∧Below w.heap.size w w':=by
 have hu24:=Try.underlying24
 have HR0:=am hr0
 have HC0:=am hc0
 clear hr0 hc0
 have HB:=am (Below.refl w.heap.size w)
 have H:(r_10_list.l0 k l0 (([((l0.length:Int)) % 256,0,a1,0]:List Int)) 0)=some r:=h
 clear h
 obtain ⟨y402,hy402⟩:∃ y_:List Int,y_=(([((l0.length:Int)) % 256,0,a1,0]:List Int)):=⟨_,rfl⟩
 replace H:(r_10_list.l0 k l0 y402 0)=some r:=by first|(rw [hy402];with_reducible exact H)|(have H2_:=(Option.bind_some _ _).symm.trans H;rw [hy402];with_reducible exact H2_)|(have H2_:=(Option.bind_some _ _).symm.trans H;with_reducible exact H2_)|with_reducible exact H|(rw [hy402];exact H)|exact H
 have Ny402:=am hy402
 clear hy402
 have H':=am H
 clear H
 go_enter Try.func56,Try.ntmps56
 go_wp2_with (first|((with_reducible refine gate_dst (N:=11) rfl ?_);refine Kd.R_lit (Kd.int .u8) _ 5 ?hg (N:=11) ?hd (xs:=([((l0.length:Int)) % 256,0,a1,0]:List Int)) (inner:=[.int .u8 (((l0.length:Int)) % 256),.int .u8 0,.int .u8 a1,.int .u8 0]) (ok:=fun _=>True) (okp:=fun _=>True) ?hr ?hp (fun _ hk=>hk) trivial (Below.refl _ _) (Nat.le_refl _) (by simp) ?_;(case hd=>rfl);(case hg=>rfl);(case hr=>first|(go_simp;done)|(go_simp;rfl));(case hp=>exact (Reps.one (show Kd.M (Kd.int .u8) _ _ _ (((l0.length:Int)) % 256) [.int .u8 (((l0.length:Int)) % 256)] from rfl) (Reps.one (show Kd.M (Kd.int .u8) _ _ _ 0 [.int .u8 0] from rfl) (Reps.one (show Kd.M (Kd.int .u8) _ _ _ a1 [.int .u8 a1] from rfl) (Reps.one (show Kd.M (Kd.int .u8) _ _ _ 0 [.int .u8 0] from rfl) (Reps.none _ _))))));intro v403 w3 ho4 hb hg_ hnew_;clear hg_ hnew_;(first|rw [← Ny402.out] at ho4|(simp only [Int.reduceToNat] at ho4;rw [← Ny402.out] at ho4));have n0_:=am (Kd.R_lower ho4 (bz HB));have n1_:=bst HB hb;clear HB;have HO404:=n0_;have HB:=n1_;clear n0_ n1_;clear hb ho4))
 go_loopg [5,6] k (fun kq v5 v6 w'=>∃ (x5_1:List Int) (x6_1:Int),v6=.int .i64 x6_1∧Aside0 (r_10_list.l0 kq l0 x5_1 x6_1=some r)∧Aside0 (kq≤k)∧Aside0 (Kd.R (Kd.int .u8) 5 w' w.heap.size (fun _=>True) v5 x5_1)∧Aside0 (Below w.heap.size w w'))
 case atStart=>exact ⟨(y402),(0),(by first|rfl|(simp;done)|(simp [*];done)),H',⟨Nat.le_refl _⟩,⟨by (with_reducible repeat (first|apply Kd.R_alloc|apply Kd.R_drewN|apply Kd.R_drew));exact HO404.out⟩,⟨bb HB⟩⟩
 case round =>
  clear H'
  try clear p2
  obtain ⟨x5_1,x6_1,rfl,HA,HK1,HO_5,HB⟩:=hrel
  cases gk with
  | zero=>exact absurd HA.out (by intro h_;cases h_)
  | succ k1 =>
   have H:=HA.out
   clear HA
   simp only [r_10_list.l0] at H
   by_cases c5:x6_1 < (l0.length:Int)
   ·rw [if_pos c5] at H
    have c5b0:decide (x6_1 < (l0.length:Int))=true:=decide_eq_true c5
    clear c5
    by_cases c6:0≤x6_1
    ·rw [if_pos c6] at H
     have c6b0:decide (0≤x6_1)=true:=decide_eq_true c6
     clear c6
     replace H:=Option.bind_eq_some_iff.mp H
     obtain ⟨t406,A70,H⟩:=H
     replace H:(if x5_1.length+t406.length < 140737488355328 then (r_10_list.l0 k1 l0 (x5_1++t406) (wrap64 (x6_1+1))) else (none))=some r:=H
     have A7:=am A70
     clear A70
     by_cases c8:x5_1.length+t406.length < 140737488355328
     ·rw [if_pos c8] at H
      have LMc8:=am c8
      clear c8
      obtain ⟨y409,hy409⟩:∃ y_:List Int,y_=(x5_1++t406):=⟨_,rfl⟩
      replace H:(r_10_list.l0 k1 l0 y409 (wrap64 (x6_1+1)))=some r:=by first|(rw [hy409];with_reducible exact H)|(have H2_:=(Option.bind_some _ _).symm.trans H;rw [hy409];with_reducible exact H2_)|(have H2_:=(Option.bind_some _ _).symm.trans H;with_reducible exact H2_)|with_reducible exact H|(rw [hy409];exact H)|exact H
      have Ny409:=am hy409
      clear hy409
      have H':=am H
      clear H
      have p405:0≤(x6_1:Int):=od
      have q405:x6_1 < (l0.length:Int):=od
      obtain ⟨ad405,e405,hx405_0,hx405_1,hx405_2,hx405_3⟩:=at_T24 HR0.out x6_1 p405 q405
      cases e405
      replace hx405_0:=hB HB hx405_0
      replace hx405_1:=hB HB hx405_1
      replace hx405_2:=hB HB hx405_2
      replace hx405_3:=hB HB hx405_3
      replace p405:=eq_true p405;replace q405:=eq_true q405
      go_wp2_with (first|((with_reducible refine gate_callee (f:=76) rfl ?_);refine goesL_ (some 23) rfl rfl Try.func76 (by kernel_rfl) rfl #[.agg #[.int .i64 ((rd_T24 l0 x6_1).f0),.int .i64 ((rd_T24 l0 x6_1).f1),.int .i64 ((rd_T24 l0 x6_1).f2),.bool ((rd_T24 l0 x6_1).f3)]] rfl (by (try simp only [List.map_toArray,List.map_cons,List.map_nil]);first|done|rfl|(simp only [List.length_drop,List.length_take];rfl)) ?_;(with_reducible refine (r_10_bytes.calls k1 ((rd_T24 l0 x6_1).f0) ((rd_T24 l0 x6_1).f1) ((rd_T24 l0 x6_1).f2) ((rd_T24 l0 x6_1).f3) t406 _ A7.out).mono ?_);rintro e w9 ⟨v407,rfl,ho0,hb⟩;refine ⟨_,rfl,?_⟩;have n0_:=am (Kd.R_elder' (rR HO_5) (Kd.R_base ho0) hb);have n1_:=am (Kd.R_lower (Kd.R_new' ho0 (Kd.R_lt (rR HO_5))) (bz HB));have n2_:=bst HB hb;clear HO_5;clear HB;have HO_5:=n0_;have HO408:=n1_;have HB:=n2_;clear n0_ n1_ n2_;(try clear hb);(try clear hb2);(try clear hk);(try clear hi);(try clear ho0);obtain ⟨Ao11,co11,eo11⟩:=Kd.R_slice HO408.out;subst eo11)|((with_reducible refine gate_builtin (b:=.append) (xs:=#[.tmp 18,.tmp 23]) rfl ?_);at_builtin;refine Kd.R_append_rows (Kd.int .u8) (w0:=w) w.heap.size rfl (.tmp 18) (.tmp 23) 46 5 (.int .u8 0) 1 rfl Try.underlying46 info5 rfl (by decide) (by omega) u5 x5_1 t406 _ _ _ (fun k_=>some k_≠(.slice Ao11 t406.length co11:Value).ownBlock) (fun _=>False) rfl rfl ?aO ?aR (fun _ _ h=>h) (fun _ h=>h.elim) ?aF ?aB ?aS ?aL ?_;(case aR=>exact cc (Kd.R_reads' HO408.out).2.2);(case aB=>exact (bb HB));(case aF=>exact (fun k_ hk=>Kd.fresh' (Kd.R_lt (rR HO408)) k_ hk));(case aO=>exact (by (with_reducible repeat (first|apply Kd.R_alloc|apply Kd.R_drewN|apply Kd.R_drew));exact Kd.R_mono HO_5.out (fun _ hk=>hk.2)));(case aS=>exact (bz HB));(case aL=>have:=LMc8.out;omega);intro v410 w10 ho hb hg hat;rw [← Ny409.out] at ho;have n0_:=am (Kd.R_after (ok:=(fun _=>True)) (rR HO408) hg hat);have n1_:=am (hb);have n2_:=am (ho);clear HO408;clear HB;clear HO_5;have HO408:=n0_;have HB:=n1_;have HO411:=n2_;clear n0_ n1_ n2_;clear ho hb hg hat))
      go_roundg k1
      case measure=>have:=HK1.out;omega
      case rel=>exact ⟨(y409),(wrap64 (x6_1+1)),(by first|rfl|(simp;done)|(simp [*];done)),H',⟨by have:=HK1.out;omega⟩,⟨by (with_reducible repeat (first|apply Kd.R_alloc|apply Kd.R_drewN|apply Kd.R_drew));exact Kd.R_mono HO411.out (fun _ hk=>trivial)⟩,⟨bb HB⟩⟩
     ·rw [if_neg c8] at H
      exact absurd H (by simp)
    ·rw [if_neg c6] at H
     exact absurd H (by simp)
   ·rw [if_neg c5] at H
    have c5b0:decide (x6_1 < (l0.length:Int))=false:=decide_eq_false c5
    clear c5;obtain rfl:=Option.some.inj H;go_wp2;go_ret
    exact ⟨_,by first|rfl|(simp [errW_none,errW_some]<;>rfl)|(simp [*,errW_none,errW_some]<;>rfl),by (with_reducible repeat (first|apply Kd.R_alloc|apply Kd.R_drewN|apply Kd.R_drew));exact HO_5.out,bb HB⟩
end Go.Proofs.Ytopmjjnkolfciaa.Pr
end
