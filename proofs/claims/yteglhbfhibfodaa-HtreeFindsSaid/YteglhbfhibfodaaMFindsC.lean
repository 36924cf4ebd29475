/- MFinds: this session's texts for the one law, put together (part 3 of 5): what its program computes, function by function, and that this answers true; the row stands at the end of the last part. Conditions: those that each theorem names; the last theorem has none. -/
import Derived.Maps.OwnSet
import Derived.Maps.Views
import Derived.Carry
import Derived.Lib.AppendZerosOnto
import Derived.Lib.Overlaps
import Derived.Laws.Externs
import Derived.Laws.CopyRow
import Derived.Deep.DeepAppendWide
import Derived.Shelf.SlSortCmp.WholeK
import Derived.Shelf.SlSortCmp.NoneTotal
import Derived.Ground.SlsfProg
import Derived.Test.YteglhbfhibfodaaProg
import Derived.Test.YteglhbfhibfodaaMFindsB
section
namespace Go.Proofs.Yteglhbfhibfodaa.Pr
open Go.RowKit Go.Proofs.YteglhbfhibfodaaW.PrintWords Go.Proofs.YteglhbfhibfodaaW.PrintLast Go.Proofs.YteglhbfhibfodaaW.PrintMore
attribute [local go_sem] max2_int min2_int max_two min_two max_three min_three max_four min_four
attribute [local go_sem] Go.Proofs.Yteglhbfhibfodaa.Hl.str_geq Go.Proofs.Yteglhbfhibfodaa.Hl.str_gtr Go.Proofs.Yteglhbfhibfodaa.Hl.str_leq
set_option linter.unusedVariables false
set_option linter.unusedSimpArgs false
def htree_sum.f (k:Nat) (a0:ByteArray):Option (Int):=if a0.size≤140737488351232 then (crc_Sum.f k (bytesOf a0)) else none
set_option maxHeartbeats 8000000 in
set_option maxRecDepth 100000 in
theorem htree_sum.calls (k:Nat) (a0:ByteArray) (r:Int) (w:World) (h:htree_sum.f k a0=some r) :
  Calls Try.prog 34 #[.string a0] w fun e w'=>e=.returned (.int .u32 r)∧Below w.heap.size w w':=by
 unfold htree_sum.f at h
 by_cases hs:a0.size≤140737488351232
 ·rw [if_pos hs] at h
  obtain ⟨cf,g,hcv,hcc,hcC⟩:=conv_run (P:=Try.prog) a0 Try.underlying9 Try.underlying66 Try.underlying5 (by omega)
  have HH:=am h
  have HCC:=am hcc
  have HCv:=am hcC
  clear h hs hcc hcC
  go_enter Try.func34,Try.ntmps34
  go_wp2_with (go_at_call 47;refine (crc_Sum.calls k _ _ (bytesOf a0) r _ (HCv.out _) (HCC.out _) HH.out).mono ?_;rintro e2 w2 ⟨rfl,hb2⟩;have HB2:=am hb2;clear hb2)
  go_ret
  exact ⟨rfl,(below_alloc (below_drew1 (Below.refl _ _)) _).trans (HB2.out.mono (by simp))⟩
 ·rw [if_neg hs] at h;cases h
def cmpR (a s:Int):Int:=if a≤s then -1 else 1
def bsr_l0:Nat→List S76→Int→Int→Int→Option (Int×Bool)
 | 0,_,_,_,_=>none
 | k+1,l,s,i,j=>if i < j then (if 0≤i∧j≤(l.length:Int) then (if cmpR (rd_T76 l ((i+j) / 2)).f0 s < 0 then bsr_l0 k l s ((i+j) / 2+1) j else bsr_l0 k l s i ((i+j) / 2)) else none) else (if 0≤i then (if i < (l.length:Int) then some (i,cmpR (rd_T76 l i).f0 s==0) else some (i,false)) else none)
set_option maxHeartbeats 8000000 in
set_option maxRecDepth 100000 in
theorem at_cmp (a b s:Int) (W:World) :
  Calls Try.prog 36 #[.agg #[.int .u32 a,.int .i64 b],.int .u32 s] W fun e w'=>e=.returned (.int .i64 (cmpR a s))∧Below W.heap.size W w':=by
 have hu26:=Try.underlying76
 by_cases hq:a≤s
 ·have hqb:decide (a≤s)=true:=decide_eq_true hq
  have hc:cmpR a s = -1:=if_pos hq
  rw [hc]
  clear hq hc
  go_enter Try.func36,Try.ntmps36
  go_wp2;go_ret
  exact ⟨rfl,below_alloc (Below.refl _ _) _⟩
 ·have hqb:decide (a≤s)=false:=decide_eq_false hq
  have hc:cmpR a s=1:=if_neg hq
  rw [hc]
  clear hq hc
  go_enter Try.func36,Try.ntmps36
  go_wp2;go_ret
  exact ⟨rfl,below_alloc (Below.refl _ _) _⟩
set_option maxHeartbeats 8000000 in
set_option maxRecDepth 100000 in
theorem bsr (k:Nat) (A0:Option Addr) (c0:Nat) (l:List S76) (s:Int) (r1:Int) (r2:Bool) (w:World) (hr0:Kd.C k76 w A0 l.length l) (hc0:l.length≤c0) (hl:l.length < 4398046511104) (h:bsr_l0 k l s 0 l.length=some (r1,r2)) :
  Calls Try.prog 35 #[.slice A0 l.length c0,.int .u32 s,.func (.func 36) #[] #[]] w fun e w'=>e=.returned (.tuple #[.int .i64 r1,.bool r2])∧Below w.heap.size w w':=by
 have HR0:=am hr0
 have HC0:=am hc0
 have HL:=am hl
 have HH:=am h
 have hi26:=info76
 have hu26:=Try.underlying76
 clear hr0 hc0 hl h
 go_enter Try.func35,Try.ntmps35
 go_wp2
 go_loopg [9,10] k (fun kq v9 v10 w'=>∃ (i j:Int),v9=.int .i64 i∧v10=.int .i64 j∧Aside0 (bsr_l0 kq l s i j=some (r1,r2))∧Aside0 (kq≤k)∧Aside0 (Below w.heap.size w w'))
 case atStart=>exact ⟨0,l.length,rfl,rfl,HH,⟨Nat.le_refl _⟩,⟨Below.refl _ _⟩⟩
 case round =>
  obtain ⟨i,j,rfl,rfl,HQ,HK,HB⟩:=hrel
  cases gk with
  | zero=>exact absurd HQ.out (by intro h_;cases h_)
  | succ g =>
   have hl:=HQ.out
   clear HQ
   simp only [bsr_l0] at hl
   by_cases hij:i < j
   ·rw [if_pos hij] at hl
    have hijb:decide (i < j)=true:=decide_eq_true hij
    by_cases hb:0≤i∧j≤(l.length:Int)
    ·rw [if_pos hb] at hl
     obtain ⟨m,hm⟩:∃ m,(i+j) / 2=m:=⟨_,rfl⟩
     rw [hm] at hl
     have hm0:0≤m:=by omega
     have hml:m < (l.length:Int):=by omega
     have HM:=am (⟨hm0,hml⟩:0≤m∧m < (l.length:Int))
     have hw1:wrap64 (i+j)=i+j:=by have:=HL.out;unfold wrap64;omega
     have hw2:IntKind.u64.wrap (i+j)=i+j:=by have:=HL.out;simp [IntKind.wrap,IntKind.signed,IntKind.bits];omega
     have hw3:wrap64 m=m:=by have:=HL.out;unfold wrap64;omega
     have hw4:wrap64 (m+1)=m+1:=by have:=HL.out;unfold wrap64;omega
     have hdv:(i+j) / 2 ^ (1:Int).toNat=m:=hm
     obtain ⟨ad,ead,hca,hcb⟩:=at_T76 HR0.out m hm0 hml
     cases ead
     replace hca:=hB HB hca
     replace hcb:=hB HB hcb
     obtain ⟨na,hna⟩:∃ na,(rd_T76 l m).f0=na:=⟨_,rfl⟩
     obtain ⟨nv,hnv⟩:∃ nv,(rd_T76 l m).f1=nv:=⟨_,rfl⟩
     rw [hna] at hca hl
     rw [hnv] at hcb
     obtain ⟨cv,hcv⟩:∃ cv,cmpR na s=cv:=⟨_,rfl⟩
     rw [hcv] at hl
     have hmb:=decide_eq_true hml
     have hmb0:=decide_eq_true hm0
     clear hna hnv hb
     by_cases hlt:cv < 0
     ·rw [if_pos hlt] at hl
      have hltb:decide (cv < 0)=true:=decide_eq_true hlt
      have HLL:=am hl
      clear hl hij hlt
      go_wp2_with (go_at_call 36;refine (at_cmp na nv s _).mono ?_;rintro e w2 ⟨rfl,hb2⟩;have HB2:=am (HB.out.trans (hb2.mono HB.out.size));clear hb2)
      go_roundg g
      case measure=>have:=HK.out;omega
      case rel=>exact ⟨m+1,j,by rw [hw4],rfl,HLL,⟨by have:=HK.out;omega⟩,HB2⟩
     ·rw [if_neg hlt] at hl
      have hltb:decide (cv < 0)=false:=decide_eq_false hlt
      have HLL:=am hl
      clear hl hij hlt
      go_wp2_with (go_at_call 36;refine (at_cmp na nv s _).mono ?_;rintro e w2 ⟨rfl,hb2⟩;have HB2:=am (HB.out.trans (hb2.mono HB.out.size));clear hb2)
      go_roundg g
      case measure=>have:=HK.out;omega
      case rel=>exact ⟨i,m,rfl,rfl,HLL,⟨by have:=HK.out;omega⟩,HB2⟩
    ·rw [if_neg hb] at hl
     cases hl
   ·rw [if_neg hij] at hl
    have hijb:decide (i < j)=false:=decide_eq_false hij
    by_cases hi0:0≤i
    ·rw [if_pos hi0] at hl
     by_cases hil:i < (l.length:Int)
     ·rw [if_pos hil] at hl
      have hilb:decide (i < (l.length:Int))=true:=decide_eq_true hil
      have hi0b:decide (0≤i)=true:=decide_eq_true hi0
      obtain ⟨ad,ead,hca,hcb⟩:=at_T76 HR0.out i hi0 hil
      cases ead
      replace hca:=hB HB hca
      replace hcb:=hB HB hcb
      obtain ⟨na,hna⟩:∃ na,(rd_T76 l i).f0=na:=⟨_,rfl⟩
      obtain ⟨nv,hnv⟩:∃ nv,(rd_T76 l i).f1=nv:=⟨_,rfl⟩
      rw [hna] at hca hl
      rw [hnv] at hcb
      obtain ⟨cv,hcv⟩:∃ cv,cmpR na s=cv:=⟨_,rfl⟩
      rw [hcv] at hl
      obtain ⟨rfl,rfl⟩:=Prod.mk.inj (Option.some.inj hl)
      clear hna hnv hl
      go_wp2_with (go_at_call 36;refine (at_cmp na nv s _).mono ?_;rintro e w2 ⟨rfl,hb2⟩;have HB2:=am (HB.out.trans (hb2.mono HB.out.size));clear hb2)
      go_ret2
      exact ⟨rfl,HB2.out⟩
     ·rw [if_neg hil] at hl
      have hilb:decide (i < (l.length:Int))=false:=decide_eq_false hil
      obtain ⟨rfl,rfl⟩:=Prod.mk.inj (Option.some.inj hl)
      clear hl;go_wp2
      go_ret2
      exact ⟨rfl,HB.out⟩
    ·rw [if_neg hi0] at hl
     cases hl
def atF (k:Nat) (rows:List S76) (name:ByteArray):Option Int:=(htree_sum.f k name).bind fun s=>(bsr_l0 k rows s 0 rows.length).bind fun p=>some (wrap64 (p.1 - 1))
set_option maxHeartbeats 8000000 in
set_option maxRecDepth 100000 in
theorem at_calls (k:Nat) (B:Nat) (T:TypeId) (v0 v2:Value) (A1:Option Addr) (c1:Nat) (rows:List S76) (name:ByteArray) (r:Int) (w:World) (hB:w.heap[B]? = some (.cells #[v0,.slice A1 rows.length c1,v2] T (0,0)))
  (hr1:Kd.C k76 w A1 rows.length rows) (hc1:rows.length≤c1) (hl:rows.length < 4398046511104) (h:atF k rows name=some r) :
  Calls Try.prog 19 #[.pointer (some ⟨B,0,none⟩),.string name] w fun e w'=>e=.returned (.int .i64 r)∧Below w.heap.size w w':=by
 unfold atF at h
 obtain ⟨s,hs,h⟩:=Option.bind_eq_some_iff.1 h
 obtain ⟨⟨i,b⟩,hb,h⟩:=Option.bind_eq_some_iff.1 h
 obtain rfl:=Option.some.inj h
 have HBK:=am hB
 have HR1:=am hr1
 have HC1:=am hc1
 have HL:=am hl
 have HS:=am hs
 have HBS:=am hb
 have hcr:=(blk_cell hB 1).trans rfl
 clear hB hr1 hc1 hl hs hb
 go_enter Try.func19,Try.ntmps19
 go_wp2
 refine start_ (n:=12) (S:=fun w'=>w'.cell? ⟨B,1,none⟩=some (.slice A1 rows.length c1)∧Below w.heap.size w w') (ds:=[]) _ (by kernel_rfl) rfl rfl ⟨hcr,below_drew (Below.refl _ _)⟩ (fun hHeld=>?_)
 refine pK 0 8 ?_;refine pK 1 9 ?_;refine pK 2 10 ?_;refine pK 4 12 ?_;refine tK 3 11 hHeld ?_ (hy:=by rintro w' ⟨s0,s1⟩;go_simp;with_reducible rfl)
 refine oK 5 (some 13) (fun K hK=>?_)
 refine gS Try.func34 #[.string name] ?_
 refine (htree_sum.calls k name s _ HS.out).mono ?_
 rintro e w3 ⟨rfl,hb3⟩
 refine ⟨_,rfl,?_⟩
 refine hK.out _ _ ⟨(hb3.cell (World.block_lt_of_cell? _ _ hHeld.1)).trans hHeld.1,hHeld.2.trans (hb3.mono hHeld.2.size)⟩ (fun hHeld=>?_)
 clear hK K;refine norm_ (a':=?_) ?_ ?_;rotate_left
 ·show Act.put _ (some 13) _=_
  simp only [Act.put,sIb,sC0,sCs,i64_w,i32_w];rfl
 refine oK 6 (some 14) (fun K hK=>?_)
 refine gS Try.func35 #[.slice A1 rows.length c1,.int .u32 s,.func (.func 36) #[] #[]] ?_
 refine (bsr k A1 c1 rows s i b _ (Kd.C_below HR1.out hHeld.2) HC1.out HL.out HBS.out).mono ?_
 rintro e w4 ⟨rfl,hb4⟩
 refine ⟨_,rfl,?_⟩
 refine hK.out _ _ ⟨(hb4.cell (World.block_lt_of_cell? _ _ hHeld.1)).trans hHeld.1,hHeld.2.trans (hb4.mono hHeld.2.size)⟩ (fun hHeld=>?_)
 clear hK K;refine norm_ (a':=?_) ?_ ?_;rotate_left
 ·show Act.put _ (some 14) _=_
  simp only [Act.put,sIb,sC0,sCs,i64_w,i32_w];rfl
 refine pK 7 7 ?_;refine pK 8 15 ?_;refine pK 9 16 ?_;refine pK 10 5 ?_;refine pK 11 6 ?_
 refine done_ (by kernel_rfl) ?_
 have HB2:=am hHeld.2
 go_wp2;go_ret
 exact ⟨rfl,HB2.out⟩
def cmp_Or_int.l0:Nat→Int→List Int→Int→Int→Option (Int)
 | 0,_,_,_,_=>none
 | k+1,x3,x6,x7,x8=>if x8 < x7 then (if 0≤x8 then (if x8 < (x6.length:Int) then (if (rd x6 x8)=x3 then (cmp_Or_int.l0 k x3 x6 x7 (wrap64 (x8+1))) else (some (rd x6 x8))) else (none)) else (none)) else (some x3)
def cmp_Or_int.f (k:Nat) (l0:List Int):Option (Int):=cmp_Or_int.l0 k 0 l0 (l0.length:Int) 0
set_option maxHeartbeats 8000000 in
set_option maxRecDepth 100000 in
theorem cmp_Or_int.calls (k:Nat) (A0:Option Addr) (c0:Nat) (l0:List Int) (r:Int) (w:World) (hr0:Kd.C (Kd.int .i64) w A0 l0.length l0) (hc0:l0.length≤c0) (h:cmp_Or_int.f k l0=some r) :
  Calls Try.prog 40 #[.slice A0 l0.length c0] w fun e w'=>e=.returned (.int .i64 r)∧Drawn0 w w':=by
 have HR0:=am hr0
 have HC0:=am hc0
 clear hr0 hc0
 have H:(cmp_Or_int.l0 k 0 l0 (l0.length:Int) 0)=some r:=h
 clear h
 have H':=am H
 clear H
 go_enter Try.func40,Try.ntmps40
 go_wp2
 go_loopg [8] k (fun kq v8 w'=>∃ (x8_1:Int),v8=.int .i64 x8_1∧Aside0 (cmp_Or_int.l0 kq 0 l0 (l0.length:Int) x8_1=some r)∧Aside0 (kq≤k)∧Drawn0 w w')
 case atStart=>exact ⟨(0),(by first|rfl|(simp;done)|(simp [*];done)),H',⟨Nat.le_refl _⟩,by repeat (first|exact Drawn0.refl _|apply Drawn0.step)⟩
 case round =>
  clear H'
  obtain ⟨x8_1,rfl,HA,HK1,⟨m1,rfl⟩⟩:=hrel
  cases gk with
  | zero=>exact absurd HA.out (by intro h_;cases h_)
  | succ k1 =>
   have H:=HA.out
   clear HA
   simp only [cmp_Or_int.l0] at H
   by_cases c2:x8_1 < (l0.length:Int)
   ·rw [if_pos c2] at H
    have c2b0:decide (x8_1 < (l0.length:Int))=true:=decide_eq_true c2
    clear c2
    by_cases c3:0≤x8_1
    ·rw [if_pos c3] at H
     have c3b0:decide (0≤x8_1)=true:=decide_eq_true c3
     clear c3
     by_cases c4:x8_1 < (l0.length:Int)
     ·rw [if_pos c4] at H
      have c4b0:decide (x8_1 < (l0.length:Int))=true:=decide_eq_true c4
      clear c4
      by_cases c5:(rd l0 x8_1)=0
      ·rw [if_pos c5] at H
       have c5b0:((rd l0 x8_1)==0)=true:=beq_iff_eq.mpr c5
       have c5b1:((rd l0 x8_1) != 0)=false:=bne_eq_false_iff_eq.mpr c5
       clear c5
       have H':=am H
       clear H
       have p177:0≤(x8_1:Int):=od
       have q177:x8_1 < (l0.length:Int):=od
       obtain ⟨ad177,e177,hx177_0⟩:=Kd.at_int HR0.out x8_1 p177 q177
       cases e177
       replace p177:=eq_true p177;replace q177:=eq_true q177;go_wp2
       go_roundg k1
       case measure=>have:=HK1.out;omega
       case rel=>exact ⟨(wrap64 (x8_1+1)),(by first|rfl|(simp;done)|(simp [*];done)),H',⟨by have:=HK1.out;omega⟩,by repeat (first|exact Drawn0.refl _|apply Drawn0.step)⟩
      ·rw [if_neg c5] at H
       have c5b0:((rd l0 x8_1)==0)=false:=beq_eq_false_iff_ne.mpr c5
       have c5b1:((rd l0 x8_1) != 0)=true:=bne_iff_ne.mpr c5
       obtain rfl:=Option.some.inj H
       have p177:0≤(x8_1:Int):=od
       have q177:x8_1 < (l0.length:Int):=od
       obtain ⟨ad177,e177,hx177_0⟩:=Kd.at_int HR0.out x8_1 p177 q177
       cases e177
       replace p177:=eq_true p177;replace q177:=eq_true q177;go_wp2;go_ret
       exact ⟨by first|rfl|(simp;done)|(simp [*];done),by repeat (first|exact Drawn0.refl _|apply Drawn0.step)⟩
     ·rw [if_neg c4] at H
      exact absurd H (by simp)
    ·rw [if_neg c3] at H
     exact absurd H (by simp)
   ·rw [if_neg c2] at H
    have c2b0:decide (x8_1 < (l0.length:Int))=false:=decide_eq_false c2
    clear c2;obtain rfl:=Option.some.inj H;go_wp2;go_ret
    exact ⟨by first|rfl|(simp;done)|(simp [*];done),by repeat (first|exact Drawn0.refl _|apply Drawn0.step)⟩
def cmp_isNaN_uint32.f (a0:Int):Option (Bool):=some (a0 != a0)
set_option maxHeartbeats 8000000 in
set_option maxRecDepth 100000 in
theorem cmp_isNaN_uint32.calls (a0:Int) (r:Bool) (w:World) (h:cmp_isNaN_uint32.f a0=some r) :
  Calls Try.prog 66 #[.int .u32 a0] w fun e w'=>e=.returned (.bool r)∧Drawn0 w w':=by
 have H:(some (a0 != a0))=some r:=h
 clear h;obtain rfl:=Option.some.inj H
 go_enter Try.func66,Try.ntmps66
 go_wp2;go_ret
 exact ⟨by first|rfl|(simp;done)|(simp [*];done),by repeat (first|exact Drawn0.refl _|apply Drawn0.step)⟩
def cmp_Compare_uint32.f (a0:Int) (a1:Int):Option (Int):=(cmp_isNaN_uint32.f a0).bind fun t178=>((cmp_isNaN_uint32.f a1).bind fun t179=>(if t178=true then (if t179=true then (some 0) else (some (-1))) else (if t179=true then (some 1) else (if a0 < a1 then (some (-1)) else (if a0 > a1 then (some 1) else (some 0))))))
set_option maxHeartbeats 8000000 in
set_option maxRecDepth 100000 in
theorem cmp_Compare_uint32.calls (a0:Int) (a1:Int) (r:Int) (w:World) (h:cmp_Compare_uint32.f a0 a1=some r) :
  Calls Try.prog 41 #[.int .u32 a0,.int .u32 a1] w fun e w'=>e=.returned (.int .i64 r)∧Drawn0 w w':=by
 have H:((cmp_isNaN_uint32.f a0).bind fun t178=>((cmp_isNaN_uint32.f a1).bind fun t179=>(if t178=true then (if t179=true then (some 0) else (some (-1))) else (if t179=true then (some 1) else (if a0 < a1 then (some (-1)) else (if a0 > a1 then (some 1) else (some 0)))))))=some r:=h
 clear h
 replace H:=Option.bind_eq_some_iff.mp H
 obtain ⟨t178,A30,H⟩:=H
 replace H:((cmp_isNaN_uint32.f a1).bind fun t179=>(if t178=true then (if t179=true then (some 0) else (some (-1))) else (if t179=true then (some 1) else (if a0 < a1 then (some (-1)) else (if a0 > a1 then (some 1) else (some 0))))))=some r:=H
 have A3:=am A30
 clear A30
 replace H:=Option.bind_eq_some_iff.mp H
 obtain ⟨t179,A40,H⟩:=H
 replace H:(if t178=true then (if t179=true then (some 0) else (some (-1))) else (if t179=true then (some 1) else (if a0 < a1 then (some (-1)) else (if a0 > a1 then (some 1) else (some 0)))))=some r:=H
 have A4:=am A40
 clear A40
 by_cases c5:t178=true
 ·subst c5
  have H1:(if t179=true then (some 0) else (some (-1)))=some r:=by rw [if_pos rfl] at H;exact H
  clear H;have H:=H1;clear H1
  by_cases c6:t179=true
  ·subst c6
   have H1:(some 0)=some r:=by rw [if_pos rfl] at H;exact H
   clear H;have H:=H1;clear H1;obtain rfl:=Option.some.inj H
   go_enter Try.func41,Try.ntmps41
   go_wp2_with (first|((with_reducible refine gate_callee (f:=66) rfl ?_);refine goesL_ (some 8) rfl rfl Try.func66 (by kernel_rfl) rfl #[.int .u32 a0] rfl (by (try simp only [List.map_toArray,List.map_cons,List.map_nil]);first|done|rfl|(simp only [List.length_drop,List.length_take];rfl)) ?_;(with_reducible refine (cmp_isNaN_uint32.calls a0 true _ A3.out).mono ?_);rintro e w' ⟨rfl,⟨nd,rfl⟩⟩;refine ⟨_,rfl,?_⟩)|((with_reducible refine gate_callee (f:=66) rfl ?_);refine goesL_ (some 10) rfl rfl Try.func66 (by kernel_rfl) rfl #[.int .u32 a1] rfl (by (try simp only [List.map_toArray,List.map_cons,List.map_nil]);first|done|rfl|(simp only [List.length_drop,List.length_take];rfl)) ?_;(with_reducible refine (cmp_isNaN_uint32.calls a1 true _ A4.out).mono ?_);rintro e w' ⟨rfl,⟨nd,rfl⟩⟩;refine ⟨_,rfl,?_⟩))
   go_ret
   exact ⟨by first|rfl|(simp;done)|(simp [*];done),by repeat (first|exact Drawn0.refl _|apply Drawn0.step)⟩
  ·replace c6:=Bool.eq_false_iff.mpr c6
   subst c6
   have H1:(some (-1))=some r:=by rw [if_neg (show ¬ (false=true) by decide)] at H;exact H
   clear H;have H:=H1;clear H1;obtain rfl:=Option.some.inj H
   go_enter Try.func41,Try.ntmps41
   go_wp2_with (first|((with_reducible refine gate_callee (f:=66) rfl ?_);refine goesL_ (some 8) rfl rfl Try.func66 (by kernel_rfl) rfl #[.int .u32 a0] rfl (by (try simp only [List.map_toArray,List.map_cons,List.map_nil]);first|done|rfl|(simp only [List.length_drop,List.length_take];rfl)) ?_;(with_reducible refine (cmp_isNaN_uint32.calls a0 true _ A3.out).mono ?_);rintro e w' ⟨rfl,⟨nd,rfl⟩⟩;refine ⟨_,rfl,?_⟩)|((with_reducible refine gate_callee (f:=66) rfl ?_);refine goesL_ (some 10) rfl rfl Try.func66 (by kernel_rfl) rfl #[.int .u32 a1] rfl (by (try simp only [List.map_toArray,List.map_cons,List.map_nil]);first|done|rfl|(simp only [List.length_drop,List.length_take];rfl)) ?_;(with_reducible refine (cmp_isNaN_uint32.calls a1 false _ A4.out).mono ?_);rintro e w' ⟨rfl,⟨nd,rfl⟩⟩;refine ⟨_,rfl,?_⟩))
   go_ret
   exact ⟨by first|rfl|(simp;done)|(simp [*];done),by repeat (first|exact Drawn0.refl _|apply Drawn0.step)⟩
 ·replace c5:=Bool.eq_false_iff.mpr c5
  subst c5
  have H1:(if t179=true then (some 1) else (if a0 < a1 then (some (-1)) else (if a0 > a1 then (some 1) else (some 0))))=some r:=by rw [if_neg (show ¬ (false=true) by decide)] at H;exact H
  clear H;have H:=H1;clear H1
  by_cases c7:t179=true
  ·subst c7
   have H1:(some 1)=some r:=by rw [if_pos rfl] at H;exact H
   clear H;have H:=H1;clear H1;obtain rfl:=Option.some.inj H
   go_enter Try.func41,Try.ntmps41
   go_wp2_with (first|((with_reducible refine gate_callee (f:=66) rfl ?_);refine goesL_ (some 8) rfl rfl Try.func66 (by kernel_rfl) rfl #[.int .u32 a0] rfl (by (try simp only [List.map_toArray,List.map_cons,List.map_nil]);first|done|rfl|(simp only [List.length_drop,List.length_take];rfl)) ?_;(with_reducible refine (cmp_isNaN_uint32.calls a0 false _ A3.out).mono ?_);rintro e w' ⟨rfl,⟨nd,rfl⟩⟩;refine ⟨_,rfl,?_⟩)|((with_reducible refine gate_callee (f:=66) rfl ?_);refine goesL_ (some 10) rfl rfl Try.func66 (by kernel_rfl) rfl #[.int .u32 a1] rfl (by (try simp only [List.map_toArray,List.map_cons,List.map_nil]);first|done|rfl|(simp only [List.length_drop,List.length_take];rfl)) ?_;(with_reducible refine (cmp_isNaN_uint32.calls a1 true _ A4.out).mono ?_);rintro e w' ⟨rfl,⟨nd,rfl⟩⟩;refine ⟨_,rfl,?_⟩))
   go_ret
   exact ⟨by first|rfl|(simp;done)|(simp [*];done),by repeat (first|exact Drawn0.refl _|apply Drawn0.step)⟩
  ·replace c7:=Bool.eq_false_iff.mpr c7
   subst c7
   have H1:(if a0 < a1 then (some (-1)) else (if a0 > a1 then (some 1) else (some 0)))=some r:=by rw [if_neg (show ¬ (false=true) by decide)] at H;exact H
   clear H;have H:=H1;clear H1
   by_cases c8:a0 < a1
   ·rw [if_pos c8] at H
    have c8b0:decide (a0 < a1)=true:=decide_eq_true c8
    clear c8;obtain rfl:=Option.some.inj H
    go_enter Try.func41,Try.ntmps41
    go_wp2_with (first|((with_reducible refine gate_callee (f:=66) rfl ?_);refine goesL_ (some 8) rfl rfl Try.func66 (by kernel_rfl) rfl #[.int .u32 a0] rfl (by (try simp only [List.map_toArray,List.map_cons,List.map_nil]);first|done|rfl|(simp only [List.length_drop,List.length_take];rfl)) ?_;(with_reducible refine (cmp_isNaN_uint32.calls a0 false _ A3.out).mono ?_);rintro e w' ⟨rfl,⟨nd,rfl⟩⟩;refine ⟨_,rfl,?_⟩)|((with_reducible refine gate_callee (f:=66) rfl ?_);refine goesL_ (some 10) rfl rfl Try.func66 (by kernel_rfl) rfl #[.int .u32 a1] rfl (by (try simp only [List.map_toArray,List.map_cons,List.map_nil]);first|done|rfl|(simp only [List.length_drop,List.length_take];rfl)) ?_;(with_reducible refine (cmp_isNaN_uint32.calls a1 false _ A4.out).mono ?_);rintro e w' ⟨rfl,⟨nd,rfl⟩⟩;refine ⟨_,rfl,?_⟩))
    go_ret
    exact ⟨by first|rfl|(simp;done)|(simp [*];done),by repeat (first|exact Drawn0.refl _|apply Drawn0.step)⟩
   ·rw [if_neg c8] at H
    have c8b0:decide (a0 < a1)=false:=decide_eq_false c8
    clear c8
    by_cases c9:a0 > a1
    ·rw [if_pos c9] at H
     have c9b0:decide (a1 < a0)=true:=decide_eq_true c9
     clear c9;obtain rfl:=Option.some.inj H
     go_enter Try.func41,Try.ntmps41
     go_wp2_with (first|((with_reducible refine gate_callee (f:=66) rfl ?_);refine goesL_ (some 8) rfl rfl Try.func66 (by kernel_rfl) rfl #[.int .u32 a0] rfl (by (try simp only [List.map_toArray,List.map_cons,List.map_nil]);first|done|rfl|(simp only [List.length_drop,List.length_take];rfl)) ?_;(with_reducible refine (cmp_isNaN_uint32.calls a0 false _ A3.out).mono ?_);rintro e w' ⟨rfl,⟨nd,rfl⟩⟩;refine ⟨_,rfl,?_⟩)|((with_reducible refine gate_callee (f:=66) rfl ?_);refine goesL_ (some 10) rfl rfl Try.func66 (by kernel_rfl) rfl #[.int .u32 a1] rfl (by (try simp only [List.map_toArray,List.map_cons,List.map_nil]);first|done|rfl|(simp only [List.length_drop,List.length_take];rfl)) ?_;(with_reducible refine (cmp_isNaN_uint32.calls a1 false _ A4.out).mono ?_);rintro e w' ⟨rfl,⟨nd,rfl⟩⟩;refine ⟨_,rfl,?_⟩))
     go_ret
     exact ⟨by first|rfl|(simp;done)|(simp [*];done),by repeat (first|exact Drawn0.refl _|apply Drawn0.step)⟩
    ·rw [if_neg c9] at H
     have c9b0:decide (a1 < a0)=false:=decide_eq_false c9
     clear c9;obtain rfl:=Option.some.inj H
     go_enter Try.func41,Try.ntmps41
     go_wp2_with (first|((with_reducible refine gate_callee (f:=66) rfl ?_);refine goesL_ (some 8) rfl rfl Try.func66 (by kernel_rfl) rfl #[.int .u32 a0] rfl (by (try simp only [List.map_toArray,List.map_cons,List.map_nil]);first|done|rfl|(simp only [List.length_drop,List.length_take];rfl)) ?_;(with_reducible refine (cmp_isNaN_uint32.calls a0 false _ A3.out).mono ?_);rintro e w' ⟨rfl,⟨nd,rfl⟩⟩;refine ⟨_,rfl,?_⟩)|((with_reducible refine gate_callee (f:=66) rfl ?_);refine goesL_ (some 10) rfl rfl Try.func66 (by kernel_rfl) rfl #[.int .u32 a1] rfl (by (try simp only [List.map_toArray,List.map_cons,List.map_nil]);first|done|rfl|(simp only [List.length_drop,List.length_take];rfl)) ?_;(with_reducible refine (cmp_isNaN_uint32.calls a1 false _ A4.out).mono ?_);rintro e w' ⟨rfl,⟨nd,rfl⟩⟩;refine ⟨_,rfl,?_⟩))
     go_ret
     exact ⟨by first|rfl|(simp;done)|(simp [*];done),by repeat (first|exact Drawn0.refl _|apply Drawn0.step)⟩
def htree_inOrder.f (k:Nat) (a0_0:ByteArray) (a0_1:Int) (a1_0:ByteArray) (a1_1:Int):Option (Int):=(htree_sum.f k a0_0).bind fun t182=>((htree_sum.f k a1_0).bind fun t183=>((cmp_Compare_uint32.f t182 t183).bind fun t184=>((strings_Compare.f a0_0 a1_0).bind fun t185=>((cmp_Or_int.f k (([t184,t185]:List Int))).bind fun t189=>(some t189)))))
def htree_inOrder.T1:Bool×List (List Nat×List Nat):=(true,[([],[]),([0],[0]),([1],[1]),([],[]),([3],[3]),([4,2],[4]),([2,5,5],[2,5]),([],[]),([7],[7]),([],[]),([9],[9]),([8,10,6],[8,10]),([6,11],[6,11]),([12,11],[12]),([13,13,0,1,2,3,4,5,6,7,8,9,10,11,12,13],[13])])
def htree_inOrder.B1:List Nat:=[0,1,3,0,8,31,63,0,128,0,512,2047,4095,8191,16383]
theorem htree_inOrder.tab1:rtab .any (opsOf Try.f22 1)=htree_inOrder.T1:=by kernel_rfl
theorem htree_inOrder.bits1:waitsOk htree_inOrder.T1.2 htree_inOrder.B1=true:=by kernel_rfl
set_option maxHeartbeats 8000000 in
set_option maxRecDepth 100000 in
theorem htree_inOrder.calls (k:Nat) (a0_0:ByteArray) (a0_1:Int) (a1_0:ByteArray) (a1_1:Int) (r:Int) (w:World) (h:htree_inOrder.f k a0_0 a0_1 a1_0 a1_1=some r) :
  Calls Try.prog 22 #[.agg #[.string a0_0,.int .i64 a0_1],.agg #[.string a1_0,.int .i64 a1_1]] w fun e w'=>e=.returned (.int .i64 r)∧Below w.heap.size w w':=by
 have hu30:=Try.underlying30
 have HB:=am (Below.refl w.heap.size w)
 have H:((htree_sum.f k a0_0).bind fun t182=>((htree_sum.f k a1_0).bind fun t183=>((cmp_Compare_uint32.f t182 t183).bind fun t184=>((strings_Compare.f a0_0 a1_0).bind fun t185=>((cmp_Or_int.f k (([t184,t185]:List Int))).bind fun t189=>(some t189))))))=some r:=h
 clear h
 replace H:=Option.bind_eq_some_iff.mp H
 obtain ⟨t182,A30,H⟩:=H
 replace H:((htree_sum.f k a1_0).bind fun t183=>((cmp_Compare_uint32.f t182 t183).bind fun t184=>((strings_Compare.f a0_0 a1_0).bind fun t185=>((cmp_Or_int.f k (([t184,t185]:List Int))).bind fun t189=>(some t189)))))=some r:=H
 have A3:=am A30
 clear A30
 replace H:=Option.bind_eq_some_iff.mp H
 obtain ⟨t183,A40,H⟩:=H
 replace H:((cmp_Compare_uint32.f t182 t183).bind fun t184=>((strings_Compare.f a0_0 a1_0).bind fun t185=>((cmp_Or_int.f k (([t184,t185]:List Int))).bind fun t189=>(some t189))))=some r:=H
 have A4:=am A40
 clear A40
 replace H:=Option.bind_eq_some_iff.mp H
 obtain ⟨t184,A50,H⟩:=H
 replace H:((strings_Compare.f a0_0 a1_0).bind fun t185=>((cmp_Or_int.f k (([t184,t185]:List Int))).bind fun t189=>(some t189)))=some r:=H
 have A5:=am A50
 clear A50
 replace H:=Option.bind_eq_some_iff.mp H
 obtain ⟨t185,A60,H⟩:=H
 replace H:((cmp_Or_int.f k (([t184,t185]:List Int))).bind fun t189=>(some t189))=some r:=H
 have A6:=am A60
 clear A60
 obtain ⟨y186,hy186⟩:∃ y_:List Int,y_=(([t184,t185]:List Int)):=⟨_,rfl⟩
 replace H:((cmp_Or_int.f k y186).bind fun t189=>(some t189))=some r:=by first|(rw [hy186];with_reducible exact H)|(have H2_:=(Option.bind_some _ _).symm.trans H;rw [hy186];with_reducible exact H2_)|(have H2_:=(Option.bind_some _ _).symm.trans H;with_reducible exact H2_)|with_reducible exact H|(rw [hy186];exact H)|exact H
 have Ny186:=am hy186
 clear hy186
 replace H:=Option.bind_eq_some_iff.mp H
 obtain ⟨t189,A70,H⟩:=H
 replace H:(some t189)=some r:=H
 have A7:=am A70
 clear A70;obtain rfl:=Option.some.inj H
 go_enter Try.func22,Try.ntmps22
 try go_wp2_with (first|((with_reducible refine gate_dst (N:=2) rfl ?_);refine box_event ?hg (N:=2) ?hd (cs:=#[.string a0_0,.int .i64 a0_1]) (t:=30) ?hr ?_;(case hd=>rfl);(case hg=>rfl);(case hr=>first|(go_simp;done)|(go_simp;rfl));intro gb180 hg w8 hbox hb;have n0_:=bst HB hb;have n1_:=am (hbox);have n2_:=am ((gz hg HB));have n3_:=am ((gz hg HB));clear HB;have HB:=n0_;have BK180:=n1_;have GW180:=n2_;have GE180:=n3_;clear n0_ n1_ n2_ n3_;clear hb hbox hg)|((with_reducible refine gate_dst (N:=3) rfl ?_);refine box_event ?hg (N:=3) ?hd (cs:=#[.string a1_0,.int .i64 a1_1]) (t:=30) ?hr ?_;(case hd=>rfl);(case hg=>rfl);(case hr=>first|(go_simp;done)|(go_simp;rfl));intro gb181 hg w9 hbox hb;have n0_:=am (blk_below (g:=gb180) (o:=.cells #[.string a0_0,.int .i64 a0_1] 30 (0,0)) (rK BK180) hb);have n1_:=am (below_step (bxs HB GE180) hb);have n2_:=am (hbox);have n3_:=am ((by rw [hg];exact (below_size (bxs HB GE180)):w.heap.size≤gb181));have n4_:=am ((by rw [hg];exact (below_size (bxs HB GE180)):w.heap.size≤gb181));have n5_:=am ((by rw [hg];exact Nat.ne_of_lt (blk_lt (g:=gb180) (o:=.cells #[.string a0_0,.int .i64 a0_1] 30 (0,0)) (rK BK180)):gb180≠gb181));have n6_:=am ((by rw [hg];exact Nat.ne_of_gt (blk_lt (g:=gb180) (o:=.cells #[.string a0_0,.int .i64 a0_1] 30 (0,0)) (rK BK180)):gb181≠gb180));clear BK180;clear HB;have BK180:=n0_;have HB:=n1_;have BK181:=n2_;have GW181:=n3_;have GE181:=n4_;have NB180_181:=n5_;have NB181_180:=n6_;clear n0_ n1_ n2_ n3_ n4_ n5_ n6_;clear hb hbox hg))
 have n0_:=am (blk_drew BK180.out)
 have n1_:=am (blk_drew BK181.out)
 have n2_:=am (below_drew1 HB.out)
 clear BK180;clear BK181;clear HB;have BK180:=n0_;have BK181:=n1_;have HB:=n2_;clear n0_ n1_ n2_
 refine start_ (n:=15) (S:=fun w'=>w'.cell? ⟨gb180,0,none⟩=some (.string a0_0)∧w'.cell? ⟨gb180,1,none⟩=some (.int .i64 a0_1)∧w'.cell? ⟨gb181,0,none⟩=some (.string a1_0)∧w'.cell? ⟨gb181,1,none⟩=some (.int .i64 a1_1)) (ds:=[]) _ (by kernel_rfl) rfl rfl ⟨kC BK180 0,kC BK180 1,kC BK181 0,kC BK181 1⟩ (fun hHeld=>?_);refine with_tabW htree_inOrder.tab1 htree_inOrder.bits1 (fun HT_ HW_=>?_)
 generalize w9.drew=w10 at BK180 BK181 HB hHeld ⊢
 refine pS 0 5 HT_ ?_;refine pS 3 8 HT_ ?_;refine pS 7 12 HT_ ?_;refine pS 9 14 HT_ ?_;refine tS 1 6 HT_ HW_ hHeld ?_ (hy:=by rintro w' ⟨s0,s1,s2,s3⟩;go_simp;with_reducible rfl);refine tS 4 9 HT_ HW_ hHeld ?_ (hy:=by rintro w' ⟨s0,s1,s2,s3⟩;go_simp;with_reducible rfl);refine tS 8 13 HT_ HW_ hHeld ?_ (hy:=by rintro w' ⟨s0,s1,s2,s3⟩;go_simp;with_reducible rfl);refine tS 10 15 HT_ HW_ hHeld ?_ (hy:=by rintro w' ⟨s0,s1,s2,s3⟩;go_simp;with_reducible rfl)
 refine oS 2 (some 7) HT_ (fun K hK=>?_)
 refine gS Try.func34 #[.string a0_0] ?_
 with_reducible refine (htree_sum.calls k a0_0 t182 _ A3.out).mono ?_
 rintro e w11 ⟨rfl,hb⟩
 refine ⟨_,rfl,?_⟩
 have n0_:=am (blk_below (g:=gb180) (o:=.cells #[.string a0_0,.int .i64 a0_1] 30 (0,0)) (rK BK180) hb)
 have n1_:=am (blk_below (g:=gb181) (o:=.cells #[.string a1_0,.int .i64 a1_1] 30 (0,0)) (rK BK181) hb)
 have n2_:=am (below_step (by repeat (first|(with_reducible first|exact HB.out|apply below_alloc|apply pw_below_drewN|apply below_drew1|refine below_set ?_ GE180.out|refine below_set ?_ GE181.out)|exact HB.out)) hb)
 clear BK180;clear BK181;clear HB;have BK180:=n0_;have BK181:=n1_;have HB:=n2_;clear n0_ n1_ n2_
 (try clear hb)
 (try clear hb2)
 (try clear hk)
 (try clear hi)
 refine hK.out _ _ ⟨kC BK180 0,kC BK180 1,kC BK181 0,kC BK181 1⟩ (fun hHeld=>?_)
 clear hK K;refine norm_ (a':=?_) ?_ ?_;rotate_left
 ·show Act.put _ (some 7) _=_
  simp only [Act.put,sIb,sC0,sCs,i64_w,i32_w];rfl
 refine oS 5 (some 10) HT_ (fun K hK=>?_)
 refine gS Try.func34 #[.string a1_0] ?_
 with_reducible refine (htree_sum.calls k a1_0 t183 _ A4.out).mono ?_
 rintro e w12 ⟨rfl,hb⟩
 refine ⟨_,rfl,?_⟩
 have n0_:=am (blk_below (g:=gb180) (o:=.cells #[.string a0_0,.int .i64 a0_1] 30 (0,0)) (rK BK180) hb)
 have n1_:=am (blk_below (g:=gb181) (o:=.cells #[.string a1_0,.int .i64 a1_1] 30 (0,0)) (rK BK181) hb)
 have n2_:=am (below_step (by repeat (first|(with_reducible first|exact HB.out|apply below_alloc|apply pw_below_drewN|apply below_drew1|refine below_set ?_ GE180.out|refine below_set ?_ GE181.out)|exact HB.out)) hb)
 clear BK180;clear BK181;clear HB;have BK180:=n0_;have BK181:=n1_;have HB:=n2_;clear n0_ n1_ n2_
 (try clear hb)
 (try clear hb2)
 (try clear hk)
 (try clear hi)
 refine hK.out _ _ ⟨kC BK180 0,kC BK180 1,kC BK181 0,kC BK181 1⟩ (fun hHeld=>?_)
 clear hK K;refine norm_ (a':=?_) ?_ ?_;rotate_left
 ·show Act.put _ (some 10) _=_
  simp only [Act.put,sIb,sC0,sCs,i64_w,i32_w];rfl
 refine oS 6 (some 11) HT_ (fun K hK=>?_)
 refine gS Try.func41 #[.int .u32 t182,.int .u32 t183] ?_
 with_reducible refine (cmp_Compare_uint32.calls t182 t183 t184 _ A5.out).mono ?_
 rintro e w' ⟨rfl,⟨nd,rfl⟩⟩
 refine ⟨_,rfl,?_⟩
 refine hK.out _ _ ⟨kC BK180 0,kC BK180 1,kC BK181 0,kC BK181 1⟩ (fun hHeld=>?_)
 clear hK K;refine norm_ (a':=?_) ?_ ?_;rotate_left
 ·show Act.put _ (some 11) _=_
  simp only [Act.put,sIb,sC0,sCs,i64_w,i32_w];rfl
 refine oS 11 (some 16) HT_ (fun K hK=>?_)
 refine gS Try.func42 #[.string a0_0,.string a1_0] ?_
 with_reducible refine (strings_Compare.calls a0_0 a1_0 t185 _ A6.out).mono ?_
 rintro e w' ⟨rfl,⟨nd,rfl⟩⟩
 refine ⟨_,rfl,?_⟩
 refine hK.out _ _ ⟨kC BK180 0,kC BK180 1,kC BK181 0,kC BK181 1⟩ (fun hHeld=>?_)
 clear hK K;refine norm_ (a':=?_) ?_ ?_;rotate_left
 ·show Act.put _ (some 16) _=_
  simp only [Act.put,sIb,sC0,sCs,i64_w,i32_w];rfl
 refine oS 12 (some 17) HT_ (fun K hK=>?_)
 refine Kd.R_lit_step (Kd.int .i64) _ 3 ?hg (N:=17) ?hd (xs:=([t184,t185]:List Int)) (inner:=[.int .i64 t184,.int .i64 t185]) (ok:=fun _=>True) (okp:=fun _=>True) ?hr ?hp (fun _ hk=>hk) trivial (Below.refl _ _) (Nat.le_refl _) (by simp) ?_;(case hd=>rfl);(case hg=>rfl);(case hr=>first|(go_simp;done)|(go_simp;rfl));(case hp=>exact (Reps.one (show Kd.M (Kd.int .i64) _ _ _ t184 [.int .i64 t184] from rfl) (Reps.one (show Kd.M (Kd.int .i64) _ _ _ t185 [.int .i64 t185] from rfl) (Reps.none _ _))))
 intro v187 w13 ho14 hb hg_ hnew_
 clear hg_ hnew_
 (first|rw [← Ny186.out] at ho14|(simp only [Int.reduceToNat] at ho14;rw [← Ny186.out] at ho14))
 have n0_:=am (Kd.R_lower ho14 (below_size (by repeat (first|(with_reducible first|exact HB.out|apply below_alloc|apply pw_below_drewN|apply below_drew1|refine below_set ?_ GE180.out|refine below_set ?_ GE181.out)|exact HB.out))))
 have n1_:=am (blk_below (g:=gb180) (o:=.cells #[.string a0_0,.int .i64 a0_1] 30 (0,0)) (rK BK180) hb)
 have n2_:=am (blk_below (g:=gb181) (o:=.cells #[.string a1_0,.int .i64 a1_1] 30 (0,0)) (rK BK181) hb)
 have n3_:=am (below_step (by repeat (first|(with_reducible first|exact HB.out|apply below_alloc|apply pw_below_drewN|apply below_drew1|refine below_set ?_ GE180.out|refine below_set ?_ GE181.out)|exact HB.out)) hb)
 clear BK180;clear BK181;clear HB;have HO188:=n0_;have BK180:=n1_;have BK181:=n2_;have HB:=n3_;clear n0_ n1_ n2_ n3_;clear hb ho14
 obtain ⟨Ao15,co15,eo15⟩:=Kd.R_slice HO188.out
 (first|subst eo15|(injection eo15 with f1_ f2_ f3_;have f4_:=f1_.symm;have f5_:=f3_.symm;clear f1_ f2_ f3_;subst f4_;subst f5_))
 refine hK.out _ _ ⟨kC BK180 0,kC BK180 1,kC BK181 0,kC BK181 1⟩ (fun hHeld=>?_)
 clear hK K;refine norm_ (a':=?_) ?_ ?_;rotate_left
 ·show Act.put _ (some 17) _=_
  simp only [Act.put,sIb,sC0,sCs,i64_w,i32_w];rfl
 refine oS 13 (some 18) HT_ (fun K hK=>?_)
 refine gS Try.func40 #[.slice Ao15 y186.length co15] ?_
 with_reducible refine (cmp_Or_int.calls k _ _ y186 t189 _ ?side1 ?side2 A7.out).mono ?_
 (case side1=>exact cc (Kd.R_reads' HO188.out).2.2)
 (case side2=>exact (Kd.R_reads' HO188.out).2.1)
 rintro e w' ⟨rfl,⟨nd,rfl⟩⟩
 refine ⟨_,rfl,?_⟩
 refine hK.out _ _ ⟨kC BK180 0,kC BK180 1,kC BK181 0,kC BK181 1⟩ (fun hHeld=>?_)
 clear hK K;refine norm_ (a':=?_) ?_ ?_;rotate_left
 ·show Act.put _ (some 18) _=_
  simp only [Act.put,sIb,sC0,sCs,i64_w,i32_w];rfl
 refine pS 14 4 HT_ ?_
 refine done_ (done_of HT_.out (by kernel_rfl)) ?_
 try go_wp2
 go_ret
 exact ⟨by first|rfl|(simp [errW_none,errW_some]<;>rfl)|(simp [*,errW_none,errW_some]<;>rfl),by repeat (first|(with_reducible first|exact HB.out|apply below_alloc|apply pw_below_drewN|apply below_drew1|refine below_set ?_ GE180.out|refine below_set ?_ GE181.out)|exact HB.out)⟩
def bsf_l0:Nat→List S30→ByteArray→Int→Int→Option (Int×Bool)
 | 0,_,_,_,_=>none
 | k+1,l,s,i,j=>if i < j then (if 0≤i∧j≤(l.length:Int) then (if Lib.compareBytes (rd_T30 l ((i+j) / 2)).f0.data.toList s.data.toList < 0 then bsf_l0 k l s ((i+j) / 2+1) j else bsf_l0 k l s i ((i+j) / 2)) else none) else (if 0≤i then (if i < (l.length:Int) then some (i,Lib.compareBytes (rd_T30 l i).f0.data.toList s.data.toList==0) else some (i,false)) else none)
def api_Name_71.f (k:Nat) (l0:List S30) (a1_0:ByteArray) (a1_1:Int):Option (Int×Bool):=if l0.length < 4398046511104 then bsf_l0 k l0 a1_0 0 l0.length else none
set_option maxHeartbeats 8000000 in
set_option maxRecDepth 100000 in
theorem find_cmp (a:ByteArray) (b:Int) (s:ByteArray) (n:Int) (W:World) :
  Calls Try.prog 54 #[.agg #[.string a,.int .i64 b],.agg #[.string s,.int .i64 n]] W fun e w'=>e=.returned (.int .i64 (Lib.compareBytes a.data.toList s.data.toList))∧Below W.heap.size W w':=by
 have hu26:=Try.underlying30
 go_enter Try.func54,Try.ntmps54
 go_wp2_with (go_at_call 42;refine (strings_Compare.calls a s _ _ rfl).mono ?_;rintro e w2 ⟨rfl,⟨m2,rfl⟩⟩)
 go_ret
 exact ⟨rfl,pw_below_drewN (below_alloc (below_alloc (Below.refl _ _) _) _) _⟩
set_option maxHeartbeats 8000000 in
set_option maxRecDepth 100000 in
theorem bsf (k:Nat) (A0:Option Addr) (c0:Nat) (l:List S30) (s:ByteArray) (n:Int) (r1:Int) (r2:Bool) (w:World) (hr0:Kd.C k30 w A0 l.length l) (hc0:l.length≤c0) (hl:l.length < 4398046511104) (h:bsf_l0 k l s 0 l.length=some (r1,r2)) :
  Calls Try.prog 71 #[.slice A0 l.length c0,.agg #[.string s,.int .i64 n],.func (.func 54) #[] #[]] w fun e w'=>e=.returned (.tuple #[.int .i64 r1,.bool r2])∧Below w.heap.size w w':=by
 have HR0:=am hr0
 have HC0:=am hc0
 have HL:=am hl
 have HH:=am h
 have hi26:=info30
 have hu26:=Try.underlying30
 clear hr0 hc0 hl h
 go_enter Try.func71,Try.ntmps71
 go_wp2
 have hbk:=blk_new w (.cells #[.string s,.int .i64 n] 30)
 have hb0:=below_alloc (Below.refl w.heap.size w) (.cells #[.string s,.int .i64 n] 30)
 have HR1:=am (Kd.C_below HR0.out hb0)
 generalize w.alloc (.cells #[.string s,.int .i64 n] 30)=w1 at hbk hb0 HR1 ⊢
 have HBK:=am hbk
 have HB0:=am hb0
 clear hbk hb0
 go_loopg [9,10] k (fun kq v9 v10 w'=>∃ (i j:Int),v9=.int .i64 i∧v10=.int .i64 j∧Aside0 (bsf_l0 kq l s i j=some (r1,r2))∧Aside0 (kq≤k)∧Aside0 (Below w1.heap.size w1 w'))
 case atStart=>exact ⟨0,l.length,rfl,rfl,HH,⟨Nat.le_refl _⟩,⟨Below.refl _ _⟩⟩
 case round =>
  obtain ⟨i,j,rfl,rfl,HQ,HK,HB⟩:=hrel
  cases gk with
  | zero=>exact absurd HQ.out (by intro h_;cases h_)
  | succ g =>
   have hl:=HQ.out
   clear HQ
   simp only [bsf_l0] at hl
   by_cases hij:i < j
   ·rw [if_pos hij] at hl
    have hijb:decide (i < j)=true:=decide_eq_true hij
    by_cases hb:0≤i∧j≤(l.length:Int)
    ·rw [if_pos hb] at hl
     obtain ⟨m,hm⟩:∃ m,(i+j) / 2=m:=⟨_,rfl⟩
     rw [hm] at hl
     have hm0:0≤m:=by omega
     have hml:m < (l.length:Int):=by omega
     have HM:=am (⟨hm0,hml⟩:0≤m∧m < (l.length:Int))
     have hw1:wrap64 (i+j)=i+j:=by have:=HL.out;unfold wrap64;omega
     have hw2:IntKind.u64.wrap (i+j)=i+j:=by have:=HL.out;simp [IntKind.wrap,IntKind.signed,IntKind.bits];omega
     have hw3:wrap64 m=m:=by have:=HL.out;unfold wrap64;omega
     have hw4:wrap64 (m+1)=m+1:=by have:=HL.out;unfold wrap64;omega
     have hdv:(i+j) / 2 ^ (1:Int).toNat=m:=hm
     obtain ⟨ad,ead,hca,hcb⟩:=at_T30 HR1.out m hm0 hml
     cases ead
     replace hca:=(HB.out.cell (World.block_lt_of_cell? w1 _ hca)).trans hca
     replace hcb:=(HB.out.cell (World.block_lt_of_cell? w1 _ hcb)).trans hcb
     have hta:=(blk_cell (blk_below HBK.out HB.out) 0).trans rfl
     have htb:=(blk_cell (blk_below HBK.out HB.out) 1).trans rfl
     obtain ⟨na,hna⟩:∃ na,(rd_T30 l m).f0=na:=⟨_,rfl⟩
     obtain ⟨nv,hnv⟩:∃ nv,(rd_T30 l m).f1=nv:=⟨_,rfl⟩
     rw [hna] at hca hl
     rw [hnv] at hcb
     obtain ⟨cv,hcv⟩:∃ cv,Lib.compareBytes na.data.toList s.data.toList=cv:=⟨_,rfl⟩
     rw [hcv] at hl
     have hmb:=decide_eq_true hml
     have hmb0:=decide_eq_true hm0
     clear hna hnv hb
     by_cases hlt:cv < 0
     ·rw [if_pos hlt] at hl
      have hltb:decide (cv < 0)=true:=decide_eq_true hlt
      have HLL:=am hl
      clear hl hij hlt;go_wp2
      refine start_ (n:=8) (S:=fun w'=>w'.cell? (ad.add (m.toNat*2))=some (.string na)∧w'.cell? ⟨(ad.add (m.toNat*2)).block,(ad.add (m.toNat*2)).off+1,none⟩=some (.int .i64 nv)∧w'.cell? ⟨w.heap.size,0,none⟩=some (.string s)∧w'.cell? ⟨w.heap.size,1,none⟩=some (.int .i64 n)∧Below w1.heap.size w1 w') (ds:=[]) _ (by kernel_rfl) rfl rfl ⟨hca,hcb,hta,htb,below_drew HB.out⟩ (fun hHeld=>?_)
      refine pK 0 24 ?_;refine pK 1 25 ?_;refine pK 2 26 ?_;refine pK 3 27 ?_;refine tK 4 28 hHeld ?_ (hy:=by rintro w' ⟨s0,s1,s2,s3,s4⟩;go_simp;with_reducible rfl);refine tK 5 29 hHeld ?_ (hy:=by rintro w' ⟨s0,s1,s2,s3,s4⟩;go_simp;with_reducible rfl)
      refine oK 6 (some 30) (fun K hK=>?_)
      refine Hl.goesF_ Try.func54 (by kernel_rfl) rfl #[.agg #[.string na,.int .i64 nv],.agg #[.string s,.int .i64 n]] #[] (by rfl) rfl rfl rfl (by simp only [List.map_toArray,List.map_cons,List.map_nil];rfl) ?_
      refine (find_cmp na nv s n _).mono ?_
      rintro e w3 ⟨rfl,hb3⟩
      refine ⟨_,rfl,?_⟩
      refine hK.out _ _ ⟨(hb3.cell (World.block_lt_of_cell? _ _ hHeld.1)).trans hHeld.1,(hb3.cell (World.block_lt_of_cell? _ _ hHeld.2.1)).trans hHeld.2.1,(hb3.cell (World.block_lt_of_cell? _ _ hHeld.2.2.1)).trans hHeld.2.2.1,(hb3.cell (World.block_lt_of_cell? _ _ hHeld.2.2.2.1)).trans hHeld.2.2.2.1,hHeld.2.2.2.2.trans (hb3.mono hHeld.2.2.2.2.size)⟩ (fun hHeld=>?_)
      clear hK K;refine norm_ (a':=?_) ?_ ?_;rotate_left
      ·show Act.put _ (some 30) _=_
       simp only [Act.put,sIb,sC0,sCs,i64_w,i32_w];rfl
      refine pK 7 31 ?_
      refine done_ (by kernel_rfl) ?_
      have HB2:=am hHeld.2.2.2.2
      rw [hcv]
      go_wp2
      go_roundg g
      case measure=>have:=HK.out;omega
      case rel=>exact ⟨m+1,j,by rw [hw4],rfl,HLL,⟨by have:=HK.out;omega⟩,HB2⟩
     ·rw [if_neg hlt] at hl
      have hltb:decide (cv < 0)=false:=decide_eq_false hlt
      have HLL:=am hl
      clear hl hij hlt;go_wp2
      refine start_ (n:=8) (S:=fun w'=>w'.cell? (ad.add (m.toNat*2))=some (.string na)∧w'.cell? ⟨(ad.add (m.toNat*2)).block,(ad.add (m.toNat*2)).off+1,none⟩=some (.int .i64 nv)∧w'.cell? ⟨w.heap.size,0,none⟩=some (.string s)∧w'.cell? ⟨w.heap.size,1,none⟩=some (.int .i64 n)∧Below w1.heap.size w1 w') (ds:=[]) _ (by kernel_rfl) rfl rfl ⟨hca,hcb,hta,htb,below_drew HB.out⟩ (fun hHeld=>?_)
      refine pK 0 24 ?_;refine pK 1 25 ?_;refine pK 2 26 ?_;refine pK 3 27 ?_;refine tK 4 28 hHeld ?_ (hy:=by rintro w' ⟨s0,s1,s2,s3,s4⟩;go_simp;with_reducible rfl);refine tK 5 29 hHeld ?_ (hy:=by rintro w' ⟨s0,s1,s2,s3,s4⟩;go_simp;with_reducible rfl)
      refine oK 6 (some 30) (fun K hK=>?_)
      refine Hl.goesF_ Try.func54 (by kernel_rfl) rfl #[.agg #[.string na,.int .i64 nv],.agg #[.string s,.int .i64 n]] #[] (by rfl) rfl rfl rfl (by simp only [List.map_toArray,List.map_cons,List.map_nil];rfl) ?_
      refine (find_cmp na nv s n _).mono ?_
      rintro e w3 ⟨rfl,hb3⟩
      refine ⟨_,rfl,?_⟩
      refine hK.out _ _ ⟨(hb3.cell (World.block_lt_of_cell? _ _ hHeld.1)).trans hHeld.1,(hb3.cell (World.block_lt_of_cell? _ _ hHeld.2.1)).trans hHeld.2.1,(hb3.cell (World.block_lt_of_cell? _ _ hHeld.2.2.1)).trans hHeld.2.2.1,(hb3.cell (World.block_lt_of_cell? _ _ hHeld.2.2.2.1)).trans hHeld.2.2.2.1,hHeld.2.2.2.2.trans (hb3.mono hHeld.2.2.2.2.size)⟩ (fun hHeld=>?_)
      clear hK K;refine norm_ (a':=?_) ?_ ?_;rotate_left
      ·show Act.put _ (some 30) _=_
       simp only [Act.put,sIb,sC0,sCs,i64_w,i32_w];rfl
      refine pK 7 31 ?_
      refine done_ (by kernel_rfl) ?_
      have HB2:=am hHeld.2.2.2.2
      rw [hcv]
      go_wp2
      go_roundg g
      case measure=>have:=HK.out;omega
      case rel=>exact ⟨i,m,rfl,by rw [hw3],HLL,⟨by have:=HK.out;omega⟩,HB2⟩
    ·rw [if_neg hb] at hl
     cases hl
   ·rw [if_neg hij] at hl
    have hijb:decide (i < j)=false:=decide_eq_false hij
    by_cases hi0:0≤i
    ·rw [if_pos hi0] at hl
     by_cases hil:i < (l.length:Int)
     ·rw [if_pos hil] at hl
      have hilb:decide (i < (l.length:Int))=true:=decide_eq_true hil
      have hi0b:decide (0≤i)=true:=decide_eq_true hi0
      obtain ⟨ad,ead,hca,hcb⟩:=at_T30 HR1.out i hi0 hil
      cases ead
      replace hca:=(HB.out.cell (World.block_lt_of_cell? w1 _ hca)).trans hca
      replace hcb:=(HB.out.cell (World.block_lt_of_cell? w1 _ hcb)).trans hcb
      have hta:=(blk_cell (blk_below HBK.out HB.out) 0).trans rfl
      have htb:=(blk_cell (blk_below HBK.out HB.out) 1).trans rfl
      obtain ⟨na,hna⟩:∃ na,(rd_T30 l i).f0=na:=⟨_,rfl⟩
      obtain ⟨nv,hnv⟩:∃ nv,(rd_T30 l i).f1=nv:=⟨_,rfl⟩
      rw [hna] at hca hl
      rw [hnv] at hcb
      obtain ⟨cv,hcv⟩:∃ cv,Lib.compareBytes na.data.toList s.data.toList=cv:=⟨_,rfl⟩
      rw [hcv] at hl
      obtain ⟨rfl,rfl⟩:=Prod.mk.inj (Option.some.inj hl)
      clear hna hnv hl;go_wp2
      refine start_ (n:=16) (S:=fun w'=>w'.cell? (ad.add (i.toNat*2))=some (.string na)∧w'.cell? ⟨(ad.add (i.toNat*2)).block,(ad.add (i.toNat*2)).off+1,none⟩=some (.int .i64 nv)∧w'.cell? ⟨w.heap.size,0,none⟩=some (.string s)∧w'.cell? ⟨w.heap.size,1,none⟩=some (.int .i64 n)∧Below w1.heap.size w1 w') (ds:=[]) _ (by kernel_rfl) rfl rfl ⟨hca,hcb,hta,htb,below_drew HB.out⟩ (fun hHeld=>?_)
      refine pK 0 35 ?_;refine pK 1 36 ?_;refine pK 2 37 ?_;refine pK 3 38 ?_;refine pK 4 39 ?_;refine pK 5 40 ?_;refine pK 6 41 ?_;refine pK 7 42 ?_;refine pK 8 43 ?_;refine tK 9 44 hHeld ?_ (hy:=by rintro w' ⟨s0,s1,s2,s3,s4⟩;go_simp;with_reducible rfl);refine tK 10 45 hHeld ?_ (hy:=by rintro w' ⟨s0,s1,s2,s3,s4⟩;go_simp;with_reducible rfl)
      refine oK 11 (some 46) (fun K hK=>?_)
      refine Hl.goesF_ Try.func54 (by kernel_rfl) rfl #[.agg #[.string na,.int .i64 nv],.agg #[.string s,.int .i64 n]] #[] (by rfl) rfl rfl rfl (by simp only [List.map_toArray,List.map_cons,List.map_nil];rfl) ?_
      refine (find_cmp na nv s n _).mono ?_
      rintro e w3 ⟨rfl,hb3⟩
      refine ⟨_,rfl,?_⟩
      refine hK.out _ _ ⟨(hb3.cell (World.block_lt_of_cell? _ _ hHeld.1)).trans hHeld.1,(hb3.cell (World.block_lt_of_cell? _ _ hHeld.2.1)).trans hHeld.2.1,(hb3.cell (World.block_lt_of_cell? _ _ hHeld.2.2.1)).trans hHeld.2.2.1,(hb3.cell (World.block_lt_of_cell? _ _ hHeld.2.2.2.1)).trans hHeld.2.2.2.1,hHeld.2.2.2.2.trans (hb3.mono hHeld.2.2.2.2.size)⟩ (fun hHeld=>?_)
      clear hK K;refine norm_ (a':=?_) ?_ ?_;rotate_left
      ·show Act.put _ (some 46) _=_
       simp only [Act.put,sIb,sC0,sCs,i64_w,i32_w];rfl
      refine pK 12 47 ?_;refine pK 13 48 ?_;refine pK 14 6 ?_;refine pK 15 7 ?_
      refine done_ (by kernel_rfl) ?_
      have HB2:=am (HB0.out.trans (hHeld.2.2.2.2.mono HB0.out.size))
      go_wp2
      go_ret2
      exact ⟨rfl,HB2.out⟩
     ·rw [if_neg hil] at hl
      have hilb:decide (i < (l.length:Int))=false:=decide_eq_false hil
      obtain ⟨rfl,rfl⟩:=Prod.mk.inj (Option.some.inj hl)
      clear hl;go_wp2
      refine start_ (n:=16) (S:=fun w'=>Below w1.heap.size w1 w') (ds:=[]) _ (by kernel_rfl) rfl rfl (below_drew HB.out) (fun hHeld=>?_)
      refine pK 0 35 ?_;refine pK 1 36 ?_;refine pK 2 37 ?_;refine pK 3 38 ?_;refine pK 4 39 ?_;refine uK 5 40 ?_;refine uK 6 41 ?_;refine uK 7 42 ?_;refine uK 8 43 ?_;refine uK 9 44 ?_;refine uK 10 45 ?_;refine uK 11 46 ?_;refine uK 12 47 ?_;refine pK 13 48 ?_;refine pK 14 6 ?_;refine pK 15 7 ?_
      refine done_ (by kernel_rfl) ?_
      have HB2:=am (HB0.out.trans (hHeld.mono HB0.out.size))
      go_wp2
      go_ret2
      exact ⟨rfl,HB2.out⟩
    ·rw [if_neg hi0] at hl
     cases hl
set_option maxHeartbeats 8000000 in
set_option maxRecDepth 100000 in
theorem api_Name_71.calls (k:Nat) (A0:Option Addr) (c0:Nat) (l0:List (S30)) (a1_0:ByteArray) (a1_1:Int) (r1:Int) (r2:Bool) (w:World) (hr0:Kd.C k30 w A0 l0.length l0) (hc0:l0.length≤c0) (h:api_Name_71.f k l0 a1_0 a1_1=some (r1,r2)) :
  Calls Try.prog 71 #[.slice A0 l0.length c0,.agg #[.string a1_0,.int .i64 a1_1],.func (.func 54) #[] #[]] w fun e w'=>e=.returned (.tuple #[.int .i64 r1,.bool r2])∧Below w.heap.size w w':=by
 unfold api_Name_71.f at h
 by_cases hl:l0.length < 4398046511104
 ·rw [if_pos hl] at h
  exact bsf k A0 c0 l0 a1_0 a1_1 r1 r2 w hr0 hc0 hl h
 ·rw [if_neg hl] at h;cases h
def htree_place.f (k:Nat) (l0:List (S30)) (a1:ByteArray):Option (Int×Bool):=(api_Name_71.f k l0 a1 0).bind fun bt159=>(some (bt159.1,bt159.2))
set_option maxHeartbeats 8000000 in
set_option maxRecDepth 100000 in
theorem htree_place.calls (k:Nat) (A0:Option Addr) (c0:Nat) (l0:List (S30)) (a1:ByteArray) (r1:Int) (r2:Bool) (w:World) (hr0:Kd.C k30 w A0 l0.length l0) (hc0:l0.length≤c0) (h:htree_place.f k l0 a1=some (r1,r2)) :
  Calls Try.prog 49 #[.slice A0 l0.length c0,.string a1] w fun e w'=>e=.returned (.tuple #[.int .i64 r1,.bool r2])∧Below w.heap.size w w':=by
 have hu30:=Try.underlying30
 have HR0:=am hr0
 have HC0:=am hc0
 clear hr0 hc0
 have HB:=am (Below.refl w.heap.size w)
 have H:((api_Name_71.f k l0 a1 0).bind fun bt159=>(some (bt159.1,bt159.2)))=some (r1,r2):=h
 clear h
 replace H:=Option.bind_eq_some_iff.mp H
 obtain ⟨⟨t159,t160⟩,A30,H⟩:=H
 replace H:(some (t159,t160))=some (r1,r2):=H
 have A3:=am A30
 clear A30
 simp only [Option.some.injEq,Prod.mk.injEq] at H
 obtain ⟨rfl,rfl⟩:=H
 go_enter Try.func49,Try.ntmps49
 go_wp2_with (first|((with_reducible refine gate_callee (f:=71) rfl ?_);refine goesL_ (some 9) rfl rfl Try.func71 (by kernel_rfl) rfl #[.slice A0 l0.length c0,.agg #[.string a1,.int .i64 0],.func (.func 54) #[] #[]] rfl (by (try simp only [List.map_toArray,List.map_cons,List.map_nil]);first|done|rfl|(simp only [List.length_drop,List.length_take];rfl)) ?_;(with_reducible refine (api_Name_71.calls k _ _ l0 a1 0 t159 t160 _ ?side1 ?side2 A3.out).mono ?_);(case side1=>exact cc HR0.out);(case side2=>exact HC0.out);rintro e w4 ⟨rfl,hb⟩;refine ⟨_,rfl,?_⟩;have n0_:=bst HB hb;clear HB;have HB:=n0_;clear n0_;(try clear hb);(try clear hb2);(try clear hk);(try clear hi)))
 go_ret2
 exact ⟨by first|rfl|(simp [errW_none,errW_some]<;>rfl)|(simp [*,errW_none,errW_some]<;>rfl),bb HB⟩
def bytes_Clone.f (l0:List Int):Option (List Int):=if l0.length≤140737488355328 then some l0 else none
set_option maxHeartbeats 8000000 in
set_option maxRecDepth 100000 in
theorem bytes_Clone.calls (A0:Option Addr) (c0:Nat) (l0:List Int) (r:List Int) (w:World) (hr0:Kd.C (Kd.int .u8) w A0 l0.length l0) (hc0:l0.length≤c0) (h:bytes_Clone.f l0=some r) :
  Calls Try.prog 73 #[.slice A0 l0.length c0] w fun e w'=>∃ v0_:Value,e=.returned (v0_)∧Kd.R (Kd.int .u8) 5 w' w.heap.size (fun _=>True) v0_ r∧Below w.heap.size w w':=by
 unfold bytes_Clone.f at h
 by_cases hl:l0.length≤140737488355328
 ·rw [if_pos hl] at h
  obtain rfl:=Option.some.inj h
  cases A0 with
  | none =>
   obtain rfl:l0=[]:=by
    rcases Nat.eq_zero_or_pos l0.length with h0|h0
    ·exact List.eq_nil_of_length_eq_zero h0
    ·obtain ⟨ad,e,_⟩:=hr0.2.2 h0
     cases e
   exact (Try.bytes_Clone_nil 0 c0 w).mono (fun e w' ⟨he,hw⟩=>by subst hw;exact ⟨_,he,Kd.R_nil _ _ _ _ _,Below.refl _ _⟩)
  | some ad =>
   have hrd:=Kd.reads_of_C (enc:=Value.int .u8) (h1:=fun _=>rfl) (d:=(0:Int)) hr0
   refine (Try.bytes_Clone_at ad l0.length c0 l0 w rfl hl (fun i hi=>?_)).mono (fun e w' ⟨v',he,ho,_,hb⟩=>⟨v',he,Kd.R_of_own (h1:=fun _=>rfl) ho (fun _ _=>trivial),hb⟩)
   obtain ⟨ad',e,hc⟩:=hrd.2.2 (by omega)
   cases e
   exact hc i hi
 ·rw [if_neg hl] at h
  cases h
def htree_copied.l0:Nat→List (List Int)→List (List Int)→Int→Int→Option ((List (List Int)))
 | 0,_,_,_,_=>none
 | k+1,x0,x3,x9,x10=>if x10 < x9 then (if 0≤x10 then (if x10 < (x0.length:Int) then ((bytes_Clone.f (rd_L7 x0 x10)).bind fun t173=>(if x10 < (x3.length:Int) then (htree_copied.l0 k x0 (x3.set (x10:Int).toNat t173) x9 (wrap64 (x10+1))) else (none))) else (none)) else (none)) else (some x3)
def htree_copied.f (k:Nat) (l0:List (List Int)):Option ((List (List Int))):=if 0≤(l0.length:Int) then (if ((l0.length:Int):Int).toNat≤11728124029610 then (htree_copied.l0 k l0 (List.replicate ((l0.length:Int):Int).toNat []) (l0.length:Int) 0) else (none)) else (none)
set_option maxHeartbeats 8000000 in
set_option maxRecDepth 100000 in
theorem htree_copied.calls (k:Nat) (A0:Option Addr) (c0:Nat) (l0:List (List Int)) (r:List (List Int)) (w:World) (hr0:Kd.C (Kd.slice 5 (Kd.int .u8)) w A0 l0.length l0) (hc0:l0.length≤c0) (h:htree_copied.f k l0=some r) :
  Calls Try.prog 52 #[.slice A0 l0.length c0] w fun e w'=>∃ v0_:Value,e=.returned (v0_)∧Kd.S (Kd.slice 5 (Kd.int .u8)) 66 w' w.heap.size (fun _=>True) v0_ r∧Below w.heap.size w w':=by
 have HR0:=am hr0
 have HC0:=am hc0
 clear hr0 hc0
 have HB:=am (Below.refl w.heap.size w)
 have H:(if 0≤(l0.length:Int) then (if ((l0.length:Int):Int).toNat≤11728124029610 then (htree_copied.l0 k l0 (List.replicate ((l0.length:Int):Int).toNat []) (l0.length:Int) 0) else (none)) else (none))=some r:=h
 clear h
 by_cases c2:0≤(l0.length:Int)
 ·rw [if_pos c2] at H
  have c2b0:=eq_true c2
  have c2b1:decide (0≤(l0.length:Int))=true:=decide_eq_true c2
  clear c2
  by_cases c3:((l0.length:Int):Int).toNat≤11728124029610
  ·rw [if_pos c3] at H
   have c3b0:=eq_true c3
   have c3b1:decide (((l0.length:Int):Int).toNat≤11728124029610)=true:=decide_eq_true c3
   clear c3
   obtain ⟨y169,hy169⟩:∃ y_:List (List Int),y_=(List.replicate ((l0.length:Int):Int).toNat []):=⟨_,rfl⟩
   replace H:(htree_copied.l0 k l0 y169 (l0.length:Int) 0)=some r:=by first|(rw [hy169];with_reducible exact H)|(have H2_:=(Option.bind_some _ _).symm.trans H;rw [hy169];with_reducible exact H2_)|(have H2_:=(Option.bind_some _ _).symm.trans H;with_reducible exact H2_)|with_reducible exact H|(rw [hy169];exact H)|exact H
   have Ny169:=am hy169
   clear hy169
   have H':=am H
   clear H
   go_enter Try.func52,Try.ntmps52
   go_wp2_with (first|((with_reducible refine gate_dst (N:=7) rfl ?_);refine Kd.S_make (Kd.slice 5 (Kd.int .u8)) _ 66 rfl (N:=7) rfl 22 _ _ rfl (l0.length:Int) rfl rfl Try.underlying22 (.slice none 0 0) 24 info66 rfl (by decide) (by omega) [] (ok:=fun _=>True) (okp:=fun _=>True) ⟨_,rfl,Kd.R_nil _ _ _ _ _⟩ (fun _ hk=>hk) trivial (od) (Nat.le_trans (Nat.mul_le_mul_right _ (od:(l0.length:Int).toNat≤11728124029610)) (by omega)) (Below.refl _ _) (Nat.le_refl _) ?_;intro v170 w4 ho5 hb hg_ hnew_;clear hg_ hnew_;(first|rw [← Ny169.out] at ho5|(simp only [Int.reduceToNat] at ho5;rw [← Ny169.out] at ho5));have n0_:=am (Kd.S_lower ho5 (bz HB));have n1_:=bst HB hb;clear HB;have HO171:=n0_;have HB:=n1_;clear n0_ n1_;clear hb ho5))
   go_loopg [10] k (fun kq v10 w'=>∃ (x3_1:List (List Int)) (x10_1:Int),v10=.int .i64 x10_1∧Aside0 (htree_copied.l0 kq l0 x3_1 (l0.length:Int) x10_1=some r)∧Aside0 (kq≤k)∧Aside0 (Kd.S (Kd.slice 5 (Kd.int .u8)) 66 w' w.heap.size (fun _=>True) v170 x3_1)∧Aside0 (Below w.heap.size w w'))
   case atStart=>exact ⟨(y169),(0),(by first|rfl|(simp;done)|(simp [*];done)),H',⟨Nat.le_refl _⟩,⟨by (with_reducible repeat (first|apply Kd.S_alloc|apply Kd.S_drewN|apply Kd.S_drew));exact HO171.out⟩,⟨bb HB⟩⟩
   case round =>
    clear H'
    try clear c2
    try clear c2b0
    try clear c2b1
    try clear p2
    try clear c3
    try clear c3b0
    try clear c3b1
    try clear c5
    obtain ⟨x3_1,x10_1,rfl,HA,HK1,HO_3,HB⟩:=hrel
    cases gk with
    | zero=>exact absurd HA.out (by intro h_;cases h_)
    | succ k1 =>
     have H:=HA.out
     clear HA
     simp only [htree_copied.l0] at H
     by_cases c6:x10_1 < (l0.length:Int)
     ·rw [if_pos c6] at H
      have c6b0:decide (x10_1 < (l0.length:Int))=true:=decide_eq_true c6
      clear c6
      by_cases c7:0≤x10_1
      ·rw [if_pos c7] at H
       have c7b0:decide (0≤x10_1)=true:=decide_eq_true c7
       clear c7
       by_cases c8:x10_1 < (l0.length:Int)
       ·rw [if_pos c8] at H
        have c8b0:decide (x10_1 < (l0.length:Int))=true:=decide_eq_true c8
        clear c8
        replace H:=Option.bind_eq_some_iff.mp H
        obtain ⟨t173,A90,H⟩:=H
        replace H:(if x10_1 < (x3_1.length:Int) then (htree_copied.l0 k1 l0 (x3_1.set (x10_1:Int).toNat t173) (l0.length:Int) (wrap64 (x10_1+1))) else (none))=some r:=H
        have A9:=am A90
        clear A90
        by_cases c10:x10_1 < (x3_1.length:Int)
        ·rw [if_pos c10] at H
         have c10b0:decide (x10_1 < (x3_1.length:Int))=true:=decide_eq_true c10
         clear c10
         obtain ⟨y176,hy176⟩:∃ y_:List (List Int),y_=(x3_1.set (x10_1:Int).toNat t173):=⟨_,rfl⟩
         replace H:(htree_copied.l0 k1 l0 y176 (l0.length:Int) (wrap64 (x10_1+1)))=some r:=by first|(rw [hy176];with_reducible exact H)|(have H2_:=(Option.bind_some _ _).symm.trans H;rw [hy176];with_reducible exact H2_)|(have H2_:=(Option.bind_some _ _).symm.trans H;with_reducible exact H2_)|with_reducible exact H|(rw [hy176];exact H)|exact H
         have Ny176:=am hy176
         clear hy176
         have H':=am H
         clear H
         have p172:0≤(x10_1:Int):=od
         have q172:x10_1 < (l0.length:Int):=od
         obtain ⟨ad172,A172_0,c172_0,e172,hx172_0,hl172_0,hi172_0⟩:=at_L7 HR0.out x10_1 p172 q172
         cases e172
         replace hx172_0:=hB HB hx172_0
         have HR172_0:=am hi172_0
         have HC172_0:=am hl172_0
         clear hi172_0 hl172_0;replace p172:=eq_true p172;replace q172:=eq_true q172
         go_wp2_with (first|((with_reducible refine gate_callee (f:=73) rfl ?_);refine goesL_ (some 19) rfl rfl Try.func73 (by kernel_rfl) rfl #[.slice A172_0 (rd_L7 l0 x10_1).length c172_0] rfl (by (try simp only [List.map_toArray,List.map_cons,List.map_nil]);first|done|rfl|(simp only [List.length_drop,List.length_take];rfl)) ?_;(with_reducible refine (bytes_Clone.calls _ _ (rd_L7 l0 x10_1) t173 _ ?side1 ?side2 A9.out).mono ?_);(case side1=>exact cc (Kd.C_below HR172_0.out HB.out));(case side2=>exact HC172_0.out);rintro e w12 ⟨v174,rfl,ho0,hb⟩;refine ⟨_,rfl,?_⟩;have n0_:=am (Kd.S_elder' (rS HO_3) (Kd.R_base ho0) hb);have n1_:=am (Kd.R_lower ho0 (bz HB));have n2_:=bst HB hb;clear HO_3;clear HB;have HO_3:=n0_;have HO175:=n1_;have HB:=n2_;clear n0_ n1_ n2_;(try clear hb);(try clear hb2);(try clear hk);(try clear hi);(try clear ho0);have p11:0≤(x10_1:Int):=od;have q11:(x10_1:Int) < ((x3_1.length:Int):Int):=od;obtain ⟨go11,co11,eo11,gb11,gl11,cl11,HG11⟩:=Kd.S_form HO_3.out (by omega);(first|cases eo11|(injection eo11 with ea_ en_ ec_;(first|subst ea_|(injection ea_ with ea_;subst ea_));subst ec_;clear en_));have GB11:=am gb11;have GG11:=am HG11;clear gb11 gl11 HG11;obtain ⟨_,ce11,hcl11,hM11,hcc11,hfr11,_,_⟩:=Kd.S_elem HO_3.out [] (x10_1:Int) p11 q11;obtain ⟨ve11_0,rfl,ge11_0⟩:=hM11;have hx11_0:=hcc11 0 _ rfl;have hf11_0:=hfr11 0;(try simp only [show ((Kd.slice 5 (Kd.int .u8))).sz=1 from rfl,Nat.mul_one,Nat.add_zero] at hx11_0);(try simp only [show ((Kd.slice 5 (Kd.int .u8))).sz=1 from rfl,Nat.mul_one,Nat.add_zero] at hf11_0);clear hcl11 hcc11 hfr11;(try clear hM11);replace p11:=eq_true p11;replace q11:=eq_true q11;have n_:=am (Kd.S_mono (ok':=(fun k_=>some k_≠(v174:Value).ownBlock)) HO_3.out (fun k_ hk=>hk.2));clear HO_3;have HO_3:=n_;clear n_;have HX13:=am (show Kd.S (Kd.slice 5 (Kd.int .u8)) 66 w12 w.heap.size (fun k_=>((fun _=>True)) k_∧¬ ((fun k_=>some k_=(v174:Value).ownBlock)) k_) (.slice (some ⟨go11,0,none⟩) x3_1.length co11) x3_1 from (by (with_reducible repeat (first|apply Kd.S_alloc|apply Kd.S_drewN|apply Kd.S_drew));exact Kd.S_mono HO_3.out (fun k_ hk=>⟨trivial,fun e_=>hk e_⟩)));obtain ⟨oki13,ce13,hcl13,hM13,hcc13,hfr13,hoki13,hH13⟩:=Kd.S_elem HX13.out [] (x10_1:Int) (od) (by have h_:(x10_1:Int) < ((x3_1.length:Int):Int):=od;first|exact h_|(have e_:=(Kd.S_reads' HO_3.out).1;omega)|simpa using h_);obtain ⟨ve13_0,rfl,ge13_0⟩:=hM13;have HP13:=Kd.S_seg hH13 (od) (by have h_:(x10_1:Int) < ((x3_1.length:Int):Int):=od;first|exact h_|(have e_:=(Kd.S_reads' HO_3.out).1;omega)|simpa using h_) (seg:=[v174]) (j:=0) (show 1≤1 from by decide) (x':=t173) (Kd.M_row (Kd.R_mono (Kd.R_tight rfl (Kd.R_mono (ok':=fun k_=>((fun _=>True)) k_∧k_≠go11) (Kd.R_apart' (HO175.out) (Kd.S_typed HO_3.out) (by decide)) (fun k_ hk=>⟨trivial,fun e_=>(hk.2) (by rw [e_];rfl)⟩))) (fun _ h_=>Or.inr (h_)))) (fun _ hk=>hk) (fun k_ hk_=>((Kd.R_mono (ok':=fun k_=>((fun _=>True)) k_∧k_≠go11) (Kd.R_apart' (HO175.out) (Kd.S_typed HO_3.out) (by decide)) (fun k_ hk=>⟨trivial,fun e_=>(hk.2) (by rw [e_];rfl)⟩))).1 k_ hk_.symm);have hx13_0:=hcc13 0 _ rfl;(try simp only [show ((Kd.slice 5 (Kd.int .u8))).sz=1 from rfl,Nat.mul_one,Nat.add_zero] at hx13_0);have hf13_0:=hfr13 0;(try simp only [show ((Kd.slice 5 (Kd.int .u8))).sz=1 from rfl,Nat.mul_one,Nat.add_zero] at hf13_0);clear hcl13 hcc13 hfr13 hoki13 hH13;(try clear hM13);(try simp only [show ((Kd.slice 5 (Kd.int .u8))).sz=1 from rfl,Nat.mul_one,Nat.add_zero] at HP13))|((with_reducible refine gate_store (t:=66) (p:=20) rfl ?_);refine store_event (t:=66) (p:=20) (v:=?vo_w14) (w1:=(w12.setCell ⟨go11,(x10_1:Int).toNat,none⟩ (v174))) ?hg ?ho ?hn ?hr ?_;(case ho=>rfl);(case hg=>rfl);(case hn=>rfl);(case hr=>first|(go_simp;done)|(go_simp;rfl)|(obtain ⟨A_,c_,e_,_⟩:=Kd.R_reads HO175.out;rw [e_];first|(go_simp;done)|(go_simp;rfl)));intro w14 hw;have hg:w12.grownBy w14 (some go11):=(by rw [hw];exact HP13.2);have hp_:Kd.S (Kd.slice 5 (Kd.int .u8)) 66 w14 w.heap.size (fun _=>True) (.slice (some ⟨go11,0,none⟩) x3_1.length co11) y176:=(by rw [hw,Ny176.out];exact HP13.1);clear HP13;have n0_:=am (hp_);have n1_:=am ((by rw [hw];exact below_set (HB.out) GB11.out:Below w.heap.size w w14));clear HO_3;clear HB;clear HO175;have HO_3:=n0_;have HB:=n1_;clear n0_ n1_;clear hg hw hp_))
         go_roundg k1
         case measure=>have:=HK1.out;omega
         case rel=>exact ⟨(y176),(wrap64 (x10_1+1)),(by first|rfl|(simp;done)|(simp [*];done)),H',⟨by have:=HK1.out;omega⟩,⟨by (with_reducible repeat (first|apply Kd.S_alloc|apply Kd.S_drewN|apply Kd.S_drew));exact HO_3.out⟩,⟨bb HB⟩⟩
        ·rw [if_neg c10] at H
         exact absurd H (by simp)
       ·rw [if_neg c8] at H
        exact absurd H (by simp)
      ·rw [if_neg c7] at H
       exact absurd H (by simp)
     ·rw [if_neg c6] at H
      have c6b0:decide (x10_1 < (l0.length:Int))=false:=decide_eq_false c6
      clear c6;obtain rfl:=Option.some.inj H;go_wp2;go_ret
      exact ⟨_,by first|rfl|(simp [errW_none,errW_some]<;>rfl)|(simp [*,errW_none,errW_some]<;>rfl),by (with_reducible repeat (first|apply Kd.S_alloc|apply Kd.S_drewN|apply Kd.S_drew));exact HO_3.out,bb HB⟩
  ·rw [if_neg c3] at H
   exact absurd H (by simp)
 ·rw [if_neg c2] at H
  exact absurd H (by simp)
end Go.Proofs.Yteglhbfhibfodaa.Pr
end
section
namespace Go.Proofs.Yteglhbfhibfodaa.Ht
open Go.RowKit Go.Proofs.YteglhbfhibfodaaW.PrintWords Go.Proofs.YteglhbfhibfodaaW.PrintMore Go.Proofs.Yteglhbfhibfodaa.Pr Go.Proofs.Yteglhbfhibfodaa.Od Go.Proofs.Yteglhbfhibfodaa.Cr Go.Proofs.Yteglhbfhibfodaa.Lf
set_option linter.unusedVariables false
set_option linter.unusedSimpArgs false
theorem sum_ev (s : ByteArray) (h : s.size < 512) : Ev (fun k => htree_sum.f k s) (sumN s) := by
  unfold htree_sum.f sumN
  simp only [if_pos (show s.size ≤ 140737488351232 by omega)]
  exact crc_sum_ev (bytesOf s) (by rw [bytesOf_length]; exact h)
def ordI (a b : ByteArray) : Int := if sumN a < sumN b then -1 else if sumN b < sumN a then 1 else Lib.compareBytes a.data.toList b.data.toList
theorem or_two (x y : Int) : Ev (fun k => cmp_Or_int.f k [x, y]) (if x = 0 then y else x) := by
  unfold cmp_Or_int.f
  refine Ev.succ ?_
  by_cases hx : x = 0
  · subst hx
    refine Ev.congr (f := fun k => cmp_Or_int.l0 k 0 [0, y] 2 1) (fun k => by rw [cmp_Or_int.l0]; simp [rd, wrap64]) ?_
    refine Ev.succ ?_
    by_cases hy : y = 0
    · subst hy
      refine Ev.congr (f := fun k => cmp_Or_int.l0 k 0 [0, 0] 2 2) (fun k => by rw [cmp_Or_int.l0]; simp [rd, wrap64]) ?_
      refine Ev.succ ?_
      exact Ev.congr (f := fun _ => some 0) (fun k => by rw [cmp_Or_int.l0]; simp) (Ev.now _)
    · exact Ev.congr (f := fun _ => some y) (fun k => by rw [cmp_Or_int.l0]; simp [rd, hy]) (Ev.now _)
  · rw [if_neg hx]
    exact Ev.congr (f := fun _ => some x) (fun k => by rw [cmp_Or_int.l0]; simp [rd, hx]) (Ev.now _)
theorem cmp_u32 (x y : Int) : cmp_Compare_uint32.f x y = some (if x < y then -1 else if y < x then 1 else 0) := by
  have h : ∀ z : Int, cmp_isNaN_uint32.f z = some false := fun z => by simp [cmp_isNaN_uint32.f]
  unfold cmp_Compare_uint32.f
  rw [h, h]
  simp only [Option.bind_some, Bool.false_eq_true, if_false, gt_iff_lt]
  split
  · rfl
  · split <;> rfl
theorem ord_ev (a b : ByteArray) (m n : Int) (ha : a.size < 512) (hb : b.size < 512) : Ev (fun k => htree_inOrder.f k a m b n) (ordI a b) := by
  unfold htree_inOrder.f
  refine Ev.bind (sum_ev a ha) ?_
  refine Ev.bind (sum_ev b hb) ?_
  simp only [cmp_u32, strings_Compare.f, Option.bind_some]
  refine Ev.bind (or_two _ _) ?_
  have : (if (if sumN a < sumN b then (-1 : Int) else if sumN b < sumN a then 1 else 0) = 0 then Lib.compareBytes a.data.toList b.data.toList else (if sumN a < sumN b then (-1 : Int) else if sumN b < sumN a then 1 else 0)) = ordI a b := by
    unfold ordI
    by_cases h1 : sumN a < sumN b
    · simp [h1]
    · by_cases h2 : sumN b < sumN a
      · simp [h1, h2]
      · simp [h1, h2]
  rw [this]
  exact Ev.now _
theorem ordI_neg (a b : E) : ordI a.f0 b.f0 < 0 ↔ ltE a b = true := by
  unfold ordI ltE
  by_cases h1 : sumN a.f0 < sumN b.f0
  · simp [h1]
  · by_cases h2 : sumN b.f0 < sumN a.f0
    · simp [h1, h2]; omega
    · have h3 : sumN a.f0 = sumN b.f0 := by omega
      simp [h1, h2, h3, compare_neg]
theorem ltE_irrefl (x : E) : ltE x x = false := by simp [ltE, less_irrefl]
theorem ltE_trans (x y z : E) (h1 : ltE x y = true) (h2 : ltE y z = true) : ltE x z = true := by
  simp only [ltE, Bool.or_eq_true, Bool.and_eq_true, decide_eq_true_eq] at *
  rcases h1 with h1 | ⟨h1, h3⟩
  · rcases h2 with h2 | ⟨h2, h4⟩ <;> exact .inl (by omega)
  · rcases h2 with h2 | ⟨h2, h4⟩
    · exact .inl (by omega)
    · exact .inr ⟨by omega, less_trans h3 h4⟩
theorem ltN_irrefl (x : E) : ltN x x = false := less_irrefl _
theorem ltN_trans (x y z : E) (h1 : ltN x y = true) (h2 : ltN y z = true) : ltN x z = true := less_trans h1 h2
theorem ltE_or {x y : E} (h : nb x ≠ nb y) : ltE x y = true ∨ ltE y x = true := by
  simp only [ltE, Bool.or_eq_true, Bool.and_eq_true, decide_eq_true_eq]
  rcases Int.lt_trichotomy (sumN x.f0) (sumN y.f0) with h1 | h1 | h1
  · exact .inl (.inl h1)
  · rcases less_tri (nb x) (nb y) with h2 | h2 | h2
    · exact .inl (.inr ⟨h1, h2⟩)
    · exact absurd h2 h
    · exact .inr (.inr ⟨h1.symm, h2⟩)
  · exact .inr (.inl h1)
theorem ltN_or {x y : E} (h : nb x ≠ nb y) : ltN x y = true ∨ ltN y x = true := by
  rcases less_tri (nb x) (nb y) with h2 | h2 | h2
  · exact .inl h2
  · exact absurd h2 h
  · exact .inr h2
theorem byS : ByS (fun x : E => sumN x.f0) ltE where
  irr := ltE_irrefl
  tr := ltE_trans
  up := fun x y h => by simp only [ltE, Bool.or_eq_true, decide_eq_true_eq]; exact .inl h
theorem place_ev (l : List E) (s : ByteArray) (h : l.Pairwise (fun a b => less (nb a) (nb b) = true)) (hl : l.length < 4398046511104) : Ev (fun k => htree_place.f k l s) ((posP l s : Int), thereP l s) := by
  unfold htree_place.f api_Name_71.f
  simp only [if_pos hl]
  obtain ⟨p, hp⟩ : ∃ p, posP l s = p := ⟨_, rfl⟩
  have hlo : ∀ m (h : m < l.length), m < p → less (nb l[m]) s.data.toList = true := fun m hm h2 => pos_low s m hm (by omega)
  have hhi : ∀ m (h : m < l.length), p ≤ m → less (nb l[m]) s.data.toList = false := fun m hm h2 => pos_high h s m hm (by omega)
  have hth := there_at h s
  have hpl : p ≤ l.length := hp ▸ posP_le l s
  rw [hp]
  have key : ∀ (n i j : Nat), j - i ≤ n → i ≤ p → p ≤ j → j ≤ l.length → Ev (fun k => bsf_l0 k l s (i : Int) (j : Int)) ((p : Int), thereP l s) := by
    intro n
    induction n with
    | zero =>
      intro i j hn hi hj hjl
      refine Ev.succ ?_
      obtain rfl : i = p := by omega
      simp only [bsf_l0, if_neg (show ¬ ((i : Int) < (j : Int)) by omega), if_pos (show (0 : Int) ≤ (i : Int) by omega)]
      by_cases hlt : (i : Int) < (l.length : Int)
      · simp only [if_pos hlt]
        have hil : i < l.length := by omega
        rw [rdT_get hil]
        have e : (Lib.compareBytes l[i].f0.data.toList s.data.toList == 0) = thereP l s := by
          rw [Bool.eq_iff_iff, beq_iff_eq, compare_zero, hth]
          constructor
          · intro h1
            exact ⟨by omega, by simp only [hp]; exact str_ext h1⟩
          · rintro ⟨h1, h2⟩
            simp only [hp] at h2
            rw [h2]
        rw [e]
        exact Ev.now _
      · simp only [if_neg hlt]
        have : thereP l s = false := by
          cases e : thereP l s with
          | false => rfl
          | true => obtain ⟨h1, _⟩ := hth.1 e; omega
        rw [this]
        exact Ev.now _
    | succ n ih =>
      intro i j hn hi hj hjl
      by_cases hij : i < j
      · refine Ev.succ ?_
        have em : ((i : Int) + (j : Int)) / 2 = (((i + j) / 2 : Nat) : Int) := by omega
        have hml : (i + j) / 2 < l.length := by omega
        simp only [bsf_l0, if_pos (show ((i : Int) < (j : Int)) by omega), if_pos (show (0 : Int) ≤ (i : Int) ∧ (j : Int) ≤ (l.length : Int) by omega), em, rdT_get hml]
        have hc := compare_neg l[(i + j) / 2].f0.data.toList s.data.toList
        by_cases hmA : (i + j) / 2 < p
        · simp only [if_pos (hc.2 (hlo _ hml hmA))]
          have := ih ((i + j) / 2 + 1) j (by omega) (by omega) hj hjl
          rw [show (((i + j) / 2 : Nat) : Int) + 1 = (((i + j) / 2 + 1 : Nat) : Int) by omega]
          exact this
        · have hf : ¬ Lib.compareBytes l[(i + j) / 2].f0.data.toList s.data.toList < 0 := fun h => by
            have h1 := hc.1 h
            have h2 := hhi _ hml (by omega)
            rw [show less l[(i + j) / 2].f0.data.toList s.data.toList = false from h2] at h1
            cases h1
          simp only [if_neg hf]
          exact ih i ((i + j) / 2) (by omega) hi (by omega) (by omega)
      · exact ih i j (by omega) hi hj hjl
  refine Ev.bind (key l.length 0 l.length (by omega) (by omega) (by omega) (by omega)) ?_
  exact Ev.now _
theorem rdR_get {l : List R} {i : Nat} (h : i < l.length) : rd_T76 l (i : Int) = l[i] := by
  unfold rd_T76; rw [Int.toNat_natCast]; exact getD_at h _
theorem cmpR_neg (a s : Int) : cmpR a s < 0 ↔ a ≤ s := by unfold cmpR; split <;> simp_all
theorem at_ev {n : Nat} {rs : List R} (h : RowsOk n rs) (nm : ByteArray) (hn : nm.size < 512) : Ev (fun k => atF k rs nm) (atP rs (sumN nm) : Int) := by
  unfold atF
  refine Ev.bind (sum_ev nm hn) ?_
  obtain ⟨s, hs⟩ : ∃ s, sumN nm = s := ⟨_, rfl⟩
  have hs0 : 0 ≤ s := hs ▸ (sumN_nn nm).1
  rw [hs]
  obtain ⟨p, hp⟩ : ∃ p, (rs.takeWhile (fun r => decide (r.f0 ≤ s))).length = p := ⟨_, rfl⟩
  have hp1 : 1 ≤ p := hp ▸ tw_rows h hs0
  have hpl : p ≤ rs.length := hp ▸ tw_le rs
  have hlo : ∀ m (h : m < rs.length), m < p → rs[m].f0 ≤ s := fun m hm h2 => of_decide_eq_true (tw_true (q := fun r : R => decide (r.f0 ≤ s)) rs m hm (by omega))
  have hhi : ∀ m (h : m < rs.length), p ≤ m → s < rs[m].f0 := fun m hm h2 => (at_row h s hs0).2 m hm (by unfold atP; omega)
  have hh := h.high
  have key : ∀ (n i j : Nat), j - i ≤ n → i ≤ p → p ≤ j → j ≤ rs.length → ∃ b, Ev (fun k => bsr_l0 k rs s (i : Int) (j : Int)) ((p : Int), b) := by
    intro n
    induction n with
    | zero =>
      intro i j hn hi hj hjl
      obtain rfl : i = p := by omega
      by_cases hlt : (i : Int) < (rs.length : Int)
      · refine ⟨cmpR (rd_T76 rs (i : Int)).f0 s == 0, Ev.succ ?_⟩
        simp only [bsr_l0, if_neg (show ¬ ((i : Int) < (j : Int)) by omega), if_pos (show (0 : Int) ≤ (i : Int) by omega), if_pos hlt]
        exact Ev.now _
      · refine ⟨false, Ev.succ ?_⟩
        simp only [bsr_l0, if_neg (show ¬ ((i : Int) < (j : Int)) by omega), if_pos (show (0 : Int) ≤ (i : Int) by omega), if_neg hlt]
        exact Ev.now _
    | succ n ih =>
      intro i j hn hi hj hjl
      by_cases hij : i < j
      · have em : ((i : Int) + (j : Int)) / 2 = (((i + j) / 2 : Nat) : Int) := by omega
        have hml : (i + j) / 2 < rs.length := by omega
        have hc := cmpR_neg rs[(i + j) / 2].f0 s
        by_cases hmA : (i + j) / 2 < p
        · obtain ⟨b, hb⟩ := ih ((i + j) / 2 + 1) j (by omega) (by omega) hj hjl
          refine ⟨b, Ev.succ ?_⟩
          simp only [bsr_l0, if_pos (show ((i : Int) < (j : Int)) by omega), if_pos (show (0 : Int) ≤ (i : Int) ∧ (j : Int) ≤ (rs.length : Int) by omega), em, rdR_get hml]
          simp only [if_pos (hc.2 (hlo _ hml hmA))]
          rw [show (((i + j) / 2 : Nat) : Int) + 1 = (((i + j) / 2 + 1 : Nat) : Int) by omega]
          exact hb
        · obtain ⟨b, hb⟩ := ih i ((i + j) / 2) (by omega) hi (by omega) (by omega)
          refine ⟨b, Ev.succ ?_⟩
          simp only [bsr_l0, if_pos (show ((i : Int) < (j : Int)) by omega), if_pos (show (0 : Int) ≤ (i : Int) ∧ (j : Int) ≤ (rs.length : Int) by omega), em, rdR_get hml]
          have hf : ¬ cmpR rs[(i + j) / 2].f0 s < 0 := fun h => by
            have h1 := hc.1 h
            have h2 := hhi _ hml (by omega)
            omega
          simp only [if_neg hf]
          exact hb
      · exact ih i j (by omega) hi hj hjl
  obtain ⟨b, hb⟩ := key rs.length 0 rs.length (by omega) (by omega) (by omega) (by omega)
  refine Ev.bind hb ?_
  have e : wrap64 ((p : Int) - 1) = (atP rs s : Int) := by unfold atP; rw [hp, w64 (by omega) (by omega)]; omega
  simp only [e]
  exact Ev.now _
theorem oneRow_len (r : R) : (oneRow r).length = 8 := by simp [oneRow, bytesN_len]
theorem rows_len : ∀ rs : List R, (rs.flatMap oneRow).length = 8 * rs.length
  | [] => rfl
  | r :: rs => by rw [List.flatMap_cons, List.length_append, oneRow_len, rows_len rs, List.length_cons]; omega
theorem ixBody_len (rs : List R) : (ixBody rs).length = 4 + 8 * rs.length := by
  unfold ixBody
  rw [List.length_append, List.length_append, bytesN_len, bytesN_len, rows_len]
theorem ixPad_len {rs : List R} (h : rs.length ≤ 31) : (ixPad rs).length = 252 := by
  unfold ixPad
  rw [List.length_append, List.length_replicate, ixBody_len]
  omega
theorem ixB_len {rs : List R} (h : rs.length ≤ 31) : (ixB rs).length = 256 := by
  unfold ixB
  rw [List.length_append, ixPad_len h, bytesN_len]
theorem ixBody_byte (rs : List R) : ∀ x ∈ ixBody rs, isByte x := by
  unfold ixBody
  refine bytes_app (bytes_app (bytesN_byte _ _) (bytesN_byte _ _)) (fun x hx => ?_)
  obtain ⟨r, _, hr⟩ := List.mem_flatMap.1 hx
  exact bytes_app (bytesN_byte _ _) (bytesN_byte _ _) x hr
theorem ixB_byte (rs : List R) : ∀ x ∈ ixB rs, isByte x := by
  unfold ixB ixPad
  refine bytes_app (bytes_app (ixBody_byte rs) (fun x hx => ?_)) (bytesN_byte _ _)
  rw [List.mem_replicate] at hx
  rw [hx.2]
  exact ⟨by decide, by decide⟩
theorem ix_ev (rs : List R) (hl : rs.length ≤ 31) (hr : ∀ r ∈ rs, (0 ≤ r.f0 ∧ r.f0 < 4294967296) ∧ 0 ≤ r.f1 ∧ r.f1 < 4294967296) : Ev (fun k => htree_index.f k rs) (ixB rs) := by
  unfold htree_index.f
  rw [u64n rs.length (by omega)]
  refine Ev.bind (crc_bytes_ev _ 2 (by decide)) ?_
  refine Ev.bind (crc_bytes_ev 65535 2 (by decide)) ?_
  simp only [bytesN_len, if_pos (show 2 + 2 < 140737488355328 by decide)]
  have key : ∀ (n i : Nat) (b : List Int), i + n = rs.length → b.length = 4 + 8 * i → b ++ (rs.drop i).flatMap oneRow = ixBody rs → Ev (fun k => htree_index.l0 k b rs (rs.length : Int) (i : Int)) (ixB rs) := by
    intro n
    induction n with
    | zero =>
      intro i b hi hb he
      refine Ev.succ ?_
      rw [List.drop_of_length_le (by omega), List.flatMap_nil, List.append_nil] at he
      subst he
      have hz : (wrap64 (252 - ((ixBody rs).length : Int))).toNat = 252 - (ixBody rs).length := by rw [w64 (by omega) (by omega)]; omega
      have hz0 : 0 ≤ wrap64 (252 - ((ixBody rs).length : Int)) := by rw [w64 (by omega) (by omega)]; omega
      simp only [htree_index.l0, if_neg (show ¬((i : Int) < (rs.length : Int)) by omega), if_pos hz0, hz, if_pos (show (ixBody rs).length + (252 - (ixBody rs).length) < 140737488355328 by omega), bs]
      change Ev (fun k => (crc_Sum.f k (ixPad rs)).bind fun t136 => (crc_Bytes.f k (IntKind.u64.wrap t136) 4).bind fun t137 => if (ixPad rs).length + t137.length < 140737488355328 then some (ixPad rs ++ t137) else none) (ixB rs)
      refine Ev.bind (crc_sum_ev _ (by rw [ixPad_len hl]; decide)) ?_
      rw [u64n _ (by have := (sumB (ixPad rs)).isLt; omega)]
      refine Ev.bind (crc_bytes_ev _ 4 (by decide)) ?_
      simp only [bytesN_len, ixPad_len hl, if_pos (show 252 + 4 < 140737488355328 by decide)]
      exact Ev.now _
    | succ n ih =>
      intro i b hi hb he
      refine Ev.succ ?_
      have hil : i < rs.length := by omega
      have hq := hr _ (List.getElem_mem hil)
      rw [List.drop_eq_getElem_cons hil] at he
      simp only [htree_index.l0, if_pos (show ((i : Int) < (rs.length : Int)) by omega), if_pos (show (0 : Int) ≤ (i : Int) by omega), rdR_get hil]
      rw [show IntKind.u64.wrap rs[i].f0 = ((rs[i].f0.toNat : Nat) : Int) by rw [u64w]; omega, show IntKind.u64.wrap rs[i].f1 = ((rs[i].f1.toNat : Nat) : Int) by rw [u64w]; omega]
      refine Ev.bind (crc_bytes_ev _ 4 (by decide)) ?_
      simp only [bytesN_len, if_pos (show b.length + 4 < 140737488355328 by omega), bs]
      refine Ev.bind (crc_bytes_ev _ 4 (by decide)) ?_
      have hlen : (b ++ bytesN 4 rs[i].f0.toNat).length + 4 < 140737488355328 := by rw [List.length_append, bytesN_len]; omega
      simp only [bytesN_len, if_pos hlen, w64 (show -9223372036854775808 ≤ (i : Int) + 1 by omega) (by omega)]
      have := ih (i + 1) (b ++ bytesN 4 rs[i].f0.toNat ++ bytesN 4 rs[i].f1.toNat) (by omega) (by simp only [List.length_append, bytesN_len]; omega) (by rw [← he, List.flatMap_cons, oneRow]; simp only [List.append_assoc])
      exact this
  exact key rs.length 0 (bytesN 2 rs.length ++ bytesN 2 65535) (by omega) (by simp [bytesN_len]) (by rw [List.drop_zero]; rfl)
theorem copied_ev (d : List (List Int)) (h : d.length ≤ 11728124029610) (hb : ∀ b ∈ d, b.length ≤ 140737488355328) : Ev (fun k => htree_copied.f k d) d := by
  unfold htree_copied.f
  simp only [if_pos (show (0 : Int) ≤ (d.length : Int) by omega), Int.toNat_natCast, if_pos h]
  have key : ∀ (n i : Nat) (o : List (List Int)), i + n = d.length → o.length = d.length → o.take i = d.take i → Ev (fun k => htree_copied.l0 k d o (d.length : Int) (i : Int)) d := by
    intro n
    induction n with
    | zero =>
      intro i o hi ho he
      refine Ev.succ ?_
      rw [List.take_of_length_le (by omega), List.take_of_length_le (by omega)] at he
      subst he
      simp only [htree_copied.l0, if_neg (show ¬((i : Int) < (o.length : Int)) by omega)]
      exact Ev.now _
    | succ n ih =>
      intro i o hi ho he
      refine Ev.succ ?_
      have hil : i < d.length := by omega
      have hg : d.getD i [] = d[i] := getD_at hil _
      simp only [htree_copied.l0, if_pos (show ((i : Int) < (d.length : Int)) by omega), if_pos (show (0 : Int) ≤ (i : Int) by omega), bytes_Clone.f, ho]
      change Ev (fun k => (if (d.getD (i : Int).toNat []).length ≤ 140737488355328 then some (d.getD (i : Int).toNat []) else none).bind fun t => htree_copied.l0 k d (o.set (i : Int).toNat t) (d.length : Int) (wrap64 ((i : Int) + 1))) d
      simp only [hg, if_pos (hb _ (List.getElem_mem hil)), bs, Int.toNat_natCast, w64 (show -9223372036854775808 ≤ (i : Int) + 1 by omega) (show (i : Int) + 1 ≤ 9223372036854775807 by omega)]
      refine ih (i + 1) (o.set i d[i]) (by omega) (by rw [List.length_set]; exact ho) ?_
      rw [List.take_succ_eq_append_getElem (by rw [List.length_set]; omega), List.take_succ_eq_append_getElem hil, List.getElem_set_self, List.take_set_of_le (Nat.le_refl _), he]
  exact key d.length 0 _ (by omega) (by rw [List.length_replicate]) rfl
end Go.Proofs.Yteglhbfhibfodaa.Ht
end
section
namespace Go.Proofs.Yteglhbfhibfodaa.Pr
open Go.RowKit Go.Proofs.YteglhbfhibfodaaW.PrintWords Go.Proofs.YteglhbfhibfodaaW.PrintLast Go.Proofs.YteglhbfhibfodaaW.PrintMore
attribute [local go_sem] max2_int min2_int max_two min_two max_three min_three max_four min_four
attribute [local go_sem] Go.Proofs.Yteglhbfhibfodaa.Hl.str_geq Go.Proofs.Yteglhbfhibfodaa.Hl.str_gtr Go.Proofs.Yteglhbfhibfodaa.Hl.str_leq
set_option linter.unusedVariables false
set_option linter.unusedSimpArgs false
open Go.Maps (addKey setOf Keyed int_keyed keyOf_int_mk size_setOf setOf_snoc)
theorem keyed3:Keyed Try.prog 3:=int_keyed Try.underlying3
def setI (l:List Int):DataW Unit:=setOf (.agg []) (l.map (Lit.int .i64))
theorem setI_snoc (l:List Int) (x:Int):setI (l++[x])=(setI l).put (.int .i64 x) (.agg []):=by unfold setI;rw [List.map_append];exact setOf_snoc _ _ _
theorem setI_size (l:List Int):Go.Maps.size (setI l)=((l.map (Lit.int .i64)).foldl addKey []).length:=size_setOf _ _ (by intro x hx;obtain ⟨y,_,rfl⟩:=List.mem_map.1 hx;trivial)
theorem same_lit (a b:Int):((Lit.int .i64 a).sameKey (Lit.int .i64 b))=decide (a=b):=by
 by_cases h:a=b
 ·subst h;simp [Lit.sameKey]
 ·rw [decide_eq_false h]
  exact Go.Maps.sameKey_ne (fun e=>h (by injection e))
theorem foldKey (xs:List Int):∀ acc:List Int,acc.Nodup→((xs.map (Lit.int .i64)).foldl addKey (acc.map (Lit.int .i64))).length≤acc.length+xs.length ∧
  (((xs.map (Lit.int .i64)).foldl addKey (acc.map (Lit.int .i64))).length=acc.length+xs.length↔(acc++xs).Nodup):=by
 induction xs with
 | nil=>intro acc hacc;simp [hacc]
 | cons x xs ih =>
  intro acc hacc
  rw [List.map_cons,List.foldl_cons]
  have hany:(acc.map (Lit.int .i64)).any (fun y=>y.sameKey (Lit.int .i64 x))=acc.contains x:=by
   rw [List.any_map,List.contains_eq_any_beq]
   congr 1
   funext y
   show (Lit.int .i64 y).sameKey (Lit.int .i64 x)=(x==y)
   rw [same_lit]
   by_cases h:y=x
   ·subst h;simp
   ·rw [decide_eq_false h]
    have:¬ (x=y):=fun e=>h e.symm
    simp [this]
  have hs:addKey (acc.map (Lit.int .i64)) (Lit.int .i64 x)=if acc.contains x=true then acc.map (Lit.int .i64) else acc.map (Lit.int .i64)++[Lit.int .i64 x]:=by unfold addKey;rw [hany]
  rw [hs]
  by_cases hc:acc.contains x=true
  ·rw [if_pos hc]
   obtain ⟨h1,h2⟩:=ih acc hacc
   have hm:x∈acc:=List.contains_iff_mem.1 hc
   refine ⟨by rw [List.length_cons];omega,⟨fun h=>?_,fun h=>?_⟩⟩
   ·rw [List.length_cons] at h;omega
   ·have:=(List.nodup_append.1 h).2.2 x hm x List.mem_cons_self
    exact absurd rfl this
  ·rw [if_neg hc]
   have hm:x∉acc:=fun h=>hc (List.contains_iff_mem.2 h)
   have e:acc.map (Lit.int .i64)++[Lit.int .i64 x]=(acc++[x]).map (Lit.int .i64):=by rw [List.map_append];rfl
   rw [e]
   have hnd:(acc++[x]).Nodup:=List.nodup_append.2 ⟨hacc,List.nodup_cons.2 ⟨List.not_mem_nil,List.nodup_nil⟩,fun a ha b hb=>by
    rw [List.mem_singleton.1 hb];exact fun e=>hm (e ▸ ha)⟩
   obtain ⟨h1,h2⟩:=ih (acc++[x]) hnd
   rw [List.length_append,List.length_singleton] at h1 h2
   rw [List.append_assoc,List.singleton_append] at h2
   rw [List.length_cons,show acc.length+(xs.length+1)=acc.length+1+xs.length by omega]
   exact ⟨h1,h2⟩
theorem ownsMap_blk {P:Program} {k:TypeId} {Rr:Value→Option (DataW Unit×List MemPlace)} {b n:Nat} {D:DataW Unit} {W W':World} (h:W.ownsMap P k Rr b n D) (he:W'.heap[b]? = W.heap[b]?):W'.ownsMap P k Rr b n D:=by
 obtain ⟨es,clock,hb,Ft,hs,hD⟩:=h
 exact ⟨es,clock,he.trans hb,Ft,hs,hD⟩
theorem ownsMap_off {P:Program} {k:TypeId} {Rr:Value→Option (DataW Unit×List MemPlace)} {b n:Nat} {D:DataW Unit} {W:World} (h:W.ownsMap P k Rr b n D) {α:Type} {K:Kd α} {e base:Nat} {ok:Nat→Prop} {v:Value} {xs:List α} (hR:Kd.R K e W base ok v xs):v.ownBlock≠some b:=fun ee=>by
 obtain ⟨es,clock,hb,Ft,hs,hD⟩:=h
 obtain ⟨cs,hh⟩:=Kd.R_typed hR b ee
 rw [hb] at hh
 cases hh
set_option maxHeartbeats 8000000 in
set_option maxRecDepth 100000 in
theorem rix_get (W:World) (Bx:Nat) (A:Option Addr) (c:Nat) (l:List Int) (N:Nat) (hN:l.length=N) (x v:Int) (hv:Ht.num4 l x.toNat=v) (hbk:W.heap[Bx]? = some (.cells #[.slice A N c] 66 (0,0))) (hr:Kd.C (Kd.int .u8) W A l.length l) (hc:l.length≤c)
  (hb:∀ y∈l,Od.isByte y) (h0:0≤x) (h2:x+4≤l.length) (hx:x < 1000) :
  Calls Try.prog 59 #[.int .i64 x,.pointer (some ⟨Bx,0,none⟩)] W fun e w'=>e=.returned (.int .i64 v)∧Below W.heap.size W w':=by
 subst hN
 obtain ⟨n,hn⟩:∃ n:Int,n=4:=⟨_,rfl⟩
 have e1:(x+n).toNat=x.toNat+4:=by omega
 obtain ⟨k,hy⟩:=(Cr.crc_number_ev ((l.take (x+n).toNat).drop x.toNat) (by rw [List.length_drop,List.length_take];omega) (Lf.slice_byte hb _ _)).rounds
 obtain ⟨u,hu⟩:∃ u:Int,((Cr.numN ((l.take (x+n).toNat).drop x.toNat):Nat):Int)=u:=⟨_,rfl⟩
 have hnum:wrap64 u=v:=by
  have:=Ht.num4_lt hb x.toNat
  rw [e1] at hu
  unfold Ht.num4 at hv this
  rw [← hu,Cr.w64 (by omega) (by omega)]
  exact hv
 rw [hu] at hy
 obtain ⟨i0,hi,hz⟩:=Option.map_eq_some_iff.1 info5
 simp only [Prod.mk.injEq] at hz
 have hln:l.length≤9223372036854775807:=hr.2.1
 obtain ⟨A',hcut,hA,hC⟩:=print_mid_of (P:=Try.prog) (Value.int .u8) 0 66 5 .i64 .i64 Try.underlying66 hi hz.2.1 A c l x (x+n) h0 (by omega) (by omega) hc
 have hcell:W.cell? ⟨Bx,0,none⟩=some (.slice A l.length c):=(blk_cell hbk 0).trans rfl
 obtain ⟨y,hy1⟩:∃ y,x+n=y:=⟨_,rfl⟩
 have hw64:wrap64 (x+4)=y:=by unfold wrap64;omega
 rw [hy1] at hcut hC hA hy
 obtain ⟨D,hD⟩:∃ D,(l.take y.toNat).drop x.toNat=D:=⟨_,rfl⟩
 rw [hD] at hcut hy hA hC
 have hcn:=crc_Number.calls k A' (c - x.toNat) D _ true W (Kd.C_of_reads (h1:=fun _=>rfl) (hA _ (Kd.reads_of_C hr))) hC hy
 have HCN:=am hcn
 have HNUM:=am hnum
 clear hcn hy hA hC hr hbk hnum hv hb hD hu hy1 hn h2 hx e1 hln hc h0
 go_enter Try.func59,Try.ntmps59
 go_wp2_with (go_at_call 60;refine HCN.out.mono ?_;rintro e w2 ⟨rfl,⟨m,rfl⟩⟩)
 go_ret
 exact ⟨by rw [← HNUM.out];rfl,pw_below_drewN (Below.refl _ _) _⟩
def RixSays (b:List Int) (n:Nat) (w:World) (e:Ending) (w':World):Prop:=∃ v,e=.returned v∧Below w.heap.size w w'∧match Ht.ixP b n with
 | none=>v=.slice none 0 0
 | some rs=>Kd.R k76 76 w' w.heap.size (fun _=>True) v rs
theorem rix_none {b:List Int} {n:Nat} {w w':World} (h:Ht.ixP b n=none) (hb:Below w.heap.size w w'):RixSays b n w (.returned (.slice none 0 0)) w':=⟨_,rfl,hb,by rw [h]⟩
def rixOk (b:List Int) (n j:Nat):Prop:=Ht.rowsUp n none ((Ht.rowsOf b n).take j)=true
theorem ixP_some {b:List Int} {n:Nat} {rs:List S76} (h:Ht.ixP b n=some rs):rs=Ht.rowsOf b n∧Ht.rowsUp n none (Ht.rowsOf b n)=true∧(Ht.rowAt b 0).f0=0∧((Ht.rowsOf b n).map (·.f1)).Nodup∧Ht.ixB (Ht.rowsOf b n)=b:=by
 unfold Ht.ixP at h
 split at h
 ·next hc=>exact ⟨(Option.some.inj h).symm,hc.2.2.2⟩
 ·cases h
theorem rix_step {b:List Int} {n j:Nat} {s1 s2:Int} (h:rixOk b n j) (htk:(Ht.rowsOf b n).take (j+1)=(Ht.rowsOf b n).take j++[⟨s1,s2⟩]) (hj:j < n) (h1:1≤s2) (h2:s2≤n) (hp:∀ m:Nat,j=m+1→(rd_T76 ((Ht.rowsOf b n).take j) (m:Int)).f0 < s1):rixOk b n (j+1):=by
 obtain ⟨h3,_,h4⟩:=Ht.rowsUp_spec _ _ _ h
 have hl:((Ht.rowsOf b n).take j).length=j:=by rw [List.length_take,Ht.rowsOf_len];omega
 unfold rixOk
 rw [htk]
 refine Ht.rowsUp_of _ _ _ (fun r hr=>?_) (fun s hs=>by cases hs) (List.pairwise_append.2 ⟨h4,by simp,fun a ha x hx=>?_⟩)
 ·rcases List.mem_append.1 hr with hr|hr
  ·exact h3 r hr
  ·obtain rfl:=List.mem_singleton.1 hr
   exact ⟨h1,h2⟩
 ·obtain rfl:=List.mem_singleton.1 hx
  obtain ⟨i,hi,rfl⟩:=List.getElem_of_mem ha
  obtain ⟨m,rfl⟩:∃ m,j=m+1:=⟨j - 1,by omega⟩
  have h5:=hp m rfl
  have hm:m < ((Ht.rowsOf b n).take (m+1)).length:=by omega
  rw [Ht.rdR_get hm] at h5
  rcases Nat.lt_or_ge i m with h6|h6
  ·have:=List.pairwise_iff_getElem.1 h4 i m hi hm h6
   show _ < s1
   omega
  ·obtain rfl:i=m:=by omega
   exact h5
theorem rix_bad {b:List Int} {n j:Nat} {s1 s2:Int} (htk:(Ht.rowsOf b n).take (j+1)=(Ht.rowsOf b n).take j++[⟨s1,s2⟩]) (hj:j < n) (h:¬ (1≤s2∧s2≤n∧∀ m:Nat,j=m+1→(rd_T76 ((Ht.rowsOf b n).take j) (m:Int)).f0 < s1)):Ht.ixP b n=none:=by
 cases e:Ht.ixP b n with
 | none=>rfl
 | some rs =>
  exfalso
  obtain ⟨_,h1,_⟩:=ixP_some e
  obtain ⟨h2,_,h3⟩:=Ht.rowsUp_spec _ _ _ h1
  have hl:((Ht.rowsOf b n).take j).length=j:=by rw [List.length_take,Ht.rowsOf_len];omega
  have hm:(⟨s1,s2⟩:S76)∈(Ht.rowsOf b n).take (j+1):=by rw [htk];simp
  have h4:=h2 _ (List.mem_of_mem_take hm)
  refine h ⟨h4.1,h4.2,fun m hjm=>?_⟩
  subst hjm
  have hm2:m < ((Ht.rowsOf b n).take (m+1)).length:=by omega
  rw [Ht.rdR_get hm2]
  have h5:=List.Pairwise.sublist (List.take_sublist (m+1+1) _) h3
  rw [htk] at h5
  exact (List.pairwise_append.1 h5).2.2 _ (List.getElem_mem hm2) _ (List.mem_singleton.2 rfl)
set_option maxHeartbeats 8000000 in
set_option maxRecDepth 100000 in
theorem rix_calls (A0:Option Addr) (c0:Nat) (b:List Int) (n:Nat) (w:World) (hr0:Kd.C (Kd.int .u8) w A0 b.length b) (hc0:b.length≤c0) (hb:∀ y∈b,Od.isByte y) (hn:n < 5864062014805) :
  Calls Try.prog 32 #[.slice A0 b.length c0,.int .i64 (n:Int)] w (RixSays b n w):=by
 have HR0:=am hr0
 have HC0:=am hc0
 have HY:=am hb
 have HN:=am hn
 clear hr0 hc0 hb hn
 by_cases hl:b.length=256
 ·by_cases h2:(n:Int) < 2
  ·have hx:Ht.ixP b n=none:=by unfold Ht.ixP;rw [if_neg (fun h=>by have:=h.2.1;omega)]
   have h2b:decide ((n:Int) < 2)=true:=decide_eq_true h2
   have hlb:((b.length:Int) != 256)=false:=by simp [hl]
   clear h2 hl
   go_enter Try.func32,Try.ntmps32
   go_wp2;go_ret
   exact rix_none hx ((Below.refl _ _).alloc (Nat.le_refl _) _)
  ·by_cases h3:(n:Int) > 30
   ·have hx:Ht.ixP b n=none:=by unfold Ht.ixP;rw [if_neg (fun h=>by have:=h.2.2.1;omega)]
    have h2b:decide ((n:Int) < 2)=false:=decide_eq_false h2
    have h3b:decide ((30:Int) < (n:Int))=true:=decide_eq_true h3
    have hlb:((b.length:Int) != 256)=false:=by simp [hl]
    clear h2 h3 hl
    go_enter Try.func32,Try.ntmps32
    go_wp2;go_ret
    exact rix_none hx ((Below.refl _ _).alloc (Nat.le_refl _) _)
   ·have h2b:decide ((n:Int) < 2)=false:=decide_eq_false h2
    have h3b:decide ((30:Int) < (n:Int))=false:=decide_eq_false h3
    have hlb:((b.length:Int) != 256)=false:=by simp [hl]
    have HL:=am hl
    have HNB:=am (⟨by omega,by omega⟩:2≤n∧n≤30)
    clear h2 h3 hl
    have hmm:=@run_makeMap Try.prog
    go_enter Try.func32,Try.ntmps32
    go_wp2
    go_loopw [24,6] (fun i v6 wr=>∃ j:Nat,i=.int .i64 (j:Int)∧Aside0 (j≤n)∧Aside0 (rixOk b n j)∧Aside0 (wr.heap[w.heap.size]? = some (.cells #[.slice A0 b.length c0] 66 (0,0)))∧Aside0 (wr.ownsMap Try.prog 3 (unitElem (H:=Unit)) (w.heap.size+1) j (setI (((Ht.rowsOf b n).take j).map (·.f1))))∧Aside0 (Kd.R k76 76 wr w.heap.size (fun _=>True) v6 ((Ht.rowsOf b n).take j))∧Aside0 (Below w.heap.size w wr)) (fun i _ _=>n - (intOf i).toNat)
    case atStart=>exact ⟨0,rfl,⟨Nat.zero_le _⟩,⟨rfl⟩,⟨blk_alloc (blk_new w _) _⟩,⟨by have h:=World.ownsMap_made (P:=Try.prog) (w.alloc (.cells #[.slice A0 b.length c0] 66)) 3 (unitElem (H:=Unit));rw [World.size_alloc] at h;exact h⟩,⟨Kd.R_nil _ _ _ _ _⟩,⟨((Below.refl _ _).alloc (Nat.le_refl _) _).alloc (by simp) _⟩⟩
    case round =>
     obtain ⟨j,rfl,HJ,HOK,HBX,HM,HO,HB⟩:=hrel
     clear hmm
     by_cases hj:j < n
     ·obtain ⟨s1,hs1⟩:∃ s1,Ht.num4 b (4+8*j)=s1:=⟨_,rfl⟩
      obtain ⟨s2,hs2⟩:∃ s2,Ht.num4 b (8+8*j)=s2:=⟨_,rfl⟩
      have HS1:=am (show 0≤s1∧s1 < 4294967296 from hs1 ▸ Ht.num4_lt HY.out _)
      have HS2:=am (show 0≤s2∧s2 < 4294967296 from hs2 ▸ Ht.num4_lt HY.out _)
      have HTK:=am (show (Ht.rowsOf b n).take (j+1)=(Ht.rowsOf b n).take j++[⟨s1,s2⟩] by
       rw [List.take_succ_eq_append_getElem (by rw [Ht.rowsOf_len];exact hj),Ht.rowsOf_get]
       unfold Ht.rowAt
       rw [hs1,hs2])
      obtain ⟨x0,hx0⟩:∃ x0:Int,8*(j:Int)=x0:=⟨_,rfl⟩
      obtain ⟨x1,hx1⟩:∃ x1:Int,4+x0=x1:=⟨_,rfl⟩
      obtain ⟨x2,hx2⟩:∃ x2:Int,8+x0=x2:=⟨_,rfl⟩
      have hn30:=HNB.out
      have hlen:=HL.out
      have hw0:wrap64 (8*(j:Int))=x0:=by unfold wrap64;omega
      have hw1:wrap64 (4+x0)=x1:=by unfold wrap64;omega
      have hw2:wrap64 (8+x0)=x2:=by unfold wrap64;omega
      have HG1:=am (⟨by rw [show x1.toNat=4+8*j by omega];exact hs1,by omega,by omega,by omega⟩:Ht.num4 b x1.toNat=s1∧0≤x1∧x1+4≤b.length∧x1 < 1000)
      have HG2:=am (⟨by rw [show x2.toNat=8+8*j by omega];exact hs2,by omega,by omega,by omega⟩:Ht.num4 b x2.toNat=s2∧0≤x2∧x2+4≤b.length∧x2 < 1000)
      have hjb:decide (j < n)=true:=decide_eq_true hj
      have hu32:IntKind.u32.wrap s1=s1:=by rw [Cr.u32w];have:=HS1.out;omega
      have HJN:=am hj
      clear hs1 hs2 hx0 hx1 hx2 hn30 hlen hj
      go_wp2_with (first|(go_at_call 59;refine (rix_get w2 w.heap.size A0 c0 b b.length rfl x2 s2 HG2.out.1 HBX2.out (Kd.C_below HR0.out HB2.out) HC0.out HY.out HG2.out.2.1 HG2.out.2.2.1 HG2.out.2.2.2).mono ?_;rintro e w3 ⟨rfl,hb3⟩;have HB3:=am hb3;clear hb3)|(go_at_call 59;refine (rix_get wr w.heap.size A0 c0 b b.length rfl x1 s1 HG1.out.1 HBX.out (Kd.C_below HR0.out HB.out) HC0.out HY.out HG1.out.2.1 HG1.out.2.2.1 HG1.out.2.2.2).mono ?_;rintro e w2 ⟨rfl,hb2⟩;have HBX2:=am (blk_below HBX.out hb2);have HB2:=am (HB.out.trans (hb2.mono HB.out.size));have HW2:=am hb2;clear hb2))
      have hb3w:Below wr.heap.size wr w3:=HW2.out.trans (HB3.out.mono HW2.out.size)
      have hb4w:=hb3w.alloc hb3w.size (.cells #[.int .u32 s1,.int .i64 s2] 76)
      have he4:=blk_new w3 (.cells #[.int .u32 s1,.int .i64 s2] 76)
      have hrb:w.heap.size+1 < w3.heap.size:=Nat.lt_of_lt_of_le HM.out.lt hb3w.size
      generalize (w3.alloc (.cells #[.int .u32 s1,.int .i64 s2] 76))=w4 at he4 hb4w ⊢
      generalize w3.heap.size=rb at he4 hrb ⊢
      have HBX4:=am (blk_below HBX.out hb4w)
      have HM4:=am (ownsMap_blk HM.out (hb4w.block _ HM.out.lt))
      have HO4:=am (Kd.R_below HO.out hb4w)
      have HB4:=am (HB.out.trans (hb4w.mono HB.out.size))
      have HE4:=am he4
      have HRB:=am hrb
      have hc0:=(blk_cell he4 0).trans rfl
      have hc1:=(blk_cell he4 1).trans rfl
      have HLJ:=am (show ((Ht.rowsOf b n).take j).length=j by rw [List.length_take,Ht.rowsOf_len];have:=HJN.out;omega)
      obtain ⟨A6,c6,ev6,hc6,hr6⟩:=Kd.R_reads HO4.out
      rw [HLJ.out] at ev6 hc6 hr6
      subst ev6
      have HC6:=am hc6
      have HR6:=am hr6
      clear hb4w he4 hrb hb3w HBX HM HO HBX2 HW2 HB3 HB2 hw0 hw1 hw2 hu32 hjb hc6 hr6 HG1 HG2 HB
      by_cases h1:s2 < 1
      ·have h1b:decide (s2 < 1)=true:=decide_eq_true h1
       have hx:=rix_bad HTK.out HJN.out (fun h=>by have:=h.1;omega)
       clear h1
       refine start_ (n:=24) (S:=fun w'=>w'.cell? ⟨rb,0,none⟩=some (.int .u32 s1)∧w'.cell? ⟨rb,1,none⟩=some (.int .i64 s2)) (ds:=[]) _ (by kernel_rfl) rfl rfl ⟨hc0,hc1⟩ (fun hHeld=>?_)
       refine pK 0 39 ?_;refine tK 1 40 hHeld ?_ (hy:=by rintro w' ⟨s0,s1⟩;go_simp;with_reducible rfl);refine pK 2 41 ?_;refine pK 3 42 ?_;refine uK 4 43 ?_;refine uK 5 44 ?_;refine uK 6 45 ?_;refine uK 7 46 ?_;refine pK 8 47 ?_;refine pK 9 48 ?_;refine uK 10 49 ?_;refine uK 11 50 ?_;refine uK 12 51 ?_;refine uK 13 52 ?_;refine uK 14 53 ?_;refine uK 15 54 ?_;refine uK 16 55 ?_;refine uK 17 56 ?_;refine uK 18 57 ?_;refine uK 19 58 ?_;refine uK 20 59 ?_;refine uK 21 60 ?_;refine uK 22 61 ?_;refine pK 23 62 ?_
       refine done_ (by kernel_rfl) ?_
       go_wp2;go_ret
       exact rix_none hx (below_drew1 HB4.out)
      ·have h1b:decide (s2 < 1)=false:=decide_eq_false h1
       by_cases h2:s2 > (n:Int)
       ·have h2b:decide ((n:Int) < s2)=true:=decide_eq_true h2
        have hx:=rix_bad HTK.out HJN.out (fun h=>by have:=h.2.1;omega)
        clear h1 h2
        refine start_ (n:=24) (S:=fun w'=>w'.cell? ⟨rb,0,none⟩=some (.int .u32 s1)∧w'.cell? ⟨rb,1,none⟩=some (.int .i64 s2)) (ds:=[]) _ (by kernel_rfl) rfl rfl ⟨hc0,hc1⟩ (fun hHeld=>?_)
        refine pK 0 39 ?_;refine tK 1 40 hHeld ?_ (hy:=by rintro w' ⟨s0,s1⟩;go_simp;with_reducible rfl);refine pK 2 41 ?_;refine pK 3 42 ?_;refine pK 4 43 ?_;refine pK 6 45 ?_;refine tK 5 44 hHeld ?_ (hy:=by rintro w' ⟨s0,s1⟩;go_simp;with_reducible rfl);refine pK 7 46 ?_;refine pK 8 47 ?_;refine pK 9 48 ?_;refine uK 10 49 ?_;refine uK 11 50 ?_;refine uK 12 51 ?_;refine uK 13 52 ?_;refine uK 14 53 ?_;refine uK 15 54 ?_;refine uK 16 55 ?_;refine uK 17 56 ?_;refine uK 18 57 ?_;refine uK 19 58 ?_;refine uK 20 59 ?_;refine uK 21 60 ?_;refine uK 22 61 ?_;refine pK 23 62 ?_
        refine done_ (by kernel_rfl) ?_
        go_wp2;go_ret
        exact rix_none hx (below_drew1 HB4.out)
       ·have h2b:decide ((n:Int) < s2)=false:=decide_eq_false h2
        by_cases h3:j=0
        ·have h3b:decide (0 < j)=false:=decide_eq_false (by omega)
         have H3:=am h3
         clear h3
         refine start_ (n:=24) (S:=fun w'=>w'.cell? ⟨rb,0,none⟩=some (.int .u32 s1)∧w'.cell? ⟨rb,1,none⟩=some (.int .i64 s2)) (ds:=[]) _ (by kernel_rfl) rfl rfl ⟨hc0,hc1⟩ (fun hHeld=>?_)
         refine pK 0 39 ?_;refine tK 1 40 hHeld ?_ (hy:=by rintro w' ⟨s0,s1⟩;go_simp;with_reducible rfl);refine pK 2 41 ?_;refine pK 3 42 ?_;refine pK 4 43 ?_;refine pK 6 45 ?_;refine tK 5 44 hHeld ?_ (hy:=by rintro w' ⟨s0,s1⟩;go_simp;with_reducible rfl);refine pK 7 46 ?_;refine pK 8 47 ?_;refine pK 9 48 ?_;refine pK 10 49 ?_;refine pK 11 50 ?_;refine pK 12 51 ?_;refine uK 13 52 ?_;refine uK 14 53 ?_;refine uK 15 54 ?_;refine uK 16 55 ?_;refine uK 17 56 ?_;refine uK 18 57 ?_;refine uK 19 58 ?_;refine uK 20 59 ?_;refine uK 21 60 ?_;refine pK 22 61 ?_;refine pK 23 62 ?_
         refine done_ (by kernel_rfl) ?_
         have HOKJ:=am (rix_step HOK.out HTK.out HJN.out (by omega) (by omega) (fun m hm=>by have:=H3.out;omega))
         have HX4:=am (⟨blk_drew HBX4.out,ownsMap_blk HM4.out rfl,Kd.R_drew HO4.out,below_drew1 HB4.out,blk_drew HE4.out⟩:w4.drew.heap[w.heap.size]? = some (.cells #[.slice A0 b.length c0] 66 (0,0))∧w4.drew.ownsMap Try.prog 3 (unitElem (H:=Unit)) (w.heap.size+1) j (setI (((Ht.rowsOf b n).take j).map (·.f1)))∧Kd.R k76 76 w4.drew w.heap.size (fun _=>True) (.slice A6 j c6) ((Ht.rowsOf b n).take j)∧Below w.heap.size w w4.drew∧w4.drew.heap[rb]? = some (.cells #[.int .u32 s1,.int .i64 s2] 76 (0,0)))
         have hkey:keyOf Try.prog 3 (.int .i64 s2)=some (.int .i64 s2):=keyOf_int_mk Try.underlying3 (WalkArith.wf_i64 (by have:=HS2.out;omega))
         clear hHeld hc0 hc1 HBX4 HM4 HO4 HB4 HE4 h1 h2 h1b h2b h3b
         generalize w4.drew=w5 at HX4 ⊢
         have hc0:=(blk_cell HX4.out.2.2.2.2 0).trans rfl
         have hc1:=(blk_cell HX4.out.2.2.2.2 1).trans rfl
         go_wp2_with (first|((with_reducible refine gate_builtin (b:=.append) (xs:=#[.tmp 67,.tmp 69]) rfl ?_);at_builtin;refine Kd.R_append k76 (w0:=w) w.heap.size rfl (.tmp 67) (.tmp 69) 56 76 (.agg #[(.int .u32 0),(.int .i64 0)]) 16 rfl Try.underlying56 info76 rfl (by decide) (by omega) _ ((Ht.rowsOf b n).take j) (⟨s1,s2⟩:S76) [.int .u32 s1,.int .i64 s2] (fun _=>True) (fun _=>False) rfl rfl (k76_mkM _ _ _ (⟨s1,s2⟩:S76)) (fun _ hk=>hk.elim) (fun _ _=>trivial) HX6.out.2.2.1 HX6.out.2.2.2.1 HX6.out.2.2.2.1.size (by rw [HLJ.out];have:=HNB.out;have:=HJN.out;omega) ?_;intro v8 w8 ho8 hb8 hg8 hat8;have HO8:=am ho8;have HB8:=am hb8;have HG8:=am hg8;clear ho8 hb8 hg8 hat8)|(at_mapUpdate;refine wpList_mapUpdate_own _ rfl _ _ _ 105 rfl 3 106 keyed3 Try.underlying105 (unitElem (H:=Unit)) (w.heap.size+1) j _ rfl HX4.out.2.1 (by have:=HNB.out;have:=HJN.out;unfold maxLen;omega) _ _ _ rfl rfl hkey _ [] unitElem_mk ?_;intro w6 hown1 hgrow1;have HX6:=am (⟨blk_grown HX4.out.1 hgrow1 (by simp),hown1,Kd.R_grown1 HX4.out.2.2.1 rfl hgrow1 (fun ee=>ownsMap_off HX4.out.2.1 HX4.out.2.2.1 ee.symm),HX4.out.2.2.2.1.grown hgrow1 HX4.out.2.2.2.1.size (fun q hq=>by cases hq;omega),blk_grown HX4.out.2.2.2.2 hgrow1 (by simp;have:=HRB.out;omega)⟩:w6.heap[w.heap.size]? = some (.cells #[.slice A0 b.length c0] 66 (0,0))∧w6.ownsMap Try.prog 3 (unitElem (H:=Unit)) (w.heap.size+1) (j+1) ((setI (((Ht.rowsOf b n).take j).map (·.f1))).put (.int .i64 s2) (.agg []))∧Kd.R k76 76 w6 w.heap.size (fun _=>True) (.slice A6 j c6) ((Ht.rowsOf b n).take j)∧Below w.heap.size w w6∧w6.heap[rb]? = some (.cells #[.int .u32 s1,.int .i64 s2] 76 (0,0)));clear hown1 hgrow1;clear hc0 hc1;have hc0:=(blk_cell HX6.out.2.2.2.2 0).trans rfl;have hc1:=(blk_cell HX6.out.2.2.2.2 1).trans rfl))
         have hw:wrap64 ((j:Int)+1)=((j+1:Nat):Int):=by have:=HN.out;have:=HJN.out;unfold wrap64;omega
         go_roundw
         case rel=>exact ⟨j+1,by rw [hw],⟨HJN.out⟩,HOKJ,⟨blk_grown HX6.out.1 HG8.out (Kd.R_ne HX6.out.2.2.1 HX6.out.1 (by decide))⟩,⟨ownsMap_blk (by rw [HTK.out,List.map_append,List.map_singleton,setI_snoc];exact HX6.out.2.1) (HG8.out.block _ HX6.out.2.1.lt (fun ee=>ownsMap_off HX6.out.2.1 HX6.out.2.2.1 ee.symm))⟩,⟨by rw [HTK.out];exact HO8.out⟩,HB8⟩
         case measure=>rw [hw];show n - (((j+1:Nat):Int)).toNat < n - ((j:Int)).toNat;have:=HJN.out;omega
        ·obtain ⟨m,hm⟩:∃ m,j - 1=m:=⟨_,rfl⟩
         have hj1:j=m+1:=by omega
         have hmw:wrap64 ((j:Int) - 1)=(m:Int):=by have:=HJN.out;have:=HN.out;unfold wrap64;omega
         have hmj:m < j:=by omega
         have hmji:(m:Int) < (j:Int):=by omega
         have hm0:(0:Int)≤(m:Int):=by omega
         have h3b:decide (0 < j)=true:=decide_eq_true (by omega)
         obtain ⟨ad,ead,hcp,-⟩:=at_T76 HR6.out (m:Int) hm0 hmji
         cases ead
         rw [Int.toNat_natCast] at hcp
         obtain ⟨p0,hp0⟩:∃ p0,(rd_T76 ((Ht.rowsOf b n).take j) (m:Int)).f0=p0:=⟨_,rfl⟩
         rw [hp0] at hcp
         have HP0:=am hp0
         have HJ1:=am hj1
         clear hp0 hj1 h3 hm
         by_cases h4:p0≥s1
         ·have h4b:decide (s1≤p0)=true:=decide_eq_true h4
          have hx:=rix_bad HTK.out HJN.out (fun h=>by have:=h.2.2 m HJ1.out;rw [HP0.out] at this;omega)
          clear h1 h2 h4
          refine start_ (n:=24) (S:=fun w'=>w'.cell? ⟨rb,0,none⟩=some (.int .u32 s1)∧w'.cell? ⟨rb,1,none⟩=some (.int .i64 s2)∧w'.cell? (ad.add (m*2))=some (.int .u32 p0)) (ds:=[]) _ (by kernel_rfl) rfl rfl ⟨hc0,hc1,hcp⟩ (fun hHeld=>?_)
          refine pK 0 39 ?_;refine tK 1 40 hHeld ?_ (hy:=by rintro w' ⟨s0,s1,s2⟩;go_simp;with_reducible rfl);refine pK 2 41 ?_;refine pK 3 42 ?_;refine pK 4 43 ?_;refine pK 6 45 ?_;refine tK 5 44 hHeld ?_ (hy:=by rintro w' ⟨s0,s1,s2⟩;go_simp;with_reducible rfl);refine pK 7 46 ?_;refine pK 8 47 ?_;refine pK 9 48 ?_;refine pK 10 49 ?_;refine pK 11 50 ?_;refine pK 12 51 ?_;refine pK 13 52 ?_;refine pK 14 53 ?_;refine pK 15 54 ?_;refine pK 16 55 ?_;refine pK 17 56 ?_;refine pK 19 58 ?_;refine tK 18 57 hHeld ?_ (hy:=by rintro w' ⟨s0,s1,s2⟩;go_simp;with_reducible rfl);refine tK 20 59 hHeld ?_ (hy:=by rintro w' ⟨s0,s1,s2⟩;go_simp;with_reducible rfl);refine pK 21 60 ?_;refine pK 22 61 ?_;refine pK 23 62 ?_
          refine done_ (by kernel_rfl) ?_
          go_wp2;go_ret
          exact rix_none hx (below_drew1 HB4.out)
         ·have h4b:decide (s1≤p0)=false:=decide_eq_false h4
          have H4:=am h4
          clear h4
          refine start_ (n:=24) (S:=fun w'=>w'.cell? ⟨rb,0,none⟩=some (.int .u32 s1)∧w'.cell? ⟨rb,1,none⟩=some (.int .i64 s2)∧w'.cell? (ad.add (m*2))=some (.int .u32 p0)) (ds:=[]) _ (by kernel_rfl) rfl rfl ⟨hc0,hc1,hcp⟩ (fun hHeld=>?_)
          refine pK 0 39 ?_;refine tK 1 40 hHeld ?_ (hy:=by rintro w' ⟨s0,s1,s2⟩;go_simp;with_reducible rfl);refine pK 2 41 ?_;refine pK 3 42 ?_;refine pK 4 43 ?_;refine pK 6 45 ?_;refine tK 5 44 hHeld ?_ (hy:=by rintro w' ⟨s0,s1,s2⟩;go_simp;with_reducible rfl);refine pK 7 46 ?_;refine pK 8 47 ?_;refine pK 9 48 ?_;refine pK 10 49 ?_;refine pK 11 50 ?_;refine pK 12 51 ?_;refine pK 13 52 ?_;refine pK 14 53 ?_;refine pK 15 54 ?_;refine pK 16 55 ?_;refine pK 17 56 ?_;refine pK 19 58 ?_;refine tK 18 57 hHeld ?_ (hy:=by rintro w' ⟨s0,s1,s2⟩;go_simp;with_reducible rfl);refine tK 20 59 hHeld ?_ (hy:=by rintro w' ⟨s0,s1,s2⟩;go_simp;with_reducible rfl);refine pK 21 60 ?_;refine pK 22 61 ?_;refine pK 23 62 ?_
          refine done_ (by kernel_rfl) ?_
          have HOKJ:=am (rix_step HOK.out HTK.out HJN.out (by omega) (by omega) (by intro q hq;obtain rfl:q=m:=(by have:=HJ1.out;omega);rw [HP0.out];have:=H4.out;omega))
          have HX4:=am (⟨blk_drew HBX4.out,ownsMap_blk HM4.out rfl,Kd.R_drew HO4.out,below_drew1 HB4.out,blk_drew HE4.out⟩:w4.drew.heap[w.heap.size]? = some (.cells #[.slice A0 b.length c0] 66 (0,0))∧w4.drew.ownsMap Try.prog 3 (unitElem (H:=Unit)) (w.heap.size+1) j (setI (((Ht.rowsOf b n).take j).map (·.f1)))∧Kd.R k76 76 w4.drew w.heap.size (fun _=>True) (.slice (some ad) j c6) ((Ht.rowsOf b n).take j)∧Below w.heap.size w w4.drew∧w4.drew.heap[rb]? = some (.cells #[.int .u32 s1,.int .i64 s2] 76 (0,0)))
          have hkey:keyOf Try.prog 3 (.int .i64 s2)=some (.int .i64 s2):=keyOf_int_mk Try.underlying3 (WalkArith.wf_i64 (by have:=HS2.out;omega))
          clear hHeld hc0 hc1 HBX4 HM4 HO4 HB4 HE4 h1 h2 h1b h2b h3b h4b hcp hmw
          generalize w4.drew=w5 at HX4 ⊢
          have hc0:=(blk_cell HX4.out.2.2.2.2 0).trans rfl
          have hc1:=(blk_cell HX4.out.2.2.2.2 1).trans rfl
          go_wp2_with (first|((with_reducible refine gate_builtin (b:=.append) (xs:=#[.tmp 67,.tmp 69]) rfl ?_);at_builtin;refine Kd.R_append k76 (w0:=w) w.heap.size rfl (.tmp 67) (.tmp 69) 56 76 (.agg #[(.int .u32 0),(.int .i64 0)]) 16 rfl Try.underlying56 info76 rfl (by decide) (by omega) _ ((Ht.rowsOf b n).take j) (⟨s1,s2⟩:S76) [.int .u32 s1,.int .i64 s2] (fun _=>True) (fun _=>False) rfl rfl (k76_mkM _ _ _ (⟨s1,s2⟩:S76)) (fun _ hk=>hk.elim) (fun _ _=>trivial) HX6.out.2.2.1 HX6.out.2.2.2.1 HX6.out.2.2.2.1.size (by rw [HLJ.out];have:=HNB.out;have:=HJN.out;omega) ?_;intro v8 w8 ho8 hb8 hg8 hat8;have HO8:=am ho8;have HB8:=am hb8;have HG8:=am hg8;clear ho8 hb8 hg8 hat8)|(at_mapUpdate;refine wpList_mapUpdate_own _ rfl _ _ _ 105 rfl 3 106 keyed3 Try.underlying105 (unitElem (H:=Unit)) (w.heap.size+1) j _ rfl HX4.out.2.1 (by have:=HNB.out;have:=HJN.out;unfold maxLen;omega) _ _ _ rfl rfl hkey _ [] unitElem_mk ?_;intro w6 hown1 hgrow1;have HX6:=am (⟨blk_grown HX4.out.1 hgrow1 (by simp),hown1,Kd.R_grown1 HX4.out.2.2.1 rfl hgrow1 (fun ee=>ownsMap_off HX4.out.2.1 HX4.out.2.2.1 ee.symm),HX4.out.2.2.2.1.grown hgrow1 HX4.out.2.2.2.1.size (fun q hq=>by cases hq;omega),blk_grown HX4.out.2.2.2.2 hgrow1 (by simp;have:=HRB.out;omega)⟩:w6.heap[w.heap.size]? = some (.cells #[.slice A0 b.length c0] 66 (0,0))∧w6.ownsMap Try.prog 3 (unitElem (H:=Unit)) (w.heap.size+1) (j+1) ((setI (((Ht.rowsOf b n).take j).map (·.f1))).put (.int .i64 s2) (.agg []))∧Kd.R k76 76 w6 w.heap.size (fun _=>True) (.slice (some ad) j c6) ((Ht.rowsOf b n).take j)∧Below w.heap.size w w6∧w6.heap[rb]? = some (.cells #[.int .u32 s1,.int .i64 s2] 76 (0,0)));clear hown1 hgrow1;clear hc0 hc1;have hc0:=(blk_cell HX6.out.2.2.2.2 0).trans rfl;have hc1:=(blk_cell HX6.out.2.2.2.2 1).trans rfl))
          have hw:wrap64 ((j:Int)+1)=((j+1:Nat):Int):=by have:=HN.out;have:=HJN.out;unfold wrap64;omega
          go_roundw
          case rel=>exact ⟨j+1,by rw [hw],⟨HJN.out⟩,HOKJ,⟨blk_grown HX6.out.1 HG8.out (Kd.R_ne HX6.out.2.2.1 HX6.out.1 (by decide))⟩,⟨ownsMap_blk (by rw [HTK.out,List.map_append,List.map_singleton,setI_snoc];exact HX6.out.2.1) (HG8.out.block _ HX6.out.2.1.lt (fun ee=>ownsMap_off HX6.out.2.1 HX6.out.2.2.1 ee.symm))⟩,⟨by rw [HTK.out];exact HO8.out⟩,HB8⟩
          case measure=>rw [hw];show n - (((j+1:Nat):Int)).toNat < n - ((j:Int)).toNat;have:=HJN.out;omega
     ·obtain rfl:j=n:=by have:=HJ.out;omega
      have hjb:decide (j < j)=false:=decide_eq_false (by omega)
      have htl:(Ht.rowsOf b j).take j=Ht.rowsOf b j:=List.take_of_length_le (by rw [Ht.rowsOf_len];exact Nat.le_refl _)
      have ho:=HO.out
      have hm:=HM.out
      have hok:=HOK.out
      unfold rixOk at hok
      rw [htl] at ho hm hok
      have HLJ:=am (Ht.rowsOf_len b j)
      obtain ⟨A6,c6,ev6,hc6,hr6⟩:=Kd.R_reads ho
      rw [HLJ.out] at ev6 hc6 hr6
      subst ev6
      obtain ⟨ad,ead,hcp,-⟩:=at_T76 hr6 0 (by decide) (by have:=HNB.out;omega)
      cases ead
      obtain ⟨p0,hp0⟩:∃ p0,(rd_T76 (Ht.rowsOf b j) 0).f0=p0:=⟨_,rfl⟩
      rw [hp0] at hcp
      have HP0:=am (show (Ht.rowAt b 0).f0=p0 by
       rw [← hp0,← Ht.rowsOf_get (b:=b) (n:=j) (i:=0) (by rw [Ht.rowsOf_len];have:=HNB.out;omega),← Ht.rdR_get]
       rfl)
      have hlen:=hm.len Try.underlying105 3
      rw [setI_size] at hlen
      obtain ⟨M,hM⟩:∃ M,(((Ht.rowsOf b j).map (·.f1)).map (Lit.int .i64)).foldl addKey []=M:=⟨_,rfl⟩
      rw [hM] at hlen
      have HMLEN:=am (show Go.Maps.size (setI ((Ht.rowsOf b j).map (·.f1)))=M.length by rw [setI_size,hM])
      have HMM:=am (show M.length=j↔((Ht.rowsOf b j).map (·.f1)).Nodup by
       have h:=(foldKey ((Ht.rowsOf b j).map (·.f1)) [] (by simp)).2
       rw [List.map_nil,hM,List.length_nil,Nat.zero_add,List.length_map,Ht.rowsOf_len,List.nil_append] at h
       exact h)
      have HOK2:=am hok
      have HO2:=am ho
      have HM2:=am hm
      have HR6:=am hr6
      have HC6:=am hc6
      clear hp0 hM hok ho hm hr6 hc6 HO HM HOK HJ;go_wp2
      have hcb:=kC HBX 0
      have hj0:0 < j:=by have:=HNB.out;omega
      by_cases h5:p0=0
      ·have h5b:(p0 != 0)=false:=bne_eq_false_iff_eq.2 h5
       by_cases h6:M.length=j
       ·have h6b:((M.length:Int) != (j:Int))=false:=bne_eq_false_iff_eq.2 (by omega)
        obtain ⟨k,hk⟩:=(Ht.ix_ev (Ht.rowsOf b j) (by rw [HLJ.out];have:=HNB.out;omega) (fun r hr=>by
         unfold Ht.rowsOf at hr
         obtain ⟨i,_,rfl⟩:=List.mem_map.1 hr
         exact ⟨Ht.num4_lt HY.out _,Ht.num4_lt HY.out _⟩)).rounds
        have hcix:=htree_index.calls k (some ad) c6 (Ht.rowsOf b j) (Ht.ixB (Ht.rowsOf b j)) wr.drew (by rw [HLJ.out];exact Kd.C_drew HR6.out) (by rw [HLJ.out];exact HC6.out) hk
        rw [HLJ.out] at hcix
        have HCIX:=am hcix
        obtain ⟨X,hX⟩:∃ X,Ht.ixB (Ht.rowsOf b j)=X:=⟨_,rfl⟩
        have HXB:=am (show ∀ x∈X,Od.isByte x from hX ▸ Ht.ixB_byte _)
        rw [hX] at HCIX
        have hall:∀ W':World,Below wr.heap.size wr W'→W'.cell? ad=some (.int .u32 p0)∧W'.cell? ⟨w.heap.size,0,none⟩=some (.slice A0 b.length c0)∧(Builtin.len_ #[105] 3 #[.map (some (w.heap.size+1))]).run Try.prog W'=.ok (.int .i64 (M.length:Int)) W':=fun W' hb=>⟨(hb.cell (World.block_lt_of_cell? _ _ hcp)).trans hcp,(hb.cell (World.block_lt_of_cell? _ _ hcb)).trans hcb,by
         have:=(ownsMap_blk HM2.out (hb.block _ HM2.out.lt)).len Try.underlying105 3
         rw [HMLEN.out] at this
         exact this⟩
        have HALL:=am hall
        have hb0:=below_drew1 (Below.refl wr.heap.size wr)
        obtain ⟨q,hq⟩:∃ q,((strOfNums X).toList==(strOfNums b).toList)=q:=⟨_,rfl⟩
        have HQ:=am (show bytes_Equal.f X b=some q by unfold bytes_Equal.f;rw [hq])
        have HQX:=am (show q=decide (X=b) by
         rw [← hq,Od.str_beq]
         exact decide_eq_decide.2 (Od.strOfNums_inj HXB.out HY.out))
        have H56:=am (⟨h5,h6,hX⟩:p0=0∧M.length=j∧Ht.ixB (Ht.rowsOf b j)=X)
        clear hcix hk hX hall hq h5 h6 hlen
        refine start_ (n:=18) (S:=fun w'=>Below wr.heap.size wr w'∧w'.cell? ad=some (.int .u32 p0)∧w'.cell? ⟨w.heap.size,0,none⟩=some (.slice A0 b.length c0)∧(Builtin.len_ #[105] 3 #[.map (some (w.heap.size+1))]).run Try.prog w'=.ok (.int .i64 (M.length:Int)) w') (ds:=[]) _ (by kernel_rfl) rfl rfl ⟨hb0,(HALL.out _ hb0).1,(HALL.out _ hb0).2.1,(HALL.out _ hb0).2.2⟩ (fun hHeld=>?_)
        refine pK 0 72 ?_;refine pK 1 73 ?_;refine pK 2 74 ?_;refine tK 3 75 hHeld ?_ (hy:=by rintro w' ⟨s0,s1,s2,s3⟩;go_simp;with_reducible rfl);refine pK 4 76 ?_;refine pK 5 77 ?_;refine pK 6 78 ?_;refine pK 8 80 ?_;refine tK 7 79 hHeld ?_ (hy:=by rintro w' ⟨s0,s1,s2,s3⟩;go_simp;with_reducible rfl);refine pK 9 81 ?_;refine pK 10 82 ?_;refine pK 11 83 ?_;refine pK 12 84 ?_;refine tK 14 86 hHeld ?_ (hy:=by rintro w' ⟨s0,s1,s2,s3⟩;go_simp;with_reducible rfl)
        refine oK 13 (some 85) (fun K hK=>?_)
        refine gS Try.func55 #[.slice (some ad) j c6] ?_
        with_reducible refine (HCIX.out).mono ?_
        rintro e9 w9 ⟨v9,rfl,ho9,hb9⟩
        refine ⟨_,rfl,?_⟩
        obtain ⟨A9,c9,rfl,hc9,hr9⟩:=Kd.R_reads ho9
        have HR9:=am hr9
        have HC9:=am hc9
        have hb9:=hb0.trans (hb9.mono hb0.size)
        clear ho9 hr9 hc9
        refine hK.out _ _ ⟨hb9,(HALL.out _ hb9).1,(HALL.out _ hb9).2.1,(HALL.out _ hb9).2.2⟩ (fun hHeld=>?_)
        clear hK K;refine norm_ (a':=?_) ?_ ?_;rotate_left
        ·show Act.put _ (some 85) _=_
         simp only [Act.put,sIb,sC0,sCs,i64_w,i32_w];rfl
        refine oK 15 (some 87) (fun K hK=>?_)
        refine gS Try.func61 #[.slice A9 X.length c9,.slice A0 b.length c0] ?_
        with_reducible refine (bytes_Equal.calls A9 c9 X A0 c0 b q _ HR9.out HC9.out (Kd.C_below HR0.out (HB.out.trans (hb9.mono HB.out.size))) HC0.out HQ.out).mono ?_
        rintro e10 w10 ⟨rfl,⟨m10,rfl⟩⟩
        refine ⟨_,rfl,?_⟩
        have hb10:=pw_below_drewN hb9 m10
        refine hK.out _ _ ⟨hb10,(HALL.out _ hb10).1,(HALL.out _ hb10).2.1,(HALL.out _ hb10).2.2⟩ (fun hHeld=>?_)
        clear hK K;refine norm_ (a':=?_) ?_ ?_;rotate_left
        ·show Act.put _ (some 87) _=_
         simp only [Act.put,sIb,sC0,sCs,i64_w,i32_w];rfl
        refine pK 16 88 ?_;refine pK 17 89 ?_
        refine done_ (by kernel_rfl) ?_
        have HB10:=am hb10
        clear hHeld hb10 hb9 hb0 hcp hcb
        cases q with
        | true =>
         have hXb:X=b:=of_decide_eq_true HQX.out.symm
         have hx:Ht.ixP b j=some (Ht.rowsOf b j):=by
          unfold Ht.ixP
          rw [if_pos ⟨HL.out,HNB.out.1,HNB.out.2,HOK2.out,by rw [HP0.out];exact H56.out.1,HMM.out.1 H56.out.2.1,by rw [H56.out.2.2];exact hXb⟩]
         clear hXb;go_wp2;go_ret
         exact ⟨_,rfl,HB.out.trans (HB10.out.mono HB.out.size),by rw [hx];exact Kd.R_below HO2.out HB10.out⟩
        | false =>
         have hXb:¬ X=b:=of_decide_eq_false HQX.out.symm
         have hx:Ht.ixP b j=none:=by
          unfold Ht.ixP
          rw [if_neg (fun h=>hXb (by rw [← H56.out.2.2];exact h.2.2.2.2.2.2))]
         clear hXb;go_wp2;go_ret
         exact rix_none hx (HB.out.trans (HB10.out.mono HB.out.size))
       ·have h6b:((M.length:Int) != (j:Int))=true:=bne_iff_ne.2 (by omega)
        have hx:Ht.ixP b j=none:=by unfold Ht.ixP;rw [if_neg (fun h=>h6 (HMM.out.2 h.2.2.2.2.2.1))]
        have hb0:=below_drew1 (Below.refl wr.heap.size wr)
        have hlenW:(Builtin.len_ #[105] 3 #[.map (some (w.heap.size+1))]).run Try.prog wr.drew=.ok (.int .i64 (M.length:Int)) wr.drew:=by
         have:=(ownsMap_blk HM2.out (hb0.block _ HM2.out.lt)).len Try.underlying105 3
         rw [HMLEN.out] at this
         exact this
        clear hlen h5 h6 hb0
        refine start_ (n:=18) (S:=fun w'=>w'.cell? ad=some (.int .u32 p0)∧(Builtin.len_ #[105] 3 #[.map (some (w.heap.size+1))]).run Try.prog w'=.ok (.int .i64 (M.length:Int)) w') (ds:=[]) _ (by kernel_rfl) rfl rfl ⟨hcp,hlenW⟩ (fun hHeld=>?_)
        refine pK 0 72 ?_;refine pK 1 73 ?_;refine pK 2 74 ?_;refine tK 3 75 hHeld ?_ (hy:=by rintro w' ⟨s0,s1⟩;go_simp;with_reducible rfl);refine pK 4 76 ?_;refine pK 5 77 ?_;refine pK 6 78 ?_;refine pK 8 80 ?_;refine tK 7 79 hHeld ?_ (hy:=by rintro w' ⟨s0,s1⟩;go_simp;with_reducible rfl);refine pK 9 81 ?_;refine pK 10 82 ?_;refine pK 11 83 ?_;refine uK 12 84 ?_;refine uK 13 85 ?_;refine uK 14 86 ?_;refine uK 15 87 ?_;refine uK 16 88 ?_;refine pK 17 89 ?_
        refine done_ (by kernel_rfl) ?_
        go_wp2;go_ret
        exact rix_none hx (below_drew1 HB.out)
      ·have h5b:(p0 != 0)=true:=bne_iff_ne.2 h5
       have hx:Ht.ixP b j=none:=by unfold Ht.ixP;rw [if_neg (fun h=>h5 (HP0.out.symm.trans h.2.2.2.2.1))]
       clear hlen h5
       refine start_ (n:=18) (S:=fun w'=>w'.cell? ad=some (.int .u32 p0)) (ds:=[]) _ (by kernel_rfl) rfl rfl (hcp) (fun hHeld=>?_)
       refine pK 0 72 ?_;refine pK 1 73 ?_;refine pK 2 74 ?_;refine tK 3 75 hHeld ?_ (hy:=by intro w' s0;go_simp;with_reducible rfl);refine pK 4 76 ?_;refine pK 5 77 ?_;refine uK 6 78 ?_;refine uK 7 79 ?_;refine uK 8 80 ?_;refine uK 9 81 ?_;refine pK 10 82 ?_;refine pK 11 83 ?_;refine uK 12 84 ?_;refine uK 13 85 ?_;refine uK 14 86 ?_;refine uK 15 87 ?_;refine uK 16 88 ?_;refine pK 17 89 ?_
       refine done_ (by kernel_rfl) ?_
       go_wp2;go_ret
       exact rix_none hx (below_drew1 HB.out)
 ·have hx:Ht.ixP b n=none:=by unfold Ht.ixP;rw [if_neg (fun h=>hl h.1)]
  have hlb:((b.length:Int) != 256)=true:=bne_iff_ne.2 (by omega)
  clear hl
  go_enter Try.func32,Try.ntmps32
  go_wp2;go_ret
  exact rix_none hx ((Below.refl _ _).alloc (Nat.le_refl _) _)
end Go.Proofs.Yteglhbfhibfodaa.Pr
end
section
namespace Go.Proofs.Yteglhbfhibfodaa.RwR
open Go.RowKit Go.Proofs.YteglhbfhibfodaaW.PrintWords Go.Proofs.YteglhbfhibfodaaW.PrintLast Go.Proofs.YteglhbfhibfodaaW.PrintMore Go.Proofs.Yteglhbfhibfodaa.Pr
set_option linter.unusedVariables false
set_option linter.unusedSimpArgs false
abbrev E := S76
def cells2 (e : E) : List Value := [.int .u32 e.f0, .int .i64 e.f1]
def flat (xs : List E) : List Value := xs.flatMap cells2
theorem flat_cons (e : E) (xs : List E) : flat (e :: xs) = cells2 e ++ flat xs := rfl
theorem flat_append (a b : List E) : flat (a ++ b) = flat a ++ flat b := by unfold flat; rw [List.flatMap_append]
theorem flat_len : ∀ xs : List E, (flat xs).length = xs.length * 2
  | [] => rfl
  | e :: xs => by rw [flat_cons, List.length_append, flat_len xs, List.length_cons]; simp [cells2]; omega
theorem flat_take : ∀ (xs : List E) (n : Nat), flat (xs.take n) = (flat xs).take (n * 2)
  | [], n => by simp [flat]
  | e :: xs, 0 => by simp [flat]
  | e :: xs, n + 1 => by
    rw [List.take_succ_cons, flat_cons, flat_cons, flat_take xs n, show (n + 1) * 2 = (cells2 e).length + n * 2 by simp [cells2]; omega, List.take_length_add_append]
theorem flat_drop : ∀ (xs : List E) (n : Nat), flat (xs.drop n) = (flat xs).drop (n * 2)
  | [], n => by simp [flat]
  | e :: xs, 0 => by simp
  | e :: xs, n + 1 => by
    rw [List.drop_succ_cons, flat_cons, flat_drop xs n, show (n + 1) * 2 = (cells2 e).length + n * 2 by simp [cells2]; omega, List.drop_length_add_append]
theorem flat_of : ∀ (xs : List E) (inner : List Value), inner.length = xs.length * 2 → (∀ j p, xs[j]? = some p → (inner.drop (j * 2)).take 2 = cells2 p) → inner = flat xs
  | [], inner, hl, _ => List.eq_nil_of_length_eq_zero (by simpa using hl)
  | e :: xs, inner, hl, h => by
    have h0 := h 0 e rfl
    rw [Nat.zero_mul, List.drop_zero] at h0
    have hr := flat_of xs (inner.drop 2) (by rw [List.length_drop, hl, List.length_cons]; omega) (fun j p hj => by
      have := h (j + 1) p (by simpa using hj)
      rw [List.drop_drop, show 2 + j * 2 = (j + 1) * 2 by omega]
      exact this)
    rw [flat_cons, ← h0, ← hr, List.take_append_drop]
theorem flat_at : ∀ (xs : List E) (j : Nat) (p : E), xs[j]? = some p → ((flat xs).drop (j * 2)).take 2 = cells2 p
  | e :: xs, 0, p, h => by
    simp only [List.getElem?_cons_zero, Option.some.injEq] at h
    subst h
    rw [Nat.zero_mul, List.drop_zero, flat_cons, List.take_append_of_le_length (by simp [cells2]), List.take_of_length_le (by simp [cells2])]
  | e :: xs, j + 1, p, h => by
    rw [← flat_drop, List.drop_succ_cons, flat_drop]
    exact flat_at xs j p (by simpa using h)
theorem flat_one : ∀ (xs : List E), ∀ v ∈ flat xs, v.oneCell' = true := by
  intro xs v hv
  obtain ⟨e, _, h⟩ := List.mem_flatMap.1 hv
  simp only [cells2, List.mem_cons, List.not_mem_nil, or_false] at h
  rcases h with rfl | rfl <;> rfl
theorem R_flat {w : World} {base : Nat} {ok : Nat → Prop} {v : Value} {xs : List E} (h : Kd.R k76 76 w base ok v xs) : w.ownsRow base 76 2 v xs.length (flat xs) := by
  obtain ⟨h0, inner, ho, hr⟩ := h
  have : inner = flat xs := flat_of xs inner hr.1 (fun j p hj => k76_openM (hr.2 j p hj))
  rw [← this]; exact ho
theorem flat_R {w : World} {base : Nat} {ok : Nat → Prop} {v : Value} {xs : List E} (ho : w.ownsRow base 76 2 v xs.length (flat xs)) (hok : ∀ k, v.ownBlock = some k → ok k) : Kd.R k76 76 w base ok v xs :=
  ⟨hok, flat xs, ho, flat_len xs, fun j p hj => by rw [show k76.sz = 2 from rfl, flat_at xs j p hj]; exact k76_mkM _ _ _ p⟩
theorem run_copy_cells {P : Program} (w : World) (dT sT ty elem : TypeId) (g o dLen dCap : Nat) (a : Addr) (sLen sCap : Nat) (cur : Array Value) (t : TypeId) (cs : List Value) (n sz : Nat)
    (hu : P.underlying dT = some (.slice elem)) (hs : (P.info? elem).map (·.size) = some sz)
    (hg : w.heap[g]? = some (.cells cur t (0, 0))) (hn : n = Nat.min sLen dLen) (hcl : cs.length = n * sz)
    (hsrc : ∀ j v, cs[j]? = some v → w.cell? (a.add j) = some v) (hfit : o + cs.length ≤ cur.size) (h1 : ∀ v ∈ cs, v.oneCell' = true) :
    (Builtin.copy_ #[dT, sT] ty #[.slice (some ⟨g, o, none⟩) dLen dCap, .slice (some a) sLen sCap]).run P w =
      .ok (goInt n) (w.setRow g (cur.toList.take o ++ cs ++ cur.toList.drop (o + cs.length)).toArray) := by
  have hl := run_loadCells_list (P := P) w a cs hsrc
  have hst := run_storeCells_at P g o t cs 0 cur w hg (by simpa using hfit) h1
  cases hq : P.info? elem with
  | none => simp [hq] at hs
  | some i =>
    have hi : i.size = sz := by simpa [hq] using hs
    rw [hcl] at hl
    simp [Builtin.copy_, run_underlying hu, Builtin.lenOf, Builtin.firstCells, sizeOf, typeInfo, hq, hi, ← hn, hl, hst]
theorem run_clear_cells {P : Program} (w : World) (t e ty : TypeId) (z : Value) (n sz : Nat) (ht : P.underlying t = some (.slice e)) (hz : (P.info? e).map (fun i => i.zero) = some (some z)) (hzs : z.cells.size = sz) (hn : 0 < n) (g o c : Nat) (cur : Array Value) (t' : TypeId)
    (hg : w.heap[g]? = some (.cells cur t' (0, 0))) (hfit : o + n * sz ≤ cur.size) (h1 : ∀ v ∈ (Builtin.zeroCells z.cells n).toList, v.oneCell' = true) (hl : (Builtin.zeroCells z.cells n).toList.length = n * sz) :
    (Builtin.clear_ #[t] ty #[.slice (some ⟨g, o, none⟩) n c]).run P w = .ok (.tuple #[]) (w.setRow g (cur.toList.take o ++ (Builtin.zeroCells z.cells n).toList ++ cur.toList.drop (o + n * sz)).toArray) := by
  have hst := run_storeCells_at P g o t' (Builtin.zeroCells z.cells n).toList 0 cur w hg (by rw [hl]; simpa using hfit) h1
  rw [hl] at hst
  simp only [Nat.add_zero] at hst
  obtain ⟨i, hi, hiz⟩ := Option.map_eq_some_iff.1 hz
  have hv : (zeroValue e).run P w = .ok z w := by simp [zeroValue, typeInfo, hi, hiz]
  obtain ⟨m, rfl⟩ : ∃ m, n = m + 1 := ⟨n - 1, by omega⟩
  simp [Builtin.clear_, run_underlying ht, hv, hst]
section
variable {P : Program} {ops : Array Oper} {rest : List Oper} {o : Oper} {a : Act} {Q : Exit → Act → World → Prop} {Kc : Act → World → Prop}
theorem copy_step (w : World) (hw : Region.wanted o (yielded ops a.tmps) = true) (d s : Operand) (t t' : TypeId) (ho : o.op = .call { callee := .builtin .copy, args := #[d, s], argTypes := #[t, t'] }) (v u : Value) (hd : a.eval d = v) (hs : a.eval s = u) {v' : Value} {w' : World}
    (hr : (Builtin.copy_ #[t, t'] o.type #[v, u]).run P w = .ok v' w') (h : Kc (a.put o.dst v') w') : if Region.wanted o (yielded ops a.tmps) = true then Oper.wp P o a w Kc Q else Kc (a.put o.dst undef) w := by
  rw [if_pos hw]
  unfold Oper.wp execOp
  simp only [ho, resolve, invoke, builtin, Sem.run_bind, Sem.run_pure, Result.andThen_ok, List.map_toArray, List.map_cons, List.map_nil, hd, hs, hr]
  exact h
theorem append_ev (w : World) (hgd : o.guard = none) (d s : Operand) (t t' : TypeId) (ho : o.op = .call { callee := .builtin .append, args := #[d, s], argTypes := #[t, t'] }) (v u : Value) (hd : a.eval d = v) (hs : a.eval s = u) {v' : Value} {w' : World}
    (hr : (Builtin.append_ #[t, t'] o.type #[v, u]).run P w = .ok v' w') (h : wpList P ops Q rest (a.put o.dst v') w') : wpList P ops Q (o :: rest) a w := by
  refine wpList_plain hgd fun K hK => ?_
  unfold Oper.wp execOp
  simp only [ho, resolve, invoke, builtin, Sem.run_bind, Sem.run_pure, Result.andThen_ok, List.map_toArray, List.map_cons, List.map_nil, hd, hs, hr]
  exact hK _ _ h
end
theorem own_open {w : World} {base : Nat} {v : Value} {n : Nat} {cs : List Value} {e sz : Nat} (ho : w.ownsRow base e sz v n cs) (hp : 0 < n) :
    ∃ g cap cur, v = .slice (some ⟨g, 0, none⟩) n cap ∧ base ≤ g ∧ w.heap[g]? = some (.cells cur e (0, 0)) ∧ n ≤ cap ∧ cap ≤ maxLen ∧ cur.size = cap * sz ∧ cur.toList.take (n * sz) = cs := by
  rcases ho.2 with ⟨_, h0⟩ | h
  · omega
  · exact h
theorem own_at {w : World} {base : Nat} {g o n c m : Nat} {cs : List Value} {e sz : Nat} (ho : w.ownsRow base e sz (.slice (some ⟨g, o, none⟩) n c) m cs) :
    o = 0 ∧ n = m ∧ base ≤ g ∧ m ≤ c ∧ c ≤ maxLen ∧ ∃ cur : Array Value, w.heap[g]? = some (.cells cur e (0, 0)) ∧ cur.size = c * sz ∧ cur.toList.take (m * sz) = cs := by
  rcases ho.2 with ⟨h, _⟩ | ⟨g', cap, cur, h, hb, hg, hnc, hcm, hcs, htk⟩
  · cases h
  · injection h with h1 h2 h3
    injection h1 with h1
    injection h1 with h1 h4
    subst h1; subst h2; subst h3
    exact ⟨h4, rfl, hb, hnc, hcm, cur, hg, hcs, htk⟩
theorem R_turn {w : World} {base : Nat} {ok : Nat → Prop} {g n c : Nat} {xs ys : List E} (h : Kd.R k76 76 w base ok (.slice (some ⟨g, 0, none⟩) n c) xs) (cur new : Array Value) (hg : w.heap[g]? = some (.cells cur 76 (0, 0))) (hsz : new.size = cur.size)
    (htk : new.toList.take (ys.length * 2) = flat ys) (hl : ys.length ≤ c) : Kd.R k76 76 (w.setRow g new) base ok (.slice (some ⟨g, 0, none⟩) ys.length c) ys := by
  obtain ⟨_, _, hb, _, hcm, cur', hg', hcs, _⟩ := own_at (R_flat h)
  rw [hg] at hg'
  injection hg' with hg'
  injection hg' with hg'
  subst hg'
  exact flat_R ⟨flat_len ys, .inr ⟨g, c, new, rfl, hb, setRow_heap _ _ cur _ 76 (0, 0) hg, hl, hcm, by rw [hsz, hcs], htk⟩⟩ (fun k hk => h.1 k hk)
theorem below_turn {B g : Nat} {w0 w : World} (hb : Below B w0 w) (hBg : B ≤ g) (cs : Array Value) : Below B w0 (w.setRow g cs) :=
  hb.trans ⟨rfl, rfl, rfl, by simp [World.setRow], fun k hk => setRow_other w g k cs (by omega)⟩
theorem zero_len (q : Nat) : (Builtin.zeroCells (Value.agg #[(.int .u32 0), (.int .i64 0)]).cells q).size = q * 2 := by simp [Builtin.zeroCells, Value.cells]
theorem zero_one : (Builtin.zeroCells (Value.agg #[(.int .u32 0), (.int .i64 0)]).cells 1).toList = [.int .u32 0, .int .i64 0] := by kernel_rfl
end Go.Proofs.Yteglhbfhibfodaa.RwR
end
section
namespace Go.Proofs.Yteglhbfhibfodaa.Pr
open Go.RowKit Go.Proofs.YteglhbfhibfodaaW.PrintWords Go.Proofs.YteglhbfhibfodaaW.PrintLast Go.Proofs.YteglhbfhibfodaaW.PrintMore
attribute [local go_sem] max2_int min2_int max_two min_two max_three min_three max_four min_four
attribute [local go_sem] Go.Proofs.Yteglhbfhibfodaa.Hl.str_geq Go.Proofs.Yteglhbfhibfodaa.Hl.str_gtr Go.Proofs.Yteglhbfhibfodaa.Hl.str_leq
set_option linter.unusedVariables false
set_option linter.unusedSimpArgs false
abbrev kLv:Kd (List S30):=Kd.slice 30 k30
def TreeAt (w:World) (B:Nat) (A0:Option Addr) (c0 n:Nat) (rs:List S76) (ls:List (List S30)):Prop:=∃ A1 c1 A2 c2,w.heap[B]? = some (.cells #[.slice A0 n c0,.slice A1 rs.length c1,.slice A2 ls.length c2] 58 (0,0)) ∧
 Kd.C k76 w A1 rs.length rs∧rs.length≤c1∧Kd.C kLv w A2 ls.length ls∧ls.length≤c2
theorem TreeAt.below {w w':World} {B:Nat} {A0:Option Addr} {c0 n:Nat} {rs:List S76} {ls:List (List S30)} (h:TreeAt w B A0 c0 n rs ls) (hb:Below w.heap.size w w'):TreeAt w' B A0 c0 n rs ls:=by
 obtain ⟨A1,c1,A2,c2,h1,h2,h3,h4,h5⟩:=h
 exact ⟨A1,c1,A2,c2,blk_below h1 hb,Kd.C_below h2 hb,h3,Kd.C_below h4 hb,h5⟩
def ReadSays (A0:Option Addr) (c0:Nat) (d:List (List Int)) (w:World) (e:Ending) (w':World):Prop:=Below w.heap.size w w'∧match Ht.readP d with
 | none=>e=.returned (.pointer none)
 | some (rs,ls)=>∃ B,e=.returned (.pointer (some ⟨B,0,none⟩))∧TreeAt w' B A0 c0 d.length rs ls
theorem read_none {A0:Option Addr} {c0:Nat} {d:List (List Int)} {w w':World} (h:Ht.readP d=none) (hb:Below w.heap.size w w'):ReadSays A0 c0 d w (.returned (.pointer none)) w':=⟨hb,by rw [h]⟩
def LInv (d:List (List Int)) (rs:List S76) (i:Nat) (ms:List (List S30)):Prop:=ms.length=i∧Ht.leavesP d rs=(Ht.leavesP d (rs.drop i)).map (ms++·)
theorem LInv.zero (d:List (List Int)) (rs:List S76):LInv d rs 0 []:=⟨rfl,by rw [List.drop_zero];cases Ht.leavesP d rs<;>rfl⟩
theorem LInv.step {d:List (List Int)} {rs:List S76} {i:Nat} {ms:List (List S30)} (h:LInv d rs i ms) (hi:i < rs.length) {l:List S30} (h1:Lf.decR (Ht.blk d rs[i].f1)=(l,0)) (h2:l.all (Ht.inRow rs[i] ((rs[i+1]?).map (·.f0)))=true):LInv d rs (i+1) (ms++[l]):=by
 refine ⟨by rw [List.length_append,h.1];rfl,?_⟩
 rw [h.2,List.drop_eq_getElem_cons hi]
 have e:(rs.drop (i+1)).head? = rs[i+1]? := by rw [List.head?_drop]
 conv=>lhs;unfold Ht.leavesP
 rw [h1,e,if_pos ⟨rfl,h2⟩]
 cases Ht.leavesP d (rs.drop (i+1))<;>simp
theorem LInv.bad {d:List (List Int)} {rs:List S76} {i:Nat} {ms:List (List S30)} (h:LInv d rs i ms) (hi:i < rs.length) (h1:¬ ((Lf.decR (Ht.blk d rs[i].f1)).2=0∧(Lf.decR (Ht.blk d rs[i].f1)).1.all (Ht.inRow rs[i] ((rs[i+1]?).map (·.f0)))=true)):Ht.leavesP d rs=none:=by
 rw [h.2,List.drop_eq_getElem_cons hi]
 have e:(rs.drop (i+1)).head? = rs[i+1]? := by rw [List.head?_drop]
 conv=>lhs;unfold Ht.leavesP
 rw [e,if_neg h1]
 rfl
theorem LInv.done {d:List (List Int)} {rs:List S76} {ms:List (List S30)} (h:LInv d rs rs.length ms):Ht.leavesP d rs=some ms:=by
 rw [h.2,List.drop_length,Ht.leavesP]
 simp
theorem readP_of {d:List (List Int)} {rs:List S76} (h:Ht.rowsP d=some rs):Ht.readP d=(Ht.leavesP d rs).map fun ls=>(rs,ls):=by unfold Ht.readP;rw [h];rfl
theorem all_take_succ {p:S30→Bool} {l:List S30} {q:Nat} (hq:q < l.length):(l.take (q+1)).all p=((l.take q).all p&&p l[q]):=by
 rw [List.take_succ_eq_append_getElem hq,List.all_append];simp
theorem slot_abs {P:Program} {c:Code} {Q:Exit→Act→World→Prop} {a:Act} {w:World} (i:Nat) (v:Value) (hv:a.tmps[i]? = some v) (h:∀ V,V=v→c.wp P Q { a with tmps:=a.tmps.setIfInBounds i V } w):c.wp P Q a w:=by
 have h1:=h v rfl
 have h2:a.tmps.setIfInBounds i v=a.tmps:=by
  obtain ⟨hi,hv2⟩:=Array.getElem?_eq_some_iff.1 hv
  refine Array.ext (by simp) (fun j h3 h4=>?_)
  rw [Array.getElem_setIfInBounds h4]
  split
  ·next e=>subst e;exact hv2.symm
  (rfl)
 rw [h2] at h1
 exact h1
theorem row_at {w:World} {A:Option Addr} {n:Nat} {xs:List (List Int)} (h:Kd.C (Kd.slice 5 (Kd.int .u8)) w A n xs) (i:Int) (h0:0≤i) (h1:i < n):∃ ad A0 c0,A=some ad∧w.cell? (ad.add i.toNat)=some (.slice A0 (xs.getD i.toNat []).length c0)∧(xs.getD i.toNat []).length≤c0∧(Kd.int .u8).C w A0 (xs.getD i.toNat []).length (xs.getD i.toNat []):=by
 first|exact at_L6 h i h0 h1|exact at_L5 h i h0 h1|exact at_L4 h i h0 h1|exact at_L7 h i h0 h1|exact at_L8 h i h0 h1|exact at_L9 h i h0 h1|exact at_L10 h i h0 h1
set_option maxHeartbeats 8000000 in
set_option maxRecDepth 100000 in
theorem read_calls (A0:Option Addr) (c0:Nat) (d:List (List Int)) (w:World) (hr0:Kd.C (Kd.slice 5 (Kd.int .u8)) w A0 d.length d) (hc0:d.length≤c0) (hd:Ht.bytesD d) (hl:d.length < 5864062014805) :
  Calls Try.prog 18 #[.slice A0 d.length c0] w (ReadSays A0 c0 d w):=by
 have HR0:=am hr0
 have HC0:=am hc0
 have HD:=am hd
 have HL:=am hl
 clear hr0 hc0 hd hl
 by_cases hz:d.length=0
 ·have hx:Ht.readP d=none:=by obtain rfl:=List.eq_nil_of_length_eq_zero hz;rfl
  have hzb:((d.length:Int)==0)=true:=beq_iff_eq.2 (by omega)
  clear hz
  go_enter Try.func18,Try.ntmps18
  go_wp2;go_ret
  exact read_none hx (((Below.refl _ _).alloc (Nat.le_refl _) _).alloc (by simp) _)
 ·by_cases ho:d.length=1
  ·have hrp:Ht.rowsP d=some [⟨0,0⟩]:=by
    obtain ⟨b,rfl⟩:=List.length_eq_one_iff.1 ho
    rfl
   have hzb:((d.length:Int)==0)=false:=beq_eq_false_iff_ne.2 (by omega)
   have hob:((d.length:Int)==1)=true:=beq_iff_eq.2 (by omega)
   clear hz ho
   have hTL:=blk_new (w.alloc (.cells #[.int .u32 0,.int .i64 0] 76)) (.cells #[.slice A0 d.length c0,.slice (some ⟨w.heap.size,0,none⟩) 1 1,.slice none 0 0] 58)
   rw [World.size_alloc] at hTL
   have hRL:Kd.R k76 76 ((w.alloc (.cells #[.int .u32 0,.int .i64 0] 76)).alloc (.cells #[.slice A0 d.length c0,.slice (some ⟨w.heap.size,0,none⟩) 1 1,.slice none 0 0] 58)) w.heap.size (fun _=>True) (.slice (some ⟨w.heap.size,0,none⟩) 1 1) [⟨0,0⟩]:=Kd.R_alloc (RwR.flat_R (World.ownsRow_lit (size:=2) w #[.int .u32 0,.int .i64 0] 1 (Nat.le_refl _) (by decide) rfl) (fun _ _=>trivial)) _
   have hBL:Below w.heap.size w ((w.alloc (.cells #[.int .u32 0,.int .i64 0] 76)).alloc (.cells #[.slice A0 d.length c0,.slice (some ⟨w.heap.size,0,none⟩) 1 1,.slice none 0 0] 58)):=((Below.refl _ _).alloc (Nat.le_refl _) _).alloc (by simp) _
   have hBw:w.heap.size≤w.heap.size+1:=Nat.le_succ _
   obtain ⟨rs,hrs⟩:∃ rs:List S76,[⟨0,0⟩]=rs:=⟨_,rfl⟩
   have H1L:=am (show 1=rs.length by rw [← hrs];rfl)
   rw [hrs] at hrp hRL
   have HRP:=am hrp
   have HOKR:=am (Ht.rowsP_ok HD.out hrp)
   have HTL:=am hTL
   have HRL:=am hRL
   have HBL:=am hBL
   have HBw:=am hBw
   clear hrp hTL hRL hBL hBw hrs
   go_enter Try.func18,Try.ntmps18
   go_wp2
   refine slot_abs 40 (.slice (some ⟨w.heap.size,0,none⟩) 1 1) rfl (fun V40 h40=>?_)
   refine slot_abs 41 (.int .i64 1) rfl (fun V41 h41=>?_)
   simp only [List.setIfInBounds_toArray,List.set_cons_succ,List.set_cons_zero]
   obtain ⟨A1,hA1⟩:∃ A1:Option Addr,A1=some ⟨w.heap.size,0,none⟩:=⟨_,rfl⟩
   obtain ⟨c1,hc1⟩:∃ c1:Nat,c1=1:=⟨_,rfl⟩
   have HA1:=am (⟨hA1,hc1⟩:A1=some ⟨w.heap.size,0,none⟩∧c1=1)
   clear hA1 hc1
   replace h40:V40=.slice A1 rs.length c1:=h40.trans (by rw [HA1.out.1,HA1.out.2,← H1L.out])
   replace h41:V41=.int .i64 (rs.length:Int):=h41.trans (by rw [← H1L.out];rfl)
   subst h40
   subst h41
   go_loopw [42] (fun i wr=>∃ (j:Nat) (v:Value) (ms:List (List S30)),i=.int .i64 (j:Int)∧Aside0 (j≤rs.length)∧Aside0 (LInv d rs j ms)∧Aside0 (wr.heap[w.heap.size+1]? = some (.cells #[.slice A0 d.length c0,.slice A1 rs.length c1,v] 58 (0,0)))∧Aside0 (Kd.R k76 76 wr w.heap.size (fun _=>True) (.slice A1 rs.length c1) rs)∧Aside0 (Kd.S kLv 26 wr w.heap.size (fun _=>True) v ms)∧Aside0 (Below w.heap.size w wr)) (fun i _=>rs.length - (intOf i).toNat)
   case atStart=>exact ⟨0,_,[],rfl,⟨Nat.zero_le _⟩,⟨LInv.zero d rs⟩,⟨by rw [HA1.out.1,HA1.out.2,← H1L.out];exact HTL.out⟩,⟨by rw [HA1.out.1,HA1.out.2,← H1L.out];exact HRL.out⟩,⟨Kd.S_nil _ _ _ _ _⟩,HBL⟩
   case round =>
    obtain ⟨j,v,ms,rfl,HJ,HI,HT,HR,HS,HB⟩:=hrel
    clear HTL HRL HBL HA1
    by_cases hj:j < rs.length
    ·have hjb:decide (j < rs.length)=true:=decide_eq_true hj
     have HJN:=am hj
     have HBK:=am (HOKR.out.blk rs[j] (List.getElem_mem hj))
     obtain ⟨ad,ead,hcs,hcbl⟩:=at_T76 (Kd.R_reads' HR.out).2.2 (j:Int) (by omega) (by omega)
     cases ead
     rw [Int.toNat_natCast,Ht.rdR_get hj] at hcs hcbl
     obtain ⟨s0,hs0⟩:∃ s0,rs[j].f0=s0:=⟨_,rfl⟩
     obtain ⟨bl,hbl⟩:∃ bl,rs[j].f1=bl:=⟨_,rfl⟩
     rw [hs0] at hcs
     rw [hbl] at hcbl HBK
     have HS0:=am hs0
     have HBL:=am hbl
     clear hs0 hbl
     have hbe:=HB.out.alloc HB.out.size (.cells #[.int .u32 s0,.int .i64 bl] 76)
     obtain ⟨adD,A5,c5,ead,hcx,hl5,hr5⟩:=row_at (Kd.C_below HR0.out hbe) bl HBK.out.1 HBK.out.2
     cases ead
     have HDB:=am (show Ht.blk d bl=d.getD bl.toNat [] from rfl)
     obtain ⟨b,hb⟩:∃ b,d.getD bl.toNat []=b:=⟨_,rfl⟩
     rw [hb] at hcx hl5 hr5 HDB
     have HBY:=am (show ∀ x∈b,Od.isByte x from hb ▸ HD.out _ (by rw [Ht.getD_at (by have:=HBK.out;omega)];exact List.getElem_mem _))
     have HR5:=am hr5
     have HL5:=am hl5
     have hblb:bl < (d.length:Int):=HBK.out.2
     have hbl0:0≤bl:=HBK.out.1
     clear hb hbe hr5 hl5
     obtain ⟨⟨l,e0⟩,hle⟩:∃ p,Lf.decR b=p:=⟨_,rfl⟩
     obtain ⟨k,hk⟩:=(Lf.dec_ev b HBY.out).rounds
     rw [hle] at hk
     have HK:=am hk
     have HLE:=am (show Lf.decR (Ht.blk d rs[j].f1)=(l,e0) by rw [HBL.out,HDB.out];exact hle)
     have he4:=blk_new wr (.cells #[.int .u32 s0,.int .i64 bl] 76)
     have HE4:=am he4
     clear hk hle he4
     by_cases h0:e0=0
     ·subst h0
      go_wp2_with ((go_at_call 33;refine (leaf_Decode.calls k A5 c5 b l _ _ HR5.out HL5.out HK.out).mono ?_;rintro e5 w5 ⟨u,rfl,ho5,hb5⟩;obtain ⟨A6,c6,rfl,hc6,hr6⟩:=Kd.R_reads ho5;have HO5:=am ho5;have HR6:=am hr6;have HW5:=am hb5;clear ho5 hc6 hr6 hb5))
      have HB5w:=am (show Below wr.heap.size wr w5 from ((Below.refl _ _).alloc (Nat.le_refl _) _).trans (HW5.out.mono (by simp)))
      have HE5:=am (blk_below HE4.out HW5.out)
      have HT5:=am (blk_below HT.out HB5w.out)
      have HRR5:=am (Kd.R_below HR.out HB5w.out)
      have HS5:=am (Kd.S_old HS.out HB5w.out)
      have HB5:=am (HB.out.trans (HB5w.out.mono HB.out.size))
      have HOL:=am (Kd.R_mono (ok':=fun k=>wr.heap.size≤k) (Kd.R_bound HO5.out) (fun k hk=>by have:=hk.2.1;simp at this;omega))
      have HRT:=am (show ∀ x∈l,Lf.okE x=true by
       have h:=Lf.decR_ok (b:=b) (by rw [← HDB.out,← HBL.out,HLE.out])
       rw [← HDB.out,← HBL.out,HLE.out] at h
       exact Ht.right_ok l _ (Lf.encR_iff.1 h.1).1)
      obtain ⟨nx,hnx⟩:∃ nx,(rs[j+1]?).map (fun r=>r.f0)=nx:=⟨_,rfl⟩
      have HNX:=am hnx
      have HEB:=am (show ∃ eb:Nat,wr.heap.size=eb from ⟨_,rfl⟩)
      obtain ⟨eb,heb⟩:=HEB.out
      replace HEB:=am heb
      rw [heb] at HE5 HOL ⊢
      clear heb;clear hnx hcs hcbl hcx HW5 HR5 HE4 HR hblb hbl0 hjb
      go_loopw [60] (fun i w'=>∃ q:Nat,i=.int .i64 (q:Int)∧Aside0 (q≤l.length)∧Aside0 ((l.take q).all (Ht.inRow rs[j] nx)=true)∧Aside0 (Below w5.heap.size w5 w')) (fun i _=>l.length - (intOf i).toNat)
      case atStart=>exact ⟨0,rfl,⟨Nat.zero_le _⟩,⟨rfl⟩,⟨Below.refl _ _⟩⟩
      case round =>
       obtain ⟨q,rfl,HQ,HQA,HQB⟩:=hrel
       by_cases hq:q < l.length
       ·have hqb:decide (q < l.length)=true:=decide_eq_true hq
        have HQN:=am hq
        obtain ⟨ad6,ead,hcm,hci⟩:=at_T30 HR6.out (q:Int) (by omega) (by omega)
        cases ead
        rw [Int.toNat_natCast,Lf.rdT_get hq] at hcm hci
        obtain ⟨nm,hnm⟩:∃ nm,l[q].f0=nm:=⟨_,rfl⟩
        obtain ⟨no,hno⟩:∃ no,l[q].f1=no:=⟨_,rfl⟩
        rw [hnm] at hcm
        rw [hno] at hci
        replace hcm:=(HQB.out.cell (World.block_lt_of_cell? _ _ hcm)).trans hcm
        replace hci:=(HQB.out.cell (World.block_lt_of_cell? _ _ hci)).trans hci
        have hsz:nm.size < 512:=by have:=Lf.okE_size (HRT.out _ (List.getElem_mem hq));rw [hnm] at this;omega
        obtain ⟨k2,hk2⟩:=(Ht.sum_ev nm hsz).rounds
        obtain ⟨sm,hsm⟩:∃ sm,Ht.sumN nm=sm:=⟨_,rfl⟩
        rw [hsm] at hk2
        have HK2:=am hk2
        have HSM:=am (show Ht.sumN l[q].f0=sm by rw [hnm,hsm])
        have HWQ:=am (show wrap64 ((q:Int)+1)=((q+1:Nat):Int) by
         have h:=Lf.decR_ok (b:=b) (by rw [← HDB.out,← HBL.out,HLE.out])
         rw [← HDB.out,← HBL.out,HLE.out] at h
         have h5:=Ht.leaf_len (Lf.encR_iff.1 h.1)
         change l.length≤41 at h5
         have:=HQ.out
         unfold wrap64;omega)
        clear hnm hno hsz hk2 hsm
        have HRJ:=am (HOKR.out.high)
        by_cases hlo:sm < s0
        ·have hlob:decide (sm < s0)=true:=decide_eq_true hlo
         have HLO:=am hlo
         clear hlo
         have HX:=am (show Ht.readP d=none by
          rw [readP_of HRP.out,HI.out.bad HJN.out (by
           rw [HLE.out,HNX.out]
           rintro ⟨_,h9⟩
           have h8:=List.all_eq_true.1 h9 _ (List.getElem_mem HQN.out)
           unfold Ht.inRow at h8
           rw [HSM.out,HS0.out] at h8
           simp only [Bool.and_eq_true,decide_eq_true_eq] at h8
           have:=HLO.out;omega)]
          rfl)
         go_wp2_with ((go_at_call 34;refine (htree_sum.calls k2 nm sm _ HK2.out).mono ?_;rintro e6 w6 ⟨rfl,hb6⟩;have hb56:Below w5.heap.size w5 w6:=(HQB.out.alloc HQB.out.size _).trans (hb6.mono (by have:=HQB.out.size;simp;omega));have hce:=(blk_cell (blk_below HE5.out hb56) 0).trans rfl;have hcB:=(blk_cell (blk_below HT5.out hb56) 1).trans rfl;have HB56:=am hb56;clear hb6 hb56))
         go_ret
         exact read_none HX.out (HB5.out.trans (HB56.out.mono HB5.out.size))
        ·have hlob:decide (sm < s0)=false:=decide_eq_false hlo
         have HLO:=am hlo
         clear hlo
         obtain ⟨jp,hjp⟩:∃ jp,j+1=jp:=⟨_,rfl⟩
         have hwj:wrap64 ((j:Int)+1)=(jp:Int):=by have:=HRJ.out;have:=HJN.out;unfold wrap64;omega
         have HNX2:=HNX
         rw [hjp] at HNX2
         have HJP:=am hjp
         clear hjp
         by_cases hin:jp < rs.length
         ·have hinb:decide (jp < rs.length)=true:=decide_eq_true hin
          obtain ⟨adr,ear,hcr,-⟩:=at_T76 (Kd.R_reads' HRR5.out).2.2 (jp:Int) (by omega) (by omega)
          cases ear
          rw [Int.toNat_natCast,Ht.rdR_get hin] at hcr
          obtain ⟨s9,hs9⟩:∃ s9,rs[jp].f0=s9:=⟨_,rfl⟩
          rw [hs9] at hcr
          have HN9:=am (show nx=some s9 by rw [← HNX2.out,List.getElem?_eq_getElem hin,Option.map_some,hs9])
          have HCN:=am (show ∀ w6:World,Below w5.heap.size w5 w6→w6.cell? (ad.add (jp*2))=some (.int .u32 s9) from fun w6 h=>(h.cell (World.block_lt_of_cell? _ _ hcr)).trans hcr)
          clear hcr hs9
          by_cases hge:s9≤sm
          ·have hgeb:decide (s9≤sm)=true:=decide_eq_true hge
           have HGE:=am hge
           clear hge
           have HX:=am (show Ht.readP d=none by
            rw [readP_of HRP.out,HI.out.bad HJN.out (by
             rw [HLE.out,HNX.out]
             rintro ⟨_,h9⟩
             have h8:=List.all_eq_true.1 h9 _ (List.getElem_mem HQN.out)
             unfold Ht.inRow at h8
             rw [HSM.out,HS0.out] at h8
             simp only [Bool.and_eq_true,decide_eq_true_eq] at h8
             rw [HN9.out] at h8;have h7:=of_decide_eq_true h8.2;have:=HGE.out;omega)]
            rfl)
           go_wp2_with ((go_at_call 34;refine (htree_sum.calls k2 nm sm _ HK2.out).mono ?_;rintro e6 w6 ⟨rfl,hb6⟩;have hb56:Below w5.heap.size w5 w6:=(HQB.out.alloc HQB.out.size _).trans (hb6.mono (by have:=HQB.out.size;simp;omega));have hce:=(blk_cell (blk_below HE5.out hb56) 0).trans rfl;have hcB:=(blk_cell (blk_below HT5.out hb56) 1).trans rfl;have hcn:=HCN.out w6 hb56;have HB56:=am hb56;clear hb6 hb56))
           go_ret
           exact read_none HX.out (HB5.out.trans (HB56.out.mono HB5.out.size))
          ·have hgeb:decide (s9≤sm)=false:=decide_eq_false hge
           have HIN:=am (show Ht.inRow rs[j] nx l[q]=true by unfold Ht.inRow;rw [HN9.out,HSM.out,HS0.out];simp only [Bool.and_eq_true,decide_eq_true_eq];exact ⟨by have:=HLO.out;omega,by omega⟩)
           clear hge
           go_wp2_with ((go_at_call 34;refine (htree_sum.calls k2 nm sm _ HK2.out).mono ?_;rintro e6 w6 ⟨rfl,hb6⟩;have hb56:Below w5.heap.size w5 w6:=(HQB.out.alloc HQB.out.size _).trans (hb6.mono (by have:=HQB.out.size;simp;omega));have hce:=(blk_cell (blk_below HE5.out hb56) 0).trans rfl;have hcB:=(blk_cell (blk_below HT5.out hb56) 1).trans rfl;have hcn:=HCN.out w6 hb56;have HB56:=am hb56;clear hb6 hb56))
           go_roundw
           case rel=>exact ⟨q+1,by rw [HWQ.out],⟨HQN.out⟩,⟨by rw [all_take_succ HQN.out,HQA.out,HIN.out];rfl⟩,HB56⟩
           case measure=>rw [HWQ.out];show l.length - (((q+1:Nat):Int)).toNat < l.length - ((q:Int)).toNat;have:=HQN.out;omega
         ·have hinb:decide (jp < rs.length)=false:=decide_eq_false hin
          have HN9:=am (show nx=none by rw [← HNX2.out,List.getElem?_eq_none (by omega)];rfl)
          have HIN:=am (show Ht.inRow rs[j] nx l[q]=true by unfold Ht.inRow;rw [HN9.out,HSM.out,HS0.out,decide_eq_true (by have:=HLO.out;omega)];rfl)
          clear hin
          go_wp2_with ((go_at_call 34;refine (htree_sum.calls k2 nm sm _ HK2.out).mono ?_;rintro e6 w6 ⟨rfl,hb6⟩;have hb56:Below w5.heap.size w5 w6:=(HQB.out.alloc HQB.out.size _).trans (hb6.mono (by have:=HQB.out.size;simp;omega));have hce:=(blk_cell (blk_below HE5.out hb56) 0).trans rfl;have hcB:=(blk_cell (blk_below HT5.out hb56) 1).trans rfl;have HB56:=am hb56;clear hb6 hb56))
          go_roundw
          case rel=>exact ⟨q+1,by rw [HWQ.out],⟨HQN.out⟩,⟨by rw [all_take_succ HQN.out,HQA.out,HIN.out];rfl⟩,HB56⟩
          case measure=>rw [HWQ.out];show l.length - (((q+1:Nat):Int)).toNat < l.length - ((q:Int)).toNat;have:=HQN.out;omega
       ·have hqb:decide (q < l.length)=false:=decide_eq_false hq
        have HQA2:=am (show l.all (Ht.inRow rs[j] nx)=true by have:=HQA.out;rwa [List.take_of_length_le (by omega)] at this)
        have HLI:=am (HI.out.step HJN.out HLE.out (by rw [HNX.out];exact HQA2.out))
        have HT7:=am (blk_below HT5.out HQB.out)
        have HS7:=am (Kd.S_mono (ok':=fun k=>True∧¬ (eb≤k)) (Kd.S_below HS5.out HQB.out) (fun k hk=>⟨trivial,fun h=>by have:=hk.2;have:=HEB.out;omega⟩))
        have HO7:=am (Kd.R_lower (base':=w.heap.size) (Kd.R_below HOL.out HQB.out) (by have:=HB.out.size;simp;omega))
        have HRR7:=am (Kd.R_below HRR5.out HQB.out)
        have HB7:=am (HB5.out.trans (HQB.out.mono HB5.out.size))
        have hcB:=kC HT7 2
        have HVB:=am (show ∀ k,v.ownBlock=some k→k < eb from fun k hk=>by have:=Kd.S_lt HS.out k hk;have:=HEB.out;omega)
        clear hq
        go_wp2_with ((with_reducible refine gate_builtin (b:=.append) (xs:=#[.tmp 99,.tmp 101]) rfl ?_);at_builtin;refine Kd.S_append kLv (w0:=w) w.heap.size rfl (.tmp 99) (.tmp 101) 55 26 (.slice none 0 0) 24 rfl Try.underlying55 info26 rfl (by decide) (by decide) v ms l [.slice A6 l.length c6] (fun _=>True) (fun k=>eb≤k) rfl rfl ⟨_,rfl,HO7.out⟩ (fun k hk=>⟨trivial,fun ee=>by have:=HVB.out k ee.symm;omega⟩) (fun _ _=>trivial) HS7.out HB7.out HB7.out.size (by have h1:=HI.out.1;have h2:=HOKR.out.high;have h3:=HJN.out;omega) ?_;intro v8 w8 ho8 hb8 hg8 hat8;obtain ⟨A8,c8,ev8⟩:=Kd.S_slice ho8;rw [List.length_append,List.length_singleton] at ev8;subst ev8;have hT8:=blk_grown HT7.out hg8 (Kd.S_ne HS7.out HT7.out (by decide));have hcB8:=(blk_cell hT8 2).trans rfl;have hfB8:=blk_frozen hT8 2;have HT8:=am hT8;have HO8:=am ho8;have HB8:=am hb8;have HR8:=am (Kd.R_over' HRR7.out (Kd.S_typed HS7.out) (by decide) hg8);clear hT8 ho8 hb8 hg8 hat8)
        have HWJ:=am (show wrap64 ((j:Int)+1)=((j+1:Nat):Int) by have:=HOKR.out.high;have:=HJN.out;unfold wrap64;omega)
        go_roundw
        case rel=>exact ⟨j+1,_,ms++[l],by rw [HWJ.out],⟨HJN.out⟩,HLI,⟨blk_put HT8.out 2 _ rfl⟩,⟨Kd.R_set HR8.out HT8.out (by decide) 2 _⟩,⟨Kd.S_set HO8.out HT8.out (by decide) 2 _⟩,⟨HB8.out.setCell (p:=⟨w.heap.size+1,2,none⟩) HBw.out _⟩⟩
        case measure=>rw [HWJ.out];show rs.length - (((j+1:Nat):Int)).toNat < rs.length - ((j:Int)).toNat;have:=HJN.out;omega
     ·have HX:=am (show Ht.readP d=none by rw [readP_of HRP.out,HI.out.bad HJN.out (by rw [HLE.out];rintro ⟨h9,_⟩;exact h0 h9)];rfl)
      have h0b:(e0 != 0)=true:=bne_iff_ne.2 h0
      clear h0
      go_wp2_with ((go_at_call 33;refine (leaf_Decode.calls k A5 c5 b l _ _ HR5.out HL5.out HK.out).mono ?_;rintro e5 w5 ⟨u,rfl,ho5,hb5⟩;obtain ⟨A6,c6,rfl,hc6,hr6⟩:=Kd.R_reads ho5;have HO5:=am ho5;have HR6:=am hr6;have HW5:=am hb5;clear ho5 hc6 hr6 hb5))
      go_ret
      exact read_none HX.out (HB.out.trans (((Below.refl _ _).alloc (Nat.le_refl _) _).trans (HW5.out.mono (by simp)) |>.mono HB.out.size))
    ·obtain rfl:j=rs.length:=by have:=HJ.out;omega
     have hjb:decide (rs.length < rs.length)=false:=decide_eq_false (by omega)
     have HX:=am (show Ht.readP d=some (rs,ms) by rw [readP_of HRP.out,HI.out.done];rfl)
     obtain ⟨A2,c2,ev,hc2,hr2⟩:=Kd.S_reads HS.out
     subst ev
     have HC2:=am hc2
     have HR2:=am hr2
     have HRD:=am (Kd.R_reads' HR.out)
     clear hc2 hr2;go_wp2;go_ret
     exact ⟨HB.out,by rw [HX.out];exact ⟨w.heap.size+1,rfl,A1,c1,A2,c2,HT.out,HRD.out.2.2,HRD.out.2.1,HR2.out,HC2.out⟩⟩
  ·obtain ⟨n1,hn1⟩:∃ n1:Nat,d.length=n1+1:=⟨d.length - 1,by omega⟩
   have hrp0:Ht.rowsP d=Ht.ixP (d.getD 0 []) n1:=by
    match d,hn1,ho with
    | [],h,_=>simp at h
    | [_],h,h2=>simp at h2
    | b::c::d,h,_ =>
     have:n1=(c::d).length:=by simp at h ⊢;omega
     subst this
     rfl
   have hzb:((d.length:Int)==0)=false:=beq_eq_false_iff_ne.2 (by omega)
   have hob:((d.length:Int)==1)=false:=beq_eq_false_iff_ne.2 (by omega)
   have hwn:wrap64 ((d.length:Int) - 1)=(n1:Int):=by have:=HL.out;unfold wrap64;omega
   have hd0:0 < d.length:=by omega
   have hb2:Below w.heap.size w ((w.alloc (.cells #[.int .u32 0,.int .i64 0] 76)).alloc (.cells #[.slice A0 d.length c0,.slice (some ⟨w.heap.size,0,none⟩) 1 1,.slice none 0 0] 58)):=((Below.refl _ _).alloc (Nat.le_refl _) _).alloc (by simp) _
   have hT2:=blk_new (w.alloc (.cells #[.int .u32 0,.int .i64 0] 76)) (.cells #[.slice A0 d.length c0,.slice (some ⟨w.heap.size,0,none⟩) 1 1,.slice none 0 0] 58)
   rw [World.size_alloc] at hT2
   obtain ⟨adD,A5,c5,ead,hcx,hl5,hr5⟩:=row_at (Kd.C_below HR0.out hb2) 0 (by decide) (by omega)
   cases ead
   obtain ⟨b,hb⟩:∃ b,d.getD 0 []=b:=⟨_,rfl⟩
   replace hcx:((w.alloc (.cells #[.int .u32 0,.int .i64 0] 76)).alloc (.cells #[.slice (some adD) d.length c0,.slice (some ⟨w.heap.size,0,none⟩) 1 1,.slice none 0 0] 58)).cell? adD=some (.slice A5 (d.getD 0 []).length c5):=hcx
   replace hl5:(d.getD 0 []).length≤c5:=hl5
   replace hr5:(Kd.int .u8).C ((w.alloc (.cells #[.int .u32 0,.int .i64 0] 76)).alloc (.cells #[.slice (some adD) d.length c0,.slice (some ⟨w.heap.size,0,none⟩) 1 1,.slice none 0 0] 58)) A5 (d.getD 0 []).length (d.getD 0 []):=hr5
   rw [hb] at hcx hl5 hr5 hrp0
   have HBY:=am (show ∀ x∈b,Od.isByte x from hb ▸ HD.out _ (by rw [Ht.getD_at hd0];exact List.getElem_mem _))
   have HR5:=am hr5
   have HL5:=am hl5
   have HT2:=am hT2
   have HB2:=am hb2
   have HN1:=am (show n1 < 5864062014805 by have:=HL.out;omega)
   have HBw:=am (Nat.le_succ w.heap.size)
   clear hb hr5 hl5 hT2 hb2 hz ho hn1
   have heql:∀ (a:Option Addr) (n c n' c':Nat) (W:World),(binOp .eql 56 (.slice a n c) (.slice none n' c')).run Try.prog W=.ok (.bool a.isNone) W:=fun a n c n' c' W=>Lib.run_eql_slice_nil W 56 76 a n c n' c' Try.underlying56
   obtain ⟨rx,hrx⟩:∃ rx,Ht.ixP b n1=rx:=⟨_,rfl⟩
   have HRX:=am hrx
   rw [hrx] at hrp0
   cases rx with
   | none =>
    have HX:=am (show Ht.readP d=none by unfold Ht.readP;rw [hrp0];rfl)
    clear hrx hrp0
    go_enter Try.func18,Try.ntmps18
    go_wp2_with (first|((with_reducible refine gate_store (t:=56) (p:=27) rfl ?_);refine store_event (t:=56) (p:=27) (v:=?vo) (w1:=(w3.setCell ⟨w.heap.size+1,1,none⟩ (.slice none 0 0))) ?hg ?ho ?hn ?hr ?_;(case ho=>rfl);(case hg=>rfl);(case hn=>rfl);(case hr=>first|(go_simp;done)|(go_simp;rfl));intro w4 hw;have hT4:w4.heap[w.heap.size+1]? = some (.cells #[.slice (some adD) d.length c0,.slice none 0 0,.slice none 0 0] 58 (0,0)):=(by rw [hw];exact blk_put HT3.out 1 _ rfl);have hb4:Below w.heap.size w w4:=(by rw [hw];exact HB3.out.setCell (p:=⟨w.heap.size+1,1,none⟩) HBw.out _);have hc4:=(blk_cell hT4 1).trans rfl;have HT4:=am hT4;have HB4:=am hb4;clear hT4 hb4 hw hc3 hf3)|(go_at_call 32;refine (rix_calls A5 c5 b n1 _ HR5.out HL5.out HBY.out HN1.out).mono ?_;rintro e3 w3 ⟨v3,rfl,hb3,hm3⟩;rw [HRX.out] at hm3;subst hm3;have hT3:=blk_below HT2.out hb3;have hc3:=(blk_cell hT3 1).trans rfl;have hf3:=blk_frozen hT3 1;have HT3:=am hT3;have HB3:=am (HB2.out.trans (hb3.mono HB2.out.size));clear hT3 hb3))
    go_ret
    exact read_none HX.out HB4.out
   | some rs =>
    have HRP:=am hrp0
    have HOKR:=am (Ht.rowsP_ok HD.out hrp0)
    have HLOW:=am HOKR.out.low
    clear hrx hrp0
    go_enter Try.func18,Try.ntmps18
    go_wp2_with (first|((with_reducible refine gate_store (t:=56) (p:=27) rfl ?_);refine store_event (t:=56) (p:=27) (v:=?vo) (w1:=(w3.setCell ⟨w.heap.size+1,1,none⟩ (.slice (some ad) rs.length c1))) ?hg ?ho ?hn ?hr ?_;(case ho=>rfl);(case hg=>rfl);(case hn=>rfl);(case hr=>first|(go_simp;done)|(go_simp;rfl));intro w4 hw;have hT4:w4.heap[w.heap.size+1]? = some (.cells #[.slice (some adD) d.length c0,.slice (some ad) rs.length c1,.slice none 0 0] 58 (0,0)):=(by rw [hw];exact blk_put HT3.out 1 _ rfl);have hb4:Below w.heap.size w w4:=(by rw [hw];exact HB3.out.setCell (p:=⟨w.heap.size+1,1,none⟩) HBw.out _);have HR4:=am (show Kd.R k76 76 w4 w.heap.size (fun _=>True) (.slice (some ad) rs.length c1) rs by rw [hw];exact Kd.R_set (Kd.R_lower HR3.out HB2.out.size) HT3.out (by decide) 1 _);have hc4:=(blk_cell hT4 1).trans rfl;have HT4:=am hT4;have HB4:=am hb4;clear hT4 hb4 hw hc3 hf3)|(go_at_call 32;refine (rix_calls A5 c5 b n1 _ HR5.out HL5.out HBY.out HN1.out).mono ?_;rintro e3 w3 ⟨v3,rfl,hb3,hm3⟩;rw [HRX.out] at hm3;obtain ⟨A1,c1,ev3,hc3c,hr3⟩:=Kd.R_reads hm3;obtain ⟨ad,ead,-⟩:=at_T76 hr3 0 (by decide) (by have:=HLOW.out;omega);subst ev3;cases ead;have HR3:=am hm3;clear hc3c hr3;have hT3:=blk_below HT2.out hb3;have hc3:=(blk_cell hT3 1).trans rfl;have hf3:=blk_frozen hT3 1;have HT3:=am hT3;have HB3:=am (HB2.out.trans (hb3.mono HB2.out.size));clear hT3 hb3 hm3))
    go_loopw [42] (fun i wr=>∃ (j:Nat) (v:Value) (ms:List (List S30)),i=.int .i64 (j:Int)∧Aside0 (j≤rs.length)∧Aside0 (LInv d rs j ms)∧Aside0 (wr.heap[w.heap.size+1]? = some (.cells #[.slice (some adD) d.length c0,.slice (some ad) rs.length c1,v] 58 (0,0)))∧Aside0 (Kd.R k76 76 wr w.heap.size (fun _=>True) (.slice (some ad) rs.length c1) rs)∧Aside0 (Kd.S kLv 26 wr w.heap.size (fun _=>True) v ms)∧Aside0 (Below w.heap.size w wr)) (fun i _=>rs.length - (intOf i).toNat)
    case atStart=>exact ⟨0,_,[],rfl,⟨Nat.zero_le _⟩,⟨LInv.zero d rs⟩,HT4,HR4,⟨Kd.S_nil _ _ _ _ _⟩,HB4⟩
    case round =>
     obtain ⟨j,v,ms,rfl,HJ,HI,HT,HR,HS,HB⟩:=hrel
     clear hc4 HT4 HR4 HB4
     by_cases hj:j < rs.length
     ·have hjb:decide (j < rs.length)=true:=decide_eq_true hj
      have HJN:=am hj
      have HBK:=am (HOKR.out.blk rs[j] (List.getElem_mem hj))
      obtain ⟨ad,ead,hcs,hcbl⟩:=at_T76 (Kd.R_reads' HR.out).2.2 (j:Int) (by omega) (by omega)
      cases ead
      rw [Int.toNat_natCast,Ht.rdR_get hj] at hcs hcbl
      obtain ⟨s0,hs0⟩:∃ s0,rs[j].f0=s0:=⟨_,rfl⟩
      obtain ⟨bl,hbl⟩:∃ bl,rs[j].f1=bl:=⟨_,rfl⟩
      rw [hs0] at hcs
      rw [hbl] at hcbl HBK
      have HS0:=am hs0
      have HBL:=am hbl
      clear hs0 hbl
      have hbe:=HB.out.alloc HB.out.size (.cells #[.int .u32 s0,.int .i64 bl] 76)
      obtain ⟨adD',A5,c5,ead,hcx,hl5,hr5⟩:=row_at (Kd.C_below HR0.out hbe) bl HBK.out.1 HBK.out.2
      cases ead
      have HDB:=am (show Ht.blk d bl=d.getD bl.toNat [] from rfl)
      obtain ⟨b,hb⟩:∃ b,d.getD bl.toNat []=b:=⟨_,rfl⟩
      rw [hb] at hcx hl5 hr5 HDB
      have HBY:=am (show ∀ x∈b,Od.isByte x from hb ▸ HD.out _ (by rw [Ht.getD_at (by have:=HBK.out;omega)];exact List.getElem_mem _))
      have HR5:=am hr5
      have HL5:=am hl5
      have hblb:bl < (d.length:Int):=HBK.out.2
      have hbl0:0≤bl:=HBK.out.1
      clear hb hbe hr5 hl5
      obtain ⟨⟨l,e0⟩,hle⟩:∃ p,Lf.decR b=p:=⟨_,rfl⟩
      obtain ⟨k,hk⟩:=(Lf.dec_ev b HBY.out).rounds
      rw [hle] at hk
      have HK:=am hk
      have HLE:=am (show Lf.decR (Ht.blk d rs[j].f1)=(l,e0) by rw [HBL.out,HDB.out];exact hle)
      have he4:=blk_new wr (.cells #[.int .u32 s0,.int .i64 bl] 76)
      have HE4:=am he4
      clear hk hle he4
      by_cases h0:e0=0
      ·subst h0
       go_wp2_with ((go_at_call 33;refine (leaf_Decode.calls k A5 c5 b l _ _ HR5.out HL5.out HK.out).mono ?_;rintro e5 w5 ⟨u,rfl,ho5,hb5⟩;obtain ⟨A6,c6,rfl,hc6,hr6⟩:=Kd.R_reads ho5;have HO5:=am ho5;have HR6:=am hr6;have HW5:=am hb5;clear ho5 hc6 hr6 hb5))
       have HB5w:=am (show Below wr.heap.size wr w5 from ((Below.refl _ _).alloc (Nat.le_refl _) _).trans (HW5.out.mono (by simp)))
       have HE5:=am (blk_below HE4.out HW5.out)
       have HT5:=am (blk_below HT.out HB5w.out)
       have HRR5:=am (Kd.R_below HR.out HB5w.out)
       have HS5:=am (Kd.S_old HS.out HB5w.out)
       have HB5:=am (HB.out.trans (HB5w.out.mono HB.out.size))
       have HOL:=am (Kd.R_mono (ok':=fun k=>wr.heap.size≤k) (Kd.R_bound HO5.out) (fun k hk=>by have:=hk.2.1;simp at this;omega))
       have HRT:=am (show ∀ x∈l,Lf.okE x=true by
        have h:=Lf.decR_ok (b:=b) (by rw [← HDB.out,← HBL.out,HLE.out])
        rw [← HDB.out,← HBL.out,HLE.out] at h
        exact Ht.right_ok l _ (Lf.encR_iff.1 h.1).1)
       obtain ⟨nx,hnx⟩:∃ nx,(rs[j+1]?).map (fun r=>r.f0)=nx:=⟨_,rfl⟩
       have HNX:=am hnx
       have HEB:=am (show ∃ eb:Nat,wr.heap.size=eb from ⟨_,rfl⟩)
       obtain ⟨eb,heb⟩:=HEB.out
       replace HEB:=am heb
       rw [heb] at HE5 HOL ⊢
       clear heb;clear hnx hcs hcbl hcx HW5 HR5 HE4 HR hblb hbl0 hjb
       go_loopw [60] (fun i w'=>∃ q:Nat,i=.int .i64 (q:Int)∧Aside0 (q≤l.length)∧Aside0 ((l.take q).all (Ht.inRow rs[j] nx)=true)∧Aside0 (Below w5.heap.size w5 w')) (fun i _=>l.length - (intOf i).toNat)
       case atStart=>exact ⟨0,rfl,⟨Nat.zero_le _⟩,⟨rfl⟩,⟨Below.refl _ _⟩⟩
       case round =>
        obtain ⟨q,rfl,HQ,HQA,HQB⟩:=hrel
        by_cases hq:q < l.length
        ·have hqb:decide (q < l.length)=true:=decide_eq_true hq
         have HQN:=am hq
         obtain ⟨ad6,ead,hcm,hci⟩:=at_T30 HR6.out (q:Int) (by omega) (by omega)
         cases ead
         rw [Int.toNat_natCast,Lf.rdT_get hq] at hcm hci
         obtain ⟨nm,hnm⟩:∃ nm,l[q].f0=nm:=⟨_,rfl⟩
         obtain ⟨no,hno⟩:∃ no,l[q].f1=no:=⟨_,rfl⟩
         rw [hnm] at hcm
         rw [hno] at hci
         replace hcm:=(HQB.out.cell (World.block_lt_of_cell? _ _ hcm)).trans hcm
         replace hci:=(HQB.out.cell (World.block_lt_of_cell? _ _ hci)).trans hci
         have hsz:nm.size < 512:=by have:=Lf.okE_size (HRT.out _ (List.getElem_mem hq));rw [hnm] at this;omega
         obtain ⟨k2,hk2⟩:=(Ht.sum_ev nm hsz).rounds
         obtain ⟨sm,hsm⟩:∃ sm,Ht.sumN nm=sm:=⟨_,rfl⟩
         rw [hsm] at hk2
         have HK2:=am hk2
         have HSM:=am (show Ht.sumN l[q].f0=sm by rw [hnm,hsm])
         have HWQ:=am (show wrap64 ((q:Int)+1)=((q+1:Nat):Int) by
          have h:=Lf.decR_ok (b:=b) (by rw [← HDB.out,← HBL.out,HLE.out])
          rw [← HDB.out,← HBL.out,HLE.out] at h
          have h5:=Ht.leaf_len (Lf.encR_iff.1 h.1)
          change l.length≤41 at h5
          have:=HQ.out
          unfold wrap64;omega)
         clear hnm hno hsz hk2 hsm
         have HRJ:=am (HOKR.out.high)
         by_cases hlo:sm < s0
         ·have hlob:decide (sm < s0)=true:=decide_eq_true hlo
          have HLO:=am hlo
          clear hlo
          have HX:=am (show Ht.readP d=none by
           rw [readP_of HRP.out,HI.out.bad HJN.out (by
            rw [HLE.out,HNX.out]
            rintro ⟨_,h9⟩
            have h8:=List.all_eq_true.1 h9 _ (List.getElem_mem HQN.out)
            unfold Ht.inRow at h8
            rw [HSM.out,HS0.out] at h8
            simp only [Bool.and_eq_true,decide_eq_true_eq] at h8
            have:=HLO.out;omega)]
           rfl)
          go_wp2_with ((go_at_call 34;refine (htree_sum.calls k2 nm sm _ HK2.out).mono ?_;rintro e6 w6 ⟨rfl,hb6⟩;have hb56:Below w5.heap.size w5 w6:=(HQB.out.alloc HQB.out.size _).trans (hb6.mono (by have:=HQB.out.size;simp;omega));have hce:=(blk_cell (blk_below HE5.out hb56) 0).trans rfl;have hcB:=(blk_cell (blk_below HT5.out hb56) 1).trans rfl;have HB56:=am hb56;clear hb6 hb56))
          go_ret
          exact read_none HX.out (HB5.out.trans (HB56.out.mono HB5.out.size))
         ·have hlob:decide (sm < s0)=false:=decide_eq_false hlo
          have HLO:=am hlo
          clear hlo
          obtain ⟨jp,hjp⟩:∃ jp,j+1=jp:=⟨_,rfl⟩
          have hwj:wrap64 ((j:Int)+1)=(jp:Int):=by have:=HRJ.out;have:=HJN.out;unfold wrap64;omega
          have HNX2:=HNX
          rw [hjp] at HNX2
          have HJP:=am hjp
          clear hjp
          by_cases hin:jp < rs.length
          ·have hinb:decide (jp < rs.length)=true:=decide_eq_true hin
           obtain ⟨adr,ear,hcr,-⟩:=at_T76 (Kd.R_reads' HRR5.out).2.2 (jp:Int) (by omega) (by omega)
           cases ear
           rw [Int.toNat_natCast,Ht.rdR_get hin] at hcr
           obtain ⟨s9,hs9⟩:∃ s9,rs[jp].f0=s9:=⟨_,rfl⟩
           rw [hs9] at hcr
           have HN9:=am (show nx=some s9 by rw [← HNX2.out,List.getElem?_eq_getElem hin,Option.map_some,hs9])
           have HCN:=am (show ∀ w6:World,Below w5.heap.size w5 w6→w6.cell? (ad.add (jp*2))=some (.int .u32 s9) from fun w6 h=>(h.cell (World.block_lt_of_cell? _ _ hcr)).trans hcr)
           clear hcr hs9
           by_cases hge:s9≤sm
           ·have hgeb:decide (s9≤sm)=true:=decide_eq_true hge
            have HGE:=am hge
            clear hge
            have HX:=am (show Ht.readP d=none by
             rw [readP_of HRP.out,HI.out.bad HJN.out (by
              rw [HLE.out,HNX.out]
              rintro ⟨_,h9⟩
              have h8:=List.all_eq_true.1 h9 _ (List.getElem_mem HQN.out)
              unfold Ht.inRow at h8
              rw [HSM.out,HS0.out] at h8
              simp only [Bool.and_eq_true,decide_eq_true_eq] at h8
              rw [HN9.out] at h8;have h7:=of_decide_eq_true h8.2;have:=HGE.out;omega)]
             rfl)
            go_wp2_with ((go_at_call 34;refine (htree_sum.calls k2 nm sm _ HK2.out).mono ?_;rintro e6 w6 ⟨rfl,hb6⟩;have hb56:Below w5.heap.size w5 w6:=(HQB.out.alloc HQB.out.size _).trans (hb6.mono (by have:=HQB.out.size;simp;omega));have hce:=(blk_cell (blk_below HE5.out hb56) 0).trans rfl;have hcB:=(blk_cell (blk_below HT5.out hb56) 1).trans rfl;have hcn:=HCN.out w6 hb56;have HB56:=am hb56;clear hb6 hb56))
            go_ret
            exact read_none HX.out (HB5.out.trans (HB56.out.mono HB5.out.size))
           ·have hgeb:decide (s9≤sm)=false:=decide_eq_false hge
            have HIN:=am (show Ht.inRow rs[j] nx l[q]=true by unfold Ht.inRow;rw [HN9.out,HSM.out,HS0.out];simp only [Bool.and_eq_true,decide_eq_true_eq];exact ⟨by have:=HLO.out;omega,by omega⟩)
            clear hge
            go_wp2_with ((go_at_call 34;refine (htree_sum.calls k2 nm sm _ HK2.out).mono ?_;rintro e6 w6 ⟨rfl,hb6⟩;have hb56:Below w5.heap.size w5 w6:=(HQB.out.alloc HQB.out.size _).trans (hb6.mono (by have:=HQB.out.size;simp;omega));have hce:=(blk_cell (blk_below HE5.out hb56) 0).trans rfl;have hcB:=(blk_cell (blk_below HT5.out hb56) 1).trans rfl;have hcn:=HCN.out w6 hb56;have HB56:=am hb56;clear hb6 hb56))
            go_roundw
            case rel=>exact ⟨q+1,by rw [HWQ.out],⟨HQN.out⟩,⟨by rw [all_take_succ HQN.out,HQA.out,HIN.out];rfl⟩,HB56⟩
            case measure=>rw [HWQ.out];show l.length - (((q+1:Nat):Int)).toNat < l.length - ((q:Int)).toNat;have:=HQN.out;omega
          ·have hinb:decide (jp < rs.length)=false:=decide_eq_false hin
           have HN9:=am (show nx=none by rw [← HNX2.out,List.getElem?_eq_none (by omega)];rfl)
           have HIN:=am (show Ht.inRow rs[j] nx l[q]=true by unfold Ht.inRow;rw [HN9.out,HSM.out,HS0.out,decide_eq_true (by have:=HLO.out;omega)];rfl)
           clear hin
           go_wp2_with ((go_at_call 34;refine (htree_sum.calls k2 nm sm _ HK2.out).mono ?_;rintro e6 w6 ⟨rfl,hb6⟩;have hb56:Below w5.heap.size w5 w6:=(HQB.out.alloc HQB.out.size _).trans (hb6.mono (by have:=HQB.out.size;simp;omega));have hce:=(blk_cell (blk_below HE5.out hb56) 0).trans rfl;have hcB:=(blk_cell (blk_below HT5.out hb56) 1).trans rfl;have HB56:=am hb56;clear hb6 hb56))
           go_roundw
           case rel=>exact ⟨q+1,by rw [HWQ.out],⟨HQN.out⟩,⟨by rw [all_take_succ HQN.out,HQA.out,HIN.out];rfl⟩,HB56⟩
           case measure=>rw [HWQ.out];show l.length - (((q+1:Nat):Int)).toNat < l.length - ((q:Int)).toNat;have:=HQN.out;omega
        ·have hqb:decide (q < l.length)=false:=decide_eq_false hq
         have HQA2:=am (show l.all (Ht.inRow rs[j] nx)=true by have:=HQA.out;rwa [List.take_of_length_le (by omega)] at this)
         have HLI:=am (HI.out.step HJN.out HLE.out (by rw [HNX.out];exact HQA2.out))
         have HT7:=am (blk_below HT5.out HQB.out)
         have HS7:=am (Kd.S_mono (ok':=fun k=>True∧¬ (eb≤k)) (Kd.S_below HS5.out HQB.out) (fun k hk=>⟨trivial,fun h=>by have:=hk.2;have:=HEB.out;omega⟩))
         have HO7:=am (Kd.R_lower (base':=w.heap.size) (Kd.R_below HOL.out HQB.out) (by have:=HB.out.size;simp;omega))
         have HRR7:=am (Kd.R_below HRR5.out HQB.out)
         have HB7:=am (HB5.out.trans (HQB.out.mono HB5.out.size))
         have hcB:=kC HT7 2
         have HVB:=am (show ∀ k,v.ownBlock=some k→k < eb from fun k hk=>by have:=Kd.S_lt HS.out k hk;have:=HEB.out;omega)
         clear hq
         go_wp2_with ((with_reducible refine gate_builtin (b:=.append) (xs:=#[.tmp 99,.tmp 101]) rfl ?_);at_builtin;refine Kd.S_append kLv (w0:=w) w.heap.size rfl (.tmp 99) (.tmp 101) 55 26 (.slice none 0 0) 24 rfl Try.underlying55 info26 rfl (by decide) (by decide) v ms l [.slice A6 l.length c6] (fun _=>True) (fun k=>eb≤k) rfl rfl ⟨_,rfl,HO7.out⟩ (fun k hk=>⟨trivial,fun ee=>by have:=HVB.out k ee.symm;omega⟩) (fun _ _=>trivial) HS7.out HB7.out HB7.out.size (by have h1:=HI.out.1;have h2:=HOKR.out.high;have h3:=HJN.out;omega) ?_;intro v8 w8 ho8 hb8 hg8 hat8;obtain ⟨A8,c8,ev8⟩:=Kd.S_slice ho8;rw [List.length_append,List.length_singleton] at ev8;subst ev8;have hT8:=blk_grown HT7.out hg8 (Kd.S_ne HS7.out HT7.out (by decide));have hcB8:=(blk_cell hT8 2).trans rfl;have hfB8:=blk_frozen hT8 2;have HT8:=am hT8;have HO8:=am ho8;have HB8:=am hb8;have HR8:=am (Kd.R_over' HRR7.out (Kd.S_typed HS7.out) (by decide) hg8);clear hT8 ho8 hb8 hg8 hat8)
         have HWJ:=am (show wrap64 ((j:Int)+1)=((j+1:Nat):Int) by have:=HOKR.out.high;have:=HJN.out;unfold wrap64;omega)
         go_roundw
         case rel=>exact ⟨j+1,_,ms++[l],by rw [HWJ.out],⟨HJN.out⟩,HLI,⟨blk_put HT8.out 2 _ rfl⟩,⟨Kd.R_set HR8.out HT8.out (by decide) 2 _⟩,⟨Kd.S_set HO8.out HT8.out (by decide) 2 _⟩,⟨HB8.out.setCell (p:=⟨w.heap.size+1,2,none⟩) HBw.out _⟩⟩
         case measure=>rw [HWJ.out];show rs.length - (((j+1:Nat):Int)).toNat < rs.length - ((j:Int)).toNat;have:=HJN.out;omega
      ·have HX:=am (show Ht.readP d=none by rw [readP_of HRP.out,HI.out.bad HJN.out (by rw [HLE.out];rintro ⟨h9,_⟩;exact h0 h9)];rfl)
       have h0b:(e0 != 0)=true:=bne_iff_ne.2 h0
       clear h0
       go_wp2_with ((go_at_call 33;refine (leaf_Decode.calls k A5 c5 b l _ _ HR5.out HL5.out HK.out).mono ?_;rintro e5 w5 ⟨u,rfl,ho5,hb5⟩;obtain ⟨A6,c6,rfl,hc6,hr6⟩:=Kd.R_reads ho5;have HO5:=am ho5;have HR6:=am hr6;have HW5:=am hb5;clear ho5 hc6 hr6 hb5))
       go_ret
       exact read_none HX.out (HB.out.trans (((Below.refl _ _).alloc (Nat.le_refl _) _).trans (HW5.out.mono (by simp)) |>.mono HB.out.size))
     ·obtain rfl:j=rs.length:=by have:=HJ.out;omega
      have hjb:decide (rs.length < rs.length)=false:=decide_eq_false (by omega)
      have HX:=am (show Ht.readP d=some (rs,ms) by rw [readP_of HRP.out,HI.out.done];rfl)
      obtain ⟨A2,c2,ev,hc2,hr2⟩:=Kd.S_reads HS.out
      subst ev
      have HC2:=am hc2
      have HR2:=am hr2
      have HRD:=am (Kd.R_reads' HR.out)
      clear hc2 hr2;go_wp2;go_ret
      exact ⟨HB.out,by rw [HX.out];exact ⟨w.heap.size+1,rfl,(some ad),c1,A2,c2,HT.out,HRD.out.2.2,HRD.out.2.1,HR2.out,HC2.out⟩⟩
def dirB (d:List (List Int)):Bool:=decide (d.length < 5864062014805)&&d.all (fun r=>r.all (fun x=>decide (0≤x)&&decide (x < 256)))
theorem dirB_iff {d:List (List Int)} (h:dirB d=true):Ht.bytesD d∧d.length < 5864062014805:=by
 unfold dirB at h
 rw [Bool.and_eq_true,decide_eq_true_eq,List.all_eq_true] at h
 refine ⟨fun b hb x hx=>?_,h.1⟩
 have:=List.all_eq_true.1 (h.2 b hb) x hx
 rw [Bool.and_eq_true,decide_eq_true_eq,decide_eq_true_eq] at this
 exact this
def htree_Check.f (l0:List (List Int)):Option (Int):=if dirB l0=true then some (Ht.checkP l0) else none
set_option maxHeartbeats 8000000 in
set_option maxRecDepth 100000 in
theorem htree_Check.calls (A0:Option Addr) (c0:Nat) (l0:List (List Int)) (r:Int) (w:World) (hr0:Kd.C (Kd.slice 5 (Kd.int .u8)) w A0 l0.length l0) (hc0:l0.length≤c0) (h:htree_Check.f l0=some r) :
  Calls Try.prog 8 #[.slice A0 l0.length c0] w fun e w'=>e=.returned (.int .i64 r)∧Below w.heap.size w w':=by
 unfold htree_Check.f at h
 by_cases hd:dirB l0=true
 ·rw [if_pos hd] at h
  obtain rfl:=Option.some.inj h
  obtain ⟨hd1,hd2⟩:=dirB_iff hd
  have HR0:=am hr0
  have HC0:=am hc0
  have HD:=am hd1
  have HL:=am hd2
  unfold Ht.checkP
  clear h hd hr0 hc0 hd1 hd2
  cases hx:Ht.readP l0 with
  | none =>
   have HX:=am hx
   clear hx
   go_enter Try.func8,Try.ntmps8
   go_wp2_with (go_at_call 18;refine (read_calls A0 c0 l0 w HR0.out HC0.out HD.out HL.out).mono ?_;rintro e w2 ⟨hb2,hm⟩;rw [HX.out] at hm;subst hm;have HB2:=am hb2;clear hb2)
   go_ret
   exact ⟨rfl,HB2.out⟩
  | some p =>
   obtain ⟨rs,ls⟩:=p
   have HX:=am hx
   clear hx
   go_enter Try.func8,Try.ntmps8
   go_wp2_with (go_at_call 18;refine (read_calls A0 c0 l0 w HR0.out HC0.out HD.out HL.out).mono ?_;rintro e w2 ⟨hb2,hm⟩;rw [HX.out] at hm;obtain ⟨B,rfl,-⟩:=hm;have HB2:=am hb2;clear hb2)
   go_ret
   exact ⟨rfl,HB2.out⟩
 ·rw [if_neg hd] at h
  cases h
def htree_New.f (k:Nat)  : Option ((List (List Int))):=(leaf_Encode.f k ([]:List (S30))).bind fun bt149=>(some (([bt149.1]:List (List Int))))
set_option maxHeartbeats 8000000 in
set_option maxRecDepth 100000 in
theorem htree_New.calls (k:Nat)  (r:List (List Int)) (w:World) (h:htree_New.f k  = some r) :
  Calls Try.prog 12 #[] w fun e w'=>∃ v0_:Value,e=.returned (v0_)∧Kd.N (Kd.slice 5 (Kd.int .u8)) 66 w' w.heap.size (fun k_=>(w.heap.size≤k_)) v0_ r∧Below w.heap.size w w':=by
 have HB:=am (Below.refl w.heap.size w)
 have H:((leaf_Encode.f k ([]:List (S30))).bind fun bt149=>(some (([bt149.1]:List (List Int)))))=some r:=h
 clear h
 replace H:=Option.bind_eq_some_iff.mp H
 obtain ⟨⟨t149,t150⟩,A10,H⟩:=H
 replace H:(some (([t149]:List (List Int))))=some r:=H
 have A1:=am A10
 clear A10
 obtain ⟨y153,hy153⟩:∃ y_:List (List Int),y_=(([t149]:List (List Int))):=⟨_,rfl⟩
 replace H:(some y153)=some r:=by first|(rw [hy153];with_reducible exact H)|(have H2_:=(Option.bind_some _ _).symm.trans H;rw [hy153];with_reducible exact H2_)|(have H2_:=(Option.bind_some _ _).symm.trans H;with_reducible exact H2_)|with_reducible exact H|(rw [hy153];exact H)|exact H
 have Ny153:=am hy153
 clear hy153;obtain rfl:=Option.some.inj H
 go_enter Try.func12,Try.ntmps12
 go_wp2_with (first|((with_reducible refine gate_callee (f:=24) rfl ?_);refine goesL_ (some 4) rfl rfl Try.func24 (by kernel_rfl) rfl #[.slice none 0 0] rfl (by (try simp only [List.map_toArray,List.map_cons,List.map_nil]);first|done|rfl|(simp only [List.length_drop,List.length_take];rfl)) ?_;(refine (leaf_Encode.calls k _ _ ([]:List (S30)) t149 t150 _ ?side1 ?side2 A1.out).mono ?_);(case side1=>exact Kd.C_nil _ _);(case side2=>exact Nat.le_refl _);rintro e w2 ⟨v151,rfl,ho0,hb⟩;refine ⟨_,rfl,?_⟩;have n0_:=am (Kd.R_lower (Kd.R_newM (M:=fun k_=>(w.heap.size≤k_)) ho0 (bz HB) (fun k_ h_=>h_)) (bz HB));have n1_:=bst HB hb;clear HB;have HO152:=n0_;have HB:=n1_;clear n0_ n1_;(try clear hb);(try clear hb2);(try clear hk);(try clear hi);(try clear ho0);obtain ⟨Ao3,co3,eo3⟩:=Kd.R_slice HO152.out;subst eo3)|((with_reducible refine gate_dst (N:=8) rfl ?_);refine Kd.N_lit (Kd.slice 5 (Kd.int .u8)) _ 66 ?hg (N':=8) ?hd (xs:=([t149]:List (List Int))) (inner:=[.slice Ao3 t149.length co3]) (ok:=(fun k_=>(w.heap.size≤k_))) (okp:=(fun k_=>(w.heap.size≤k_))) ?hr ?hp (fun _ hk=>hk) ((show ∀ k_,w2.heap.size≤k_→(fun k_=>(w.heap.size≤k_)) k_ from fun k_ hk=>(Nat.le_trans (bz HB) hk)) _ (Nat.le_refl _)) (Below.refl _ _) (Nat.le_refl _) (by simp) ?_;(case hd=>rfl);(case hg=>rfl);(case hr=>first|(go_simp;done)|(go_simp;rfl));(case hp=>exact (Reps.one (show Kd.FK (Kd.slice 5 (Kd.int .u8)) _ _ t149 [.slice Ao3 t149.length co3] from (Kd.FK_slice_mk (Kd.R_reads' (Kd.R_mono (ok':=(fun k_=>(w.heap.size≤k_))) (HO152.out) (fun k_ hk=>hk.1))).2.1 (Kd.R_F (Kd.R_mono (ok':=(fun k_=>(w.heap.size≤k_))) (HO152.out) (fun k_ hk=>hk.1))))) (Reps.none _ _)));intro v154 w4 ho5 hb hg_ hnew_;clear hg_ hnew_;(first|rw [← Ny153.out] at ho5|(simp only [Int.reduceToNat] at ho5;rw [← Ny153.out] at ho5));have n0_:=am (Kd.N_lower ho5 (bz HB));have n1_:=bst HB hb;clear HB;clear HO152;have HO155:=n0_;have HB:=n1_;clear n0_ n1_;clear hb ho5))
 go_ret
 exact ⟨_,by first|rfl|(simp [errW_none,errW_some]<;>rfl)|(simp [*,errW_none,errW_some]<;>rfl),by (with_reducible repeat (first|apply Kd.N_alloc|apply Kd.N_drewN|apply Kd.N_drew));exact HO155.out,bb HB⟩
def Rows2 (w:World) (base:Nat) (v:Value) (out:List (List Int)):Prop:=Kd.S (Kd.slice 5 (Kd.int .u8)) 66 w base (fun _=>True) v out
abbrev kRw:Kd (List Int):=Kd.slice 5 (Kd.int .u8)
theorem rows_set {w:World} {base g n c:Nat} {xs:List (List Int)} {u:Value} {p:List Int} {i:Nat} (h:Kd.S kRw 66 w base (fun k=>some k≠u.ownBlock) (.slice (some ⟨g,0,none⟩) n c) xs) (hu:Kd.R (Kd.int .u8) 5 w base (fun _=>True) u p) (hi:i < n) :
  Kd.S kRw 66 (w.setCell ⟨g,i,none⟩ u) base (fun _=>True) (.slice (some ⟨g,0,none⟩) n c) (xs.set i p)∧(∃ v0,w.cell? ⟨g,i,none⟩=some v0)∧w.frozen? ⟨g,i,none⟩=false:=by
 have hX:Kd.S kRw 66 w base (fun k_=>((fun _=>True)) k_∧¬ ((fun k_=>some k_=u.ownBlock)) k_) (.slice (some ⟨g,0,none⟩) n c) xs:=Kd.S_mono h (fun k hk=>⟨trivial,fun e=>hk e⟩)
 have h0:(0:Int)≤(i:Int):=by omega
 have h1:(i:Int) < (n:Int):=by omega
 obtain ⟨oki,ce,hcl,hM,hcc,hfr,hoki,hH⟩:=Kd.S_elem hX [] (i:Int) h0 h1
 obtain ⟨ve,rfl,ge⟩:=hM
 have hu2:=(Kd.R_mono (ok':=fun k_=>((fun _=>True)) k_∧k_≠g) (Kd.R_apart' hu (Kd.S_typed h) (by decide)) (fun k_ hk=>⟨trivial,fun e_=>(hk.2) (by rw [e_];rfl)⟩))
 have HP:=Kd.S_seg hH h0 h1 (seg:=[u]) (j:=0) (show 1≤1 from by decide) (x':=p) (Kd.M_row (Kd.R_mono (Kd.R_tight rfl hu2) (fun _ h_=>Or.inr (h_)))) (fun _ hk=>hk) (fun k_ hk_=>hu2.1 k_ hk_.symm)
 have hx:=hcc 0 _ rfl
 have hf:=hfr 0
 simp only [show kRw.sz=1 from rfl,Nat.mul_one,Nat.add_zero,Int.toNat_natCast] at hx hf HP
 exact ⟨HP.1,⟨_,hx⟩,hf⟩
set_option maxHeartbeats 8000000 in
set_option maxRecDepth 100000 in
theorem with_calls (w:World) (B:Nat) (A0:Option Addr) (c0:Nat) (d:List (List Int)) (rs:List S76) (ls:List (List S30)) (a:Nat) (A5:Option Addr) (c5:Nat) (l:List S30)
  (hr0:Kd.C (Kd.slice 5 (Kd.int .u8)) w A0 d.length d) (hc0:d.length≤c0) (hT:TreeAt w B A0 c0 d.length rs ls) (hd:d.length≤31) (hdl:∀ b∈d,b.length≤140737488355328) (ha:a < rs.length) (hb:0≤rs[a].f1∧rs[a].f1 < d.length)
  (hr5:Kd.C k30 w A5 l.length l) (hc5:l.length≤c5) (hl:l.length < 4398046511104) :
  Calls Try.prog 28 #[.pointer (some ⟨B,0,none⟩),.int .i64 (a:Int),.slice A5 l.length c5] w fun e w'=>∃ v,e=.returned (.tuple #[v,.int .i64 (Ht.withP d rs[a].f1 l).2])∧Rows2 w' w.heap.size v (Ht.withP d rs[a].f1 l).1∧Below w.heap.size w w':=by
 obtain ⟨A1,c1,A2,c2,hT1,hT2,hT3,hT4,hT5⟩:=hT
 have HR0:=am hr0
 have HC0:=am hc0
 have HT:=am hT1
 have HDL:=am hd
 have HA:=am ha
 have HB:=am hb
 have HR5:=am hr5
 have HC5:=am hc5
 obtain ⟨ke,hke⟩:=(Lf.enc_ev l (by omega)).rounds
 obtain ⟨kc,hkc⟩:=(Ht.copied_ev d (by omega) hdl).rounds
 obtain ⟨⟨eb,ee⟩,hee⟩:∃ p,Lf.encR l=p:=⟨_,rfl⟩
 rw [hee] at hke
 have HKE:=am hke
 have HKC:=am hkc
 obtain ⟨ad,ead,-,hcb⟩:=at_T76 hT2 (a:Int) (by omega) (by omega)
 cases ead
 rw [Int.toNat_natCast,Ht.rdR_get ha] at hcb
 obtain ⟨bl,hbl⟩:∃ bl,rs[a].f1=bl:=⟨_,rfl⟩
 rw [hbl] at hcb HB ⊢
 have HCB:=am hcb
 clear hr0 hc0 hT1 hT2 hT3 hT4 hT5 hd hdl hb hr5 hc5 hl hke hkc hcb hbl
 unfold Ht.withP
 rw [hee]
 dsimp only
 by_cases h0:ee=0
 ·subst h0
  rw [if_pos rfl]
  have hab:a < rs.length:=ha
  obtain ⟨bn,hbn⟩:∃ bn:Nat,bl=(bn:Int):=⟨bl.toNat,by have:=HB.out.1;omega⟩
  have HBE:=am hbn
  have HBN:=am (show bn < d.length by have:=HB.out.2;omega)
  rw [hbn] at HCB
  have hbl1:bn < d.length:=HBN.out
  clear hbn;clear hee ha
  go_enter Try.func28,Try.ntmps28
  go_wp2_with (first|((with_reducible refine gate_store (t:=66) (p:=34) rfl ?_);refine store_event (t:=66) (p:=34) (v:=?vo) (w1:=(w3.setCell ⟨g3,bn,none⟩ (.slice A9 eb.length c9))) ?hg ?ho ?hn ?hr ?_;(case ho=>rfl);(case hg=>rfl);(case hn=>rfl);(case hr=>first|(go_simp;done)|(go_simp;rfl));intro w4 hw;have HW4:=am hw;clear hw)|(go_at_call 52;refine (htree_copied.calls kc A0 c0 d d _ (Kd.C_below HR0.out HB2.out) HC0.out HKC.out).mono ?_;rintro e w3 ⟨v3,rfl,ho3,hb3⟩;have HS3:=am (Kd.S_mono (ok':=fun k=>some k≠(Value.slice A9 eb.length c9).ownBlock) (Kd.S_lower (Kd.S_new' ho3 (fun k hk=>Kd.R_lt HO2.out k hk)) HB2.out.size) (fun k hk=>hk.2));obtain ⟨g3,c3,rfl,hg3,-⟩:=Kd.S_form ho3 (by have:=HB.out;omega);obtain ⟨hrs3,⟨v0,hc3⟩,hf3⟩:=rows_set (i:=bn) HS3.out (Kd.R_below HO2.out hb3) HBN.out;have HRS3:=am hrs3;have hcT3:=(blk_cell (blk_below (blk_below HT.out HB2.out) hb3) 1).trans rfl;have hcb3:=(hb3.cell (World.block_lt_of_cell? _ _ hcb2)).trans hcb2;have HB3:=am (HB2.out.trans (hb3.mono HB2.out.size));have HG3:=am (Nat.le_trans HB2.out.size hg3);clear ho3 hb3 hrs3 hg3 hcT)|(go_at_call 24;refine (leaf_Encode.calls ke A5 c5 l eb _ _ HR5.out HC5.out HKE.out).mono ?_;rintro e w2 ⟨v2,rfl,ho2,hb2⟩;have hcT:=(blk_cell (blk_below HT.out hb2) 0).trans rfl;have hcb2:=(hb2.cell (World.block_lt_of_cell? _ _ HCB.out)).trans HCB.out;obtain ⟨A9,c9,rfl,-⟩:=Kd.R_reads ho2;have HO2:=am ho2;have HB2:=am hb2;clear ho2 hb2))
  go_ret2
  have hw:=HW4.out
  subst hw
  rw [HBE.out,Int.toNat_natCast]
  exact ⟨_,rfl,HRS3.out,HB3.out.setCell (p:=⟨g3,bn,none⟩) HG3.out _⟩
 ·rw [if_neg h0]
  have h0b:(ee != 0)=true:=bne_iff_ne.2 h0
  clear hee h0 ha
  go_enter Try.func28,Try.ntmps28
  go_wp2_with (go_at_call 24;refine (leaf_Encode.calls ke A5 c5 l eb _ _ HR5.out HC5.out HKE.out).mono ?_;rintro e w2 ⟨v2,rfl,ho2,hb2⟩;have HB2:=am hb2;clear ho2 hb2)
  go_ret2
  exact ⟨_,rfl,Kd.S_nil _ _ _ _ _,HB2.out⟩
theorem leaf_at {w:World} {A:Option Addr} {n:Nat} {xs:List (List S30)} (h:Kd.C kLv w A n xs) (i:Int) (h0:0≤i) (h1:i < n):∃ ad A0 c0,A=some ad∧w.cell? (ad.add i.toNat)=some (.slice A0 (xs.getD i.toNat []).length c0)∧(xs.getD i.toNat []).length≤c0∧k30.C w A0 (xs.getD i.toNat []).length (xs.getD i.toNat []):=by
 first|exact at_L6 h i h0 h1|exact at_L5 h i h0 h1|exact at_L4 h i h0 h1|exact at_L7 h i h0 h1|exact at_L8 h i h0 h1|exact at_L9 h i h0 h1|exact at_L10 h i h0 h1
def OpenSays (A0:Option Addr) (c0:Nat) (d:List (List Int)) (x:S30) (w:World) (e:Ending) (w':World):Prop:=Below w.heap.size w w'∧match Ht.readP d with
 | none=>e=.returned (.tuple #[.pointer none,.int .i64 0,.int .i64 0,.bool false,.int .i64 13])
 | some (rs,ls)=>if Ht.mayX x=false then e=.returned (.tuple #[.pointer none,.int .i64 0,.int .i64 0,.bool false,.int .i64 1]) else
   ∃ B,e=.returned (.tuple #[.pointer (some ⟨B,0,none⟩),.int .i64 (Ht.atP rs (Ht.sumN x.f0):Int),.int .i64 (Ht.posP (Ht.leafAt rs ls x.f0) x.f0:Int),.bool (Ht.thereP (Ht.leafAt rs ls x.f0) x.f0),.int .i64 0])∧TreeAt w' B A0 c0 d.length rs ls
theorem open_bad {A0:Option Addr} {c0:Nat} {d:List (List Int)} {x:S30} {rs:List S76} {ls:List (List S30)} {w w':World} (h:Ht.readP d=some (rs,ls)) (hm:Ht.mayX x=false) (hb:Below w.heap.size w w'):OpenSays A0 c0 d x w (.returned (.tuple #[.pointer none,.int .i64 0,.int .i64 0,.bool false,.int .i64 1])) w':=⟨hb,by rw [h];dsimp only;rw [if_pos hm]⟩
theorem mayB_size {s:ByteArray} (h:Lf.mayB s=true):s.size≤32:=by
 unfold Lf.mayB at h
 simp only [Bool.and_eq_true,decide_eq_true_eq] at h
 exact h.1.1.1.2
set_option maxHeartbeats 8000000 in
set_option maxRecDepth 100000 in
theorem open_calls (A0:Option Addr) (c0:Nat) (d:List (List Int)) (x:S30) (w:World) (hr0:Kd.C kRw w A0 d.length d) (hc0:d.length≤c0) (hd:Ht.bytesD d) (hl:d.length < 5864062014805) :
  Calls Try.prog 25 #[.slice A0 d.length c0,.agg #[.string x.f0,.int .i64 x.f1]] w (OpenSays A0 c0 d x w):=by
 have HR0:=am hr0
 have HC0:=am hc0
 have HD:=am hd
 have HL:=am hl
 clear hr0 hc0 hd hl
 obtain ⟨nm,hnm⟩:∃ nm,x.f0=nm:=⟨_,rfl⟩
 obtain ⟨no,hno⟩:∃ no,x.f1=no:=⟨_,rfl⟩
 have HX0:=am (⟨hnm,hno⟩:x.f0=nm∧x.f1=no)
 rw [hnm,hno]
 clear hnm hno
 have hbx:Below w.heap.size w (w.alloc (.cells #[.string nm,.int .i64 no] 30)):=(Below.refl _ _).alloc (Nat.le_refl _) _
 have HBX:=am hbx
 have HX1:=am (blk_new w (.cells #[.string nm,.int .i64 no] 30))
 clear hbx
 cases hx:Ht.readP d with
 | none =>
  have HX:=am hx
  clear hx
  go_enter Try.func25,Try.ntmps25
  go_wp2_with (go_at_call 18;refine (read_calls A0 c0 d _ (Kd.C_below HR0.out HBX.out) HC0.out HD.out HL.out).mono ?_;rintro e w2 ⟨hb2,hm⟩;rw [HX.out] at hm;subst hm;have HB2:=am (HBX.out.trans (hb2.mono HBX.out.size));clear hb2)
  refine bodyPost_ret (by simp [results,Try.results25,go_sem];try rfl) rfl ?_
  exact ⟨HB2.out,by rw [HX.out]⟩
 | some p =>
  obtain ⟨rs,ls⟩:=p
  have HX:=am hx
  have HOKR:=am (Ht.readP_ok HD.out hx).1
  have HLV:=am (Ht.readP_ok HD.out hx).2
  clear hx
  cases hmb:Lf.mayB nm with
  | false =>
   have HM:=am (show Ht.mayX x=false by unfold Ht.mayX;rw [HX0.out.1,HX0.out.2];simp [hmb])
   have HMB:=am (show leaf_May.f nm=some false by rw [Lf.may_some,hmb])
   clear hmb
   go_enter Try.func25,Try.ntmps25
   go_wp2_with (first|(go_at_call 48;refine (leaf_May.calls nm _ _ HMB.out).mono ?_;rintro e w3 ⟨rfl,hb3⟩;clear hcn hci;have hcn:=(blk_cell (blk_below HX2.out hb3) 0).trans rfl;have hci:=(blk_cell (blk_below HX2.out hb3) 1).trans rfl;have HW3:=am hb3;clear hb3)|(go_at_call 18;refine (read_calls A0 c0 d _ (Kd.C_below HR0.out HBX.out) HC0.out HD.out HL.out).mono ?_;rintro e w2 ⟨hb2,hm⟩;rw [HX.out] at hm;obtain ⟨B,rfl,A1,c1,A2,c2,hT1,hT2,hT3,hT4,hT5⟩:=hm;have hcn:=(blk_cell (blk_below HX1.out hb2) 0).trans rfl;have hci:=(blk_cell (blk_below HX1.out hb2) 1).trans rfl;have HX2:=am (blk_below HX1.out hb2);have HT1:=am hT1;have HT2:=am hT2;have HT3:=am hT3;have HT4:=am hT4;have HT5:=am hT5;have HB2:=am (HBX.out.trans (hb2.mono HBX.out.size));clear hb2 hT1 hT2 hT3 hT4 hT5))
   refine bodyPost_ret (by simp [results,Try.results25,go_sem];try rfl) rfl ?_
   exact open_bad HX.out HM.out (HB2.out.trans (HW3.out.mono HB2.out.size))
  | true =>
   by_cases hn0:no < 0
   ·have hn0b:decide (no < 0)=true:=decide_eq_true hn0
    have HM:=am (show Ht.mayX x=false by unfold Ht.mayX;rw [HX0.out.1,HX0.out.2];rw [decide_eq_false (show ¬ 0≤no by omega),Bool.and_false,Bool.false_and])
    have HMB:=am (show leaf_May.f nm=some true by rw [Lf.may_some,hmb])
    clear hmb hn0
    go_enter Try.func25,Try.ntmps25
    go_wp2_with (first|(go_at_call 48;refine (leaf_May.calls nm _ _ HMB.out).mono ?_;rintro e w3 ⟨rfl,hb3⟩;clear hcn hci;have hcn:=(blk_cell (blk_below HX2.out hb3) 0).trans rfl;have hci:=(blk_cell (blk_below HX2.out hb3) 1).trans rfl;have HW3:=am hb3;clear hb3)|(go_at_call 18;refine (read_calls A0 c0 d _ (Kd.C_below HR0.out HBX.out) HC0.out HD.out HL.out).mono ?_;rintro e w2 ⟨hb2,hm⟩;rw [HX.out] at hm;obtain ⟨B,rfl,A1,c1,A2,c2,hT1,hT2,hT3,hT4,hT5⟩:=hm;have hcn:=(blk_cell (blk_below HX1.out hb2) 0).trans rfl;have hci:=(blk_cell (blk_below HX1.out hb2) 1).trans rfl;have HX2:=am (blk_below HX1.out hb2);have HT1:=am hT1;have HT2:=am hT2;have HT3:=am hT3;have HT4:=am hT4;have HT5:=am hT5;have HB2:=am (HBX.out.trans (hb2.mono HBX.out.size));clear hb2 hT1 hT2 hT3 hT4 hT5))
    refine bodyPost_ret (by simp [results,Try.results25,go_sem];try rfl) rfl ?_
    exact open_bad HX.out HM.out (HB2.out.trans (HW3.out.mono HB2.out.size))
   ·by_cases hn1:no > 1048576
    ·have hn0b:decide (no < 0)=false:=decide_eq_false hn0
     have hn1b:decide (1048576 < no)=true:=decide_eq_true hn1
     have HM:=am (show Ht.mayX x=false by unfold Ht.mayX;rw [HX0.out.1,HX0.out.2];rw [decide_eq_false (show ¬ no≤1048576 by omega),Bool.and_false])
     have HMB:=am (show leaf_May.f nm=some true by rw [Lf.may_some,hmb])
     clear hmb hn0 hn1
     go_enter Try.func25,Try.ntmps25
     go_wp2_with (first|(go_at_call 48;refine (leaf_May.calls nm _ _ HMB.out).mono ?_;rintro e w3 ⟨rfl,hb3⟩;clear hcn hci;have hcn:=(blk_cell (blk_below HX2.out hb3) 0).trans rfl;have hci:=(blk_cell (blk_below HX2.out hb3) 1).trans rfl;have HW3:=am hb3;clear hb3)|(go_at_call 18;refine (read_calls A0 c0 d _ (Kd.C_below HR0.out HBX.out) HC0.out HD.out HL.out).mono ?_;rintro e w2 ⟨hb2,hm⟩;rw [HX.out] at hm;obtain ⟨B,rfl,A1,c1,A2,c2,hT1,hT2,hT3,hT4,hT5⟩:=hm;have hcn:=(blk_cell (blk_below HX1.out hb2) 0).trans rfl;have hci:=(blk_cell (blk_below HX1.out hb2) 1).trans rfl;have HX2:=am (blk_below HX1.out hb2);have HT1:=am hT1;have HT2:=am hT2;have HT3:=am hT3;have HT4:=am hT4;have HT5:=am hT5;have HB2:=am (HBX.out.trans (hb2.mono HBX.out.size));clear hb2 hT1 hT2 hT3 hT4 hT5))
     refine bodyPost_ret (by simp [results,Try.results25,go_sem];try rfl) rfl ?_
     exact open_bad HX.out HM.out (HB2.out.trans (HW3.out.mono HB2.out.size))
    ·have HM:=am (show ¬ Ht.mayX x=false by unfold Ht.mayX;rw [HX0.out.1,HX0.out.2,hmb,decide_eq_true (show 0≤no by omega),decide_eq_true (show no≤1048576 by omega)];simp)
     have hn0b:decide (no < 0)=false:=decide_eq_false hn0
     have hn1b:decide (1048576 < no)=false:=decide_eq_false hn1
     have HMB:=am (show leaf_May.f nm=some true by rw [Lf.may_some,hmb])
     have hsz:=mayB_size hmb
     obtain ⟨k,hk⟩:=(Ht.at_ev HOKR.out nm (by omega)).rounds
     obtain ⟨an,han⟩:∃ an,Ht.atP rs (Ht.sumN nm)=an:=⟨_,rfl⟩
     have hanl:an < rs.length:=han ▸ Ht.atP_lt HOKR.out _
     have HLL:=am HLV.out.len
     rw [han] at hk
     obtain ⟨l,hll⟩:∃ l,ls.getD an []=l:=⟨_,rfl⟩
     have hrl:Lf.right none l=true∧Lf.sumL l≤248:=HLV.out.leaf l (by rw [← hll,Ht.getD_at (by rw [HLL.out];exact hanl)];exact List.getElem_mem _)
     obtain ⟨k2,hk2⟩:=(Ht.place_ev l nm (Ht.right_iff.1 hrl.1).2 (by have:=Ht.leaf_len hrl;omega)).rounds
     have HLA:=am (show Ht.leafAt rs ls x.f0=l by unfold Ht.leafAt;rw [HX0.out.1,han,hll])
     obtain ⟨pp,hpp⟩:∃ pp,Ht.posP l nm=pp:=⟨_,rfl⟩
     obtain ⟨tt,htt⟩:∃ tt,Ht.thereP l nm=tt:=⟨_,rfl⟩
     rw [hpp,htt] at hk2
     have HPT:=am (⟨hpp,htt,han⟩:Ht.posP l nm=pp∧Ht.thereP l nm=tt∧Ht.atP rs (Ht.sumN nm)=an)
     have HKA:=am hk
     have HKP:=am hk2
     have HLQ:=am hll
     have hanls:an < ls.length:=by rw [HLL.out];exact hanl
     clear hmb hn0 hn1 hk hk2 hpp htt han hrl hll hsz hanl
     go_enter Try.func25,Try.ntmps25
     go_wp2_with (first|(go_at_call 19;refine (at_calls k B _ _ _ A1 c1 rs nm _ _ (blk_below HT1.out HW3.out) (Kd.C_below HT2.out HW3.out) HT3.out (by have:=HOKR.out.high;omega) HKA.out).mono ?_;rintro e w4 ⟨rfl,hb4⟩;clear hcn hci;have HW4:=am (HW3.out.trans (hb4.mono HW3.out.size));clear hb4)|(go_at_call 48;refine (leaf_May.calls nm _ _ HMB.out).mono ?_;rintro e w3 ⟨rfl,hb3⟩;clear hcn hci;have hcn:=(blk_cell (blk_below HX2.out hb3) 0).trans rfl;have hci:=(blk_cell (blk_below HX2.out hb3) 1).trans rfl;have HW3:=am hb3;clear hb3)|(go_at_call 18;refine (read_calls A0 c0 d _ (Kd.C_below HR0.out HBX.out) HC0.out HD.out HL.out).mono ?_;rintro e w2 ⟨hb2,hm⟩;rw [HX.out] at hm;obtain ⟨B,rfl,A1,c1,A2,c2,hT1,hT2,hT3,hT4,hT5⟩:=hm;have hcn:=(blk_cell (blk_below HX1.out hb2) 0).trans rfl;have hci:=(blk_cell (blk_below HX1.out hb2) 1).trans rfl;have HX2:=am (blk_below HX1.out hb2);have HT1:=am hT1;have HT2:=am hT2;have HT3:=am hT3;have HT4:=am hT4;have HT5:=am hT5;have HB2:=am (HBX.out.trans (hb2.mono HBX.out.size));clear hb2 hT1 hT2 hT3 hT4 hT5))
     have hT4:=blk_below HT1.out HW4.out
     have hcB:=(blk_cell hT4 2).trans rfl
     have hcn:=(blk_cell (blk_below HX2.out HW4.out) 0).trans rfl
     obtain ⟨ad2,A5,c5,ead,hcl,hl5,hr5⟩:=leaf_at (Kd.C_below HT4.out HW4.out) (an:Int) (by omega) (by omega)
     cases ead
     rw [Int.toNat_natCast,HLQ.out] at hcl hl5 hr5
     have HR5:=am hr5
     have HL5:=am hl5
     have hbz:=below_drew1 (Below.refl w4.heap.size w4)
     clear hT4 hr5 hl5
     refine start_ (n:=15) (S:=fun w'=>Below w4.heap.size w4 w'∧w'.cell? ⟨B,2,none⟩=some (.slice (some ad2) ls.length c2)∧w'.cell? (ad2.add an)=some (.slice A5 l.length c5)∧w'.cell? ⟨w.heap.size,0,none⟩=some (.string nm)) (ds:=[]) _ (by kernel_rfl) rfl rfl ⟨hbz,hcB,hcl,hcn⟩ (fun hHeld=>?_)
     refine pK 0 32 ?_;refine pK 1 33 ?_;refine pK 2 34 ?_;refine pK 4 36 ?_;refine pK 7 39 ?_;refine tK 3 35 hHeld ?_ (hy:=by rintro w' ⟨s0,s1,s2,s3⟩;go_simp;with_reducible rfl);refine pK 5 37 ?_;refine tK 6 38 hHeld ?_ (hy:=by rintro w' ⟨s0,s1,s2,s3⟩;go_simp;with_reducible rfl);refine tK 8 40 hHeld ?_ (hy:=by rintro w' ⟨s0,s1,s2,s3⟩;go_simp;with_reducible rfl)
     refine oK 9 (some 41) (fun K hK=>?_)
     refine gS Try.func49 #[.slice A5 l.length c5,.string nm] ?_
     with_reducible refine (htree_place.calls k2 A5 c5 l nm _ _ _ (Kd.C_drew HR5.out) HL5.out HKP.out).mono ?_
     rintro e5 w5 ⟨rfl,hb5⟩
     refine ⟨_,rfl,?_⟩
     have hb5w:=hbz.trans (hb5.mono hbz.size)
     refine hK.out _ _ ⟨hb5w,(hb5w.cell (World.block_lt_of_cell? _ _ hcB)).trans hcB,(hb5w.cell (World.block_lt_of_cell? _ _ hcl)).trans hcl,(hb5w.cell (World.block_lt_of_cell? _ _ hcn)).trans hcn⟩ (fun hHeld=>?_)
     clear hK K;refine norm_ (a':=?_) ?_ ?_;rotate_left
     ·show Act.put _ (some 41) _=_
      simp only [Act.put,sIb,sC0,sCs,i64_w,i32_w];rfl
     refine pK 10 31 ?_;refine pK 11 42 ?_;refine pK 12 43 ?_;refine pK 13 6 ?_;refine pK 14 7 ?_
     refine done_ (by kernel_rfl) ?_
     have HB5:=am hb5w
     clear hHeld hb5 hb5w hbz hcB hcl hcn;go_wp2
     refine bodyPost_ret (by simp [results,Try.results25,go_sem];try rfl) rfl ?_
     refine ⟨HB2.out.trans ((HW4.out.trans (HB5.out.mono HW4.out.size)).mono HB2.out.size),?_⟩
     rw [HX.out]
     dsimp only
     rw [if_neg HM.out,HLA.out,HX0.out.1,HPT.out.1,HPT.out.2.1,HPT.out.2.2]
     have hb25:=HW4.out.trans (HB5.out.mono HW4.out.size)
     exact ⟨B,rfl,A1,c1,(some ad2),c2,blk_below HT1.out hb25,Kd.C_below HT2.out hb25,HT3.out,Kd.C_below HT4.out hb25,HT5.out⟩
end Go.Proofs.Yteglhbfhibfodaa.Pr
end
section
namespace Go.Proofs.Yteglhbfhibfodaa.Rw
open Go.RowKit Go.Proofs.YteglhbfhibfodaaW.PrintWords Go.Proofs.YteglhbfhibfodaaW.PrintLast Go.Proofs.YteglhbfhibfodaaW.PrintMore Go.Proofs.Yteglhbfhibfodaa.Pr
set_option linter.unusedVariables false
set_option linter.unusedSimpArgs false
abbrev E := S30
def cells2 (e : E) : List Value := [.string e.f0, .int .i64 e.f1]
def flat (xs : List E) : List Value := xs.flatMap cells2
theorem flat_cons (e : E) (xs : List E) : flat (e :: xs) = cells2 e ++ flat xs := rfl
theorem flat_append (a b : List E) : flat (a ++ b) = flat a ++ flat b := by unfold flat; rw [List.flatMap_append]
theorem flat_len : ∀ xs : List E, (flat xs).length = xs.length * 2
  | [] => rfl
  | e :: xs => by rw [flat_cons, List.length_append, flat_len xs, List.length_cons]; simp [cells2]; omega
theorem flat_take : ∀ (xs : List E) (n : Nat), flat (xs.take n) = (flat xs).take (n * 2)
  | [], n => by simp [flat]
  | e :: xs, 0 => by simp [flat]
  | e :: xs, n + 1 => by
    rw [List.take_succ_cons, flat_cons, flat_cons, flat_take xs n, show (n + 1) * 2 = (cells2 e).length + n * 2 by simp [cells2]; omega, List.take_length_add_append]
theorem flat_drop : ∀ (xs : List E) (n : Nat), flat (xs.drop n) = (flat xs).drop (n * 2)
  | [], n => by simp [flat]
  | e :: xs, 0 => by simp
  | e :: xs, n + 1 => by
    rw [List.drop_succ_cons, flat_cons, flat_drop xs n, show (n + 1) * 2 = (cells2 e).length + n * 2 by simp [cells2]; omega, List.drop_length_add_append]
theorem flat_of : ∀ (xs : List E) (inner : List Value), inner.length = xs.length * 2 → (∀ j p, xs[j]? = some p → (inner.drop (j * 2)).take 2 = cells2 p) → inner = flat xs
  | [], inner, hl, _ => List.eq_nil_of_length_eq_zero (by simpa using hl)
  | e :: xs, inner, hl, h => by
    have h0 := h 0 e rfl
    rw [Nat.zero_mul, List.drop_zero] at h0
    have hr := flat_of xs (inner.drop 2) (by rw [List.length_drop, hl, List.length_cons]; omega) (fun j p hj => by
      have := h (j + 1) p (by simpa using hj)
      rw [List.drop_drop, show 2 + j * 2 = (j + 1) * 2 by omega]
      exact this)
    rw [flat_cons, ← h0, ← hr, List.take_append_drop]
theorem flat_at : ∀ (xs : List E) (j : Nat) (p : E), xs[j]? = some p → ((flat xs).drop (j * 2)).take 2 = cells2 p
  | e :: xs, 0, p, h => by
    simp only [List.getElem?_cons_zero, Option.some.injEq] at h
    subst h
    rw [Nat.zero_mul, List.drop_zero, flat_cons, List.take_append_of_le_length (by simp [cells2]), List.take_of_length_le (by simp [cells2])]
  | e :: xs, j + 1, p, h => by
    rw [← flat_drop, List.drop_succ_cons, flat_drop]
    exact flat_at xs j p (by simpa using h)
theorem flat_one : ∀ (xs : List E), ∀ v ∈ flat xs, v.oneCell' = true := by
  intro xs v hv
  obtain ⟨e, _, h⟩ := List.mem_flatMap.1 hv
  simp only [cells2, List.mem_cons, List.not_mem_nil, or_false] at h
  rcases h with rfl | rfl <;> rfl
theorem R_flat {w : World} {base : Nat} {ok : Nat → Prop} {v : Value} {xs : List E} (h : Kd.R k30 30 w base ok v xs) : w.ownsRow base 30 2 v xs.length (flat xs) := by
  obtain ⟨h0, inner, ho, hr⟩ := h
  have : inner = flat xs := flat_of xs inner hr.1 (fun j p hj => k30_openM (hr.2 j p hj))
  rw [← this]; exact ho
theorem flat_R {w : World} {base : Nat} {ok : Nat → Prop} {v : Value} {xs : List E} (ho : w.ownsRow base 30 2 v xs.length (flat xs)) (hok : ∀ k, v.ownBlock = some k → ok k) : Kd.R k30 30 w base ok v xs :=
  ⟨hok, flat xs, ho, flat_len xs, fun j p hj => by rw [show k30.sz = 2 from rfl, flat_at xs j p hj]; exact k30_mkM _ _ _ p⟩
theorem run_copy_cells {P : Program} (w : World) (dT sT ty elem : TypeId) (g o dLen dCap : Nat) (a : Addr) (sLen sCap : Nat) (cur : Array Value) (t : TypeId) (cs : List Value) (n sz : Nat)
    (hu : P.underlying dT = some (.slice elem)) (hs : (P.info? elem).map (·.size) = some sz)
    (hg : w.heap[g]? = some (.cells cur t (0, 0))) (hn : n = Nat.min sLen dLen) (hcl : cs.length = n * sz)
    (hsrc : ∀ j v, cs[j]? = some v → w.cell? (a.add j) = some v) (hfit : o + cs.length ≤ cur.size) (h1 : ∀ v ∈ cs, v.oneCell' = true) :
    (Builtin.copy_ #[dT, sT] ty #[.slice (some ⟨g, o, none⟩) dLen dCap, .slice (some a) sLen sCap]).run P w =
      .ok (goInt n) (w.setRow g (cur.toList.take o ++ cs ++ cur.toList.drop (o + cs.length)).toArray) := by
  have hl := run_loadCells_list (P := P) w a cs hsrc
  have hst := run_storeCells_at P g o t cs 0 cur w hg (by simpa using hfit) h1
  cases hq : P.info? elem with
  | none => simp [hq] at hs
  | some i =>
    have hi : i.size = sz := by simpa [hq] using hs
    rw [hcl] at hl
    simp [Builtin.copy_, run_underlying hu, Builtin.lenOf, Builtin.firstCells, sizeOf, typeInfo, hq, hi, ← hn, hl, hst]
theorem run_clear_cells {P : Program} (w : World) (t e ty : TypeId) (z : Value) (n sz : Nat) (ht : P.underlying t = some (.slice e)) (hz : (P.info? e).map (fun i => i.zero) = some (some z)) (hzs : z.cells.size = sz) (hn : 0 < n) (g o c : Nat) (cur : Array Value) (t' : TypeId)
    (hg : w.heap[g]? = some (.cells cur t' (0, 0))) (hfit : o + n * sz ≤ cur.size) (h1 : ∀ v ∈ (Builtin.zeroCells z.cells n).toList, v.oneCell' = true) (hl : (Builtin.zeroCells z.cells n).toList.length = n * sz) :
    (Builtin.clear_ #[t] ty #[.slice (some ⟨g, o, none⟩) n c]).run P w = .ok (.tuple #[]) (w.setRow g (cur.toList.take o ++ (Builtin.zeroCells z.cells n).toList ++ cur.toList.drop (o + n * sz)).toArray) := by
  have hst := run_storeCells_at P g o t' (Builtin.zeroCells z.cells n).toList 0 cur w hg (by rw [hl]; simpa using hfit) h1
  rw [hl] at hst
  simp only [Nat.add_zero] at hst
  obtain ⟨i, hi, hiz⟩ := Option.map_eq_some_iff.1 hz
  have hv : (zeroValue e).run P w = .ok z w := by simp [zeroValue, typeInfo, hi, hiz]
  obtain ⟨m, rfl⟩ : ∃ m, n = m + 1 := ⟨n - 1, by omega⟩
  simp [Builtin.clear_, run_underlying ht, hv, hst]
section
variable {P : Program} {ops : Array Oper} {rest : List Oper} {o : Oper} {a : Act} {Q : Exit → Act → World → Prop} {Kc : Act → World → Prop}
theorem copy_step (w : World) (hw : Region.wanted o (yielded ops a.tmps) = true) (d s : Operand) (t t' : TypeId) (ho : o.op = .call { callee := .builtin .copy, args := #[d, s], argTypes := #[t, t'] }) (v u : Value) (hd : a.eval d = v) (hs : a.eval s = u) {v' : Value} {w' : World}
    (hr : (Builtin.copy_ #[t, t'] o.type #[v, u]).run P w = .ok v' w') (h : Kc (a.put o.dst v') w') : if Region.wanted o (yielded ops a.tmps) = true then Oper.wp P o a w Kc Q else Kc (a.put o.dst undef) w := by
  rw [if_pos hw]
  unfold Oper.wp execOp
  simp only [ho, resolve, invoke, builtin, Sem.run_bind, Sem.run_pure, Result.andThen_ok, List.map_toArray, List.map_cons, List.map_nil, hd, hs, hr]
  exact h
theorem append_ev (w : World) (hgd : o.guard = none) (d s : Operand) (t t' : TypeId) (ho : o.op = .call { callee := .builtin .append, args := #[d, s], argTypes := #[t, t'] }) (v u : Value) (hd : a.eval d = v) (hs : a.eval s = u) {v' : Value} {w' : World}
    (hr : (Builtin.append_ #[t, t'] o.type #[v, u]).run P w = .ok v' w') (h : wpList P ops Q rest (a.put o.dst v') w') : wpList P ops Q (o :: rest) a w := by
  refine wpList_plain hgd fun K hK => ?_
  unfold Oper.wp execOp
  simp only [ho, resolve, invoke, builtin, Sem.run_bind, Sem.run_pure, Result.andThen_ok, List.map_toArray, List.map_cons, List.map_nil, hd, hs, hr]
  exact hK _ _ h
end
theorem own_open {w : World} {base : Nat} {v : Value} {n : Nat} {cs : List Value} {e sz : Nat} (ho : w.ownsRow base e sz v n cs) (hp : 0 < n) :
    ∃ g cap cur, v = .slice (some ⟨g, 0, none⟩) n cap ∧ base ≤ g ∧ w.heap[g]? = some (.cells cur e (0, 0)) ∧ n ≤ cap ∧ cap ≤ maxLen ∧ cur.size = cap * sz ∧ cur.toList.take (n * sz) = cs := by
  rcases ho.2 with ⟨_, h0⟩ | h
  · omega
  · exact h
theorem own_at {w : World} {base : Nat} {g o n c m : Nat} {cs : List Value} {e sz : Nat} (ho : w.ownsRow base e sz (.slice (some ⟨g, o, none⟩) n c) m cs) :
    o = 0 ∧ n = m ∧ base ≤ g ∧ m ≤ c ∧ c ≤ maxLen ∧ ∃ cur : Array Value, w.heap[g]? = some (.cells cur e (0, 0)) ∧ cur.size = c * sz ∧ cur.toList.take (m * sz) = cs := by
  rcases ho.2 with ⟨h, _⟩ | ⟨g', cap, cur, h, hb, hg, hnc, hcm, hcs, htk⟩
  · cases h
  · injection h with h1 h2 h3
    injection h1 with h1
    injection h1 with h1 h4
    subst h1; subst h2; subst h3
    exact ⟨h4, rfl, hb, hnc, hcm, cur, hg, hcs, htk⟩
theorem R_turn {w : World} {base : Nat} {ok : Nat → Prop} {g n c : Nat} {xs ys : List E} (h : Kd.R k30 30 w base ok (.slice (some ⟨g, 0, none⟩) n c) xs) (cur new : Array Value) (hg : w.heap[g]? = some (.cells cur 30 (0, 0))) (hsz : new.size = cur.size)
    (htk : new.toList.take (ys.length * 2) = flat ys) (hl : ys.length ≤ c) : Kd.R k30 30 (w.setRow g new) base ok (.slice (some ⟨g, 0, none⟩) ys.length c) ys := by
  obtain ⟨_, _, hb, _, hcm, cur', hg', hcs, _⟩ := own_at (R_flat h)
  rw [hg] at hg'
  injection hg' with hg'
  injection hg' with hg'
  subst hg'
  exact flat_R ⟨flat_len ys, .inr ⟨g, c, new, rfl, hb, setRow_heap _ _ cur _ 30 (0, 0) hg, hl, hcm, by rw [hsz, hcs], htk⟩⟩ (fun k hk => h.1 k hk)
theorem below_turn {B g : Nat} {w0 w : World} (hb : Below B w0 w) (hBg : B ≤ g) (cs : Array Value) : Below B w0 (w.setRow g cs) :=
  hb.trans ⟨rfl, rfl, rfl, by simp [World.setRow], fun k hk => setRow_other w g k cs (by omega)⟩
theorem zero_len (q : Nat) : (Builtin.zeroCells (Value.agg #[(.string ⟨#[]⟩), (.int .i64 0)]).cells q).size = q * 2 := by simp [Builtin.zeroCells, Value.cells]
theorem zero_one : (Builtin.zeroCells (Value.agg #[(.string ⟨#[]⟩), (.int .i64 0)]).cells 1).toList = [.string ⟨#[]⟩, .int .i64 0] := by kernel_rfl
end Go.Proofs.Yteglhbfhibfodaa.Rw
end
section
namespace Go.Proofs.Yteglhbfhibfodaa.Pr
open Go.RowKit Go.Proofs.YteglhbfhibfodaaW.PrintWords Go.Proofs.YteglhbfhibfodaaW.PrintLast Go.Proofs.YteglhbfhibfodaaW.PrintMore
attribute [local go_sem] max2_int min2_int max_two min_two max_three min_three max_four min_four
attribute [local go_sem] Go.Proofs.Yteglhbfhibfodaa.Hl.str_geq Go.Proofs.Yteglhbfhibfodaa.Hl.str_gtr Go.Proofs.Yteglhbfhibfodaa.Hl.str_leq
set_option linter.unusedVariables false
set_option linter.unusedSimpArgs false
theorem ins_row (W:World) (vb:Nat) (p:S30) (hV:W.heap[vb]? = some (.cells #[.string p.f0,.int .i64 p.f1] 30 (0,0))):Kd.C k30 W (some ⟨vb,0,none⟩) 1 [p]:=by
 refine ⟨rfl,by simp,fun _=>⟨_,rfl,fun j q hj=>?_⟩⟩
 cases j with
 | zero =>
  simp only [List.getElem?_cons_zero,Option.some.injEq] at hj
  subst hj
  refine ⟨[.string p.f0,.int .i64 p.f1],rfl,k30_mk _ p,fun i u hu=>?_⟩
  rw [add_plain]
  have e:0*k30.sz+i=i:=by rw [show k30.sz=2 from rfl];omega
  rw [e,blk_cell hV i]
  simpa using hu
 | succ j=>simp at hj
def flat2 (xs:List S30) (i:Nat):List Value:=(Rw.flat xs).drop (i*2)
set_option maxHeartbeats 8000000 in
set_option maxRecDepth 100000 in
theorem ins_calls (W:World) (base:Nat) (v:Value) (xs:List S30) (p:S30) (vb i n:Nat) (hn:xs.length=n) (hO:Kd.R k30 30 W base (fun _=>True) v xs) (hV:W.heap[vb]? = some (.cells #[.string p.f0,.int .i64 p.f1] 30 (0,0)))
  (hne:∀ g,v.ownBlock=some g→g≠vb) (hbase:base≤W.heap.size) (hi:i≤n) (hl:n < 4398046511103) :
  Calls Try.prog 26 #[v,.int .i64 i,.slice (some ⟨vb,0,none⟩) 1 1] W fun e w'=>∃ v',e=.returned v'∧Kd.R k30 30 w' base (fun _=>True) v' (xs.take i++p::xs.drop i)∧Below base W w':=by
 have hw:∀ z:Int,0≤z→z < 9223372036854775807→wrap64 z=z:=fun z _ _=>by unfold wrap64;omega
 have hu26:=Try.underlying30
 have hi26:=info30
 obtain ⟨A,c,rfl⟩:=Kd.R_slice hO
 rw [hn] at hO
 by_cases hin:i=n
 ·subst hin
  have HO:=am hO
  have HL:=am hl
  have HN:=am hn
  have hCV:=am (ins_row W vb p hV)
  have h0:(0:Int)≤(i:Int):=by omega
  have h1:(i:Int)≤(i:Int):=by omega
  rw [hn]
  clear hO hl hn hV hne hw
  cases A with
  | none =>
   obtain ⟨rfl,rfl⟩:i=0∧c=0:=by
    rcases (Rw.R_flat HO.out).2 with ⟨h,_⟩|⟨g',c',cur',h,_⟩
    ·injection h with h1 h2 h3
     exact ⟨h2,h3⟩
    ·cases h
   go_enter Try.func26,Try.ntmps26
   go_wp2_with ((with_reducible refine gate_builtin (b:=.append) (xs:=#[.tmp 23,.tmp 24]) rfl ?_);at_builtin;refine Kd.R_append_rows k30 (w0:=W) base rfl (.tmp 23) (.tmp 24) 26 30 (.agg #[(.string ⟨#[]⟩),(.int .i64 0)]) 24 rfl Try.underlying26 info30 rfl (by decide) (by omega) _ xs [p] _ _ _ (fun _=>True) (fun _=>False) rfl rfl HO.out hCV.out (fun _ _ h=>h) (fun _ h=>h.elim) (fun _ _=>trivial) (Below.refl _ _) hbase (by have:=HL.out;have:=HN.out;omega) ?_;intro v2 w2 ho2 hb2 hg2 hat2;have HO2:=am ho2;have HB2:=am hb2;clear ho2 hb2 hg2 hat2)
   go_ret
   have e1:∀ j,xs.length=j→xs.take j++p::xs.drop j=xs++[p]:=fun j h=>by rw [List.take_of_length_le (by omega),List.drop_of_length_le (by omega)]
   rw [e1 _ HN.out]
   exact ⟨_,rfl,HO2.out,HB2.out⟩
  | some ad =>
   by_cases hci:c=i
   ·subst hci
    go_enter Try.func26,Try.ntmps26
    go_wp2_with ((with_reducible refine gate_builtin (b:=.append) (xs:=#[.tmp 23,.tmp 24]) rfl ?_);at_builtin;refine Kd.R_append_rows k30 (w0:=W) base rfl (.tmp 23) (.tmp 24) 26 30 (.agg #[(.string ⟨#[]⟩),(.int .i64 0)]) 24 rfl Try.underlying26 info30 rfl (by decide) (by omega) _ xs [p] _ _ _ (fun _=>True) (fun _=>False) rfl rfl HO.out hCV.out (fun _ _ h=>h) (fun _ h=>h.elim) (fun _ _=>trivial) (Below.refl _ _) hbase (by have:=HL.out;have:=HN.out;omega) ?_;intro v2 w2 ho2 hb2 hg2 hat2;have HO2:=am ho2;have HB2:=am hb2;clear ho2 hb2 hg2 hat2)
    go_ret
    have e1:∀ j,xs.length=j→xs.take j++p::xs.drop j=xs++[p]:=fun j h=>by rw [List.take_of_length_le (by omega),List.drop_of_length_le (by omega)]
    rw [e1 _ HN.out]
    exact ⟨_,rfl,HO2.out,HB2.out⟩
   ·skip
    go_enter Try.func26,Try.ntmps26
    go_wp2_with ((with_reducible refine gate_builtin (b:=.append) (xs:=#[.tmp 23,.tmp 24]) rfl ?_);at_builtin;refine Kd.R_append_rows k30 (w0:=W) base rfl (.tmp 23) (.tmp 24) 26 30 (.agg #[(.string ⟨#[]⟩),(.int .i64 0)]) 24 rfl Try.underlying26 info30 rfl (by decide) (by omega) _ xs [p] _ _ _ (fun _=>True) (fun _=>False) rfl rfl HO.out hCV.out (fun _ _ h=>h) (fun _ h=>h.elim) (fun _ _=>trivial) (Below.refl _ _) hbase (by have:=HL.out;have:=HN.out;omega) ?_;intro v2 w2 ho2 hb2 hg2 hat2;have HO2:=am ho2;have HB2:=am hb2;clear ho2 hb2 hg2 hat2)
    go_ret
    have e1:∀ j,xs.length=j→xs.take j++p::xs.drop j=xs++[p]:=fun j h=>by rw [List.take_of_length_le (by omega),List.drop_of_length_le (by omega)]
    rw [e1 _ HN.out]
    exact ⟨_,rfl,HO2.out,HB2.out⟩
 ·have hlt:i < n:=by omega
  have hp0:0 < xs.length:=by omega
  have h0:(0:Int)≤(i:Int):=by omega
  have h1:(i:Int)≤(n:Int):=by omega
  have hne1:((i:Int)==(n:Int))=false:=beq_eq_false_iff_ne.2 (by omega)
  have hn63:(n:Int)+1 < 9223372036854775807:=by omega
  have hi63:(i:Int)+1 < 9223372036854775807:=by omega
  have HW1:=am (hw ((n:Int)+1) (by omega) hn63)
  have HW3:=am (hw ((i:Int)+1) (by omega) hi63)
  have hXl:(flat2 xs i).length=(n - i)*2:=by unfold flat2;rw [List.length_drop,Rw.flat_len,hn];omega
  have hflen:(xs.take i++p::xs.drop i).length=n+1:=by rw [List.length_append,List.length_cons,List.length_take,List.length_drop,hn];omega
  have HW4:=am ((hw ((n:Int)+1 - (i:Int)) (by omega) (by omega)).trans (by omega:(n:Int)+1 - (i:Int)=((n+1 - i:Nat):Int)))
  clear hw hn63 hi63
  obtain ⟨g,c',cur,hv,hbg,hg,hnc,hcm,hcs,htk⟩:=Rw.own_open (Rw.R_flat hO) hp0
  have HCM:=am hcm
  clear hcm
  injection hv with hv1 hv2 hv3
  subst hv1
  subst hv3
  clear hv2
  rw [hn] at hnc htk ⊢
  have hgv:g≠vb:=hne g rfl
  have hglt:g < W.heap.size:=blk_lt hg
  have hvlt:vb < W.heap.size:=blk_lt hV
  have hcl:cur.toList.length=c*2:=by rw [Array.length_toList,hcs]
  have hci:¬ (c=i):=fun e=>absurd hlt (by rw [← e];exact Nat.not_lt.2 hnc)
  have hcells:∀ j u,(flat2 xs i)[j]? = some u→W.cell? ⟨g,i*2+j,none⟩=some u:=by
   intro j u hj
   rw [blk_cell hg,← Array.getElem?_toList]
   unfold flat2 at hj
   rw [List.getElem?_drop,← htk,List.getElem?_take] at hj
   split at hj
   ·exact hj
   ·cases hj
  have hadd:∀ b o j:Nat,(⟨b,o,none⟩:Addr).add j=⟨b,o+j,none⟩:=fun b o j=>by unfold Addr.add;split<;>simp_all
  have hfl1:∀ v∈flat2 xs i,v.oneCell'=true:=fun v hv=>Rw.flat_one xs v (List.mem_of_mem_drop hv)
  have hpl1:∀ v∈Rw.cells2 p,v.oneCell'=true:=by intro v hv;simp only [Rw.cells2,List.mem_cons,List.not_mem_nil,or_false] at hv;rcases hv with rfl|rfl<;>rfl
  have hfin:Rw.flat (xs.take i++p::xs.drop i)=(Rw.flat xs).take (i*2)++Rw.cells2 p++flat2 xs i:=by
   rw [Rw.flat_append,Rw.flat_cons,Rw.flat_take,Rw.flat_drop,← List.append_assoc];rfl
  by_cases hcap:(n:Int)+1 > (c:Int)
  ·
   obtain ⟨i0,hi0,hz3⟩:=Option.map_eq_some_iff.1 info30
   simp only [Prod.mk.injEq] at hz3
   obtain ⟨kk,hkk⟩:∃ kk,kk=n+1 - i:=⟨_,rfl⟩
   have hol:((Rw.flat xs).take (i*2)).length=i*2:=by rw [List.length_take,Rw.flat_len,hn];omega
   have hocell:∀ j u,((Rw.flat xs).take (i*2))[j]? = some u→W.cell? ⟨g,0+j,none⟩=some u:=by
    intro j u hj
    rw [Nat.zero_add,blk_cell hg,← Array.getElem?_toList]
    rw [List.getElem?_take] at hj
    split at hj
    ·rw [← htk,List.getElem?_take] at hj
     split at hj
     ·exact hj
     ·cases hj
    ·cases hj
   have hap:=Lib.run_append_grow_zeros (P:=Try.prog) W 26 3 26 30 i0 (.agg #[(.string ⟨#[]⟩),(.int .i64 0)]) .i64 .i64 Try.underlying26 Try.underlying3 hi0 hz3.1 (some ⟨g,0,none⟩) i c ((Rw.flat xs).take (i*2)) (by
     have h:=run_loadCells_list (P:=Try.prog) W.drew ⟨g,0,none⟩ ((Rw.flat xs).take (i*2)) (fun j u hj=>by rw [hadd];exact hocell j u hj)
     rw [hol] at h
     rw [hz3.2.1]
     exact h) kk (by omega) (by rw [hz3.2.1];decide) (by omega) (by omega) (by rw [hz3.2.2];omega) (by rw [hz3.2.2];exact growslice_fits_wide (by omega) (by omega))
   have hsum:i+kk=n+1:=by omega
   rw [hsum] at hap
   obtain ⟨C2,hC2⟩:∃ C2,C2=grownCap W (n+1) c 30:=⟨_,rfl⟩
   have hC2n:n+1≤C2:=by rw [hC2];exact grownCap_ge _ _ _ _
   have hC2m:C2≤maxLen:=by rw [hC2];exact grownCap_le_maxLen _ _ _ _ (by unfold maxLen;omega)
   rw [← hC2] at hap
   obtain ⟨N0,hN0⟩:∃ N0:Array Value,N0=((Rw.flat xs).take (i*2)).toArray++Builtin.zeroCells (Value.agg #[(.string ⟨#[]⟩),(.int .i64 0)]).cells kk++Builtin.zeroCells (Value.agg #[(.string ⟨#[]⟩),(.int .i64 0)]).cells (C2 - (n+1)):=⟨_,rfl⟩
   rw [← hN0] at hap
   have hN0s:N0.size=C2*2:=by rw [hN0,Array.size_append,Array.size_append,List.size_toArray,hol,Rw.zero_len,Rw.zero_len];omega
   have hN0l:N0.toList.length=C2*2:=by rw [Array.length_toList,hN0s]
   have hN0t:N0.toList.take (i*2)=(Rw.flat xs).take (i*2):=by
    rw [hN0,Array.toList_append,Array.toList_append,List.toList_toArray,List.append_assoc,List.take_append_of_le_length (by rw [hol];exact Nat.le_refl _),List.take_of_length_le (by rw [hol];exact Nat.le_refl _)]
   have hb0:(W.alloc (.cells N0 30)).drew.heap[W.heap.size]? = some (.cells N0 30 (0,0)):=blk_drew (blk_new W _)
   have hl2:(Rw.cells2 p).length=2:=rfl
   obtain ⟨N1,hN1⟩:∃ N1:Array Value,N1=(N0.toList.take (i*2)++Rw.cells2 p++N0.toList.drop (i*2+(Rw.cells2 p).length)).toArray:=⟨_,rfl⟩
   have hN1s:N1.size=C2*2:=by rw [hN1];simp only [List.size_toArray,List.length_append,List.length_take,List.length_drop,hN0l,hl2];omega
   have hN1l:N1.toList.length=C2*2:=by rw [Array.length_toList,hN1s]
   have hr1:=Rw.run_copy_cells (P:=Try.prog) (W.alloc (.cells N0 30)).drew 26 26 3 30 W.heap.size (i*2) (n+1 - i) (C2 - i) ⟨vb,0,none⟩ 1 1 N0 30 (Rw.cells2 p) 1 2 Try.underlying26 (by kernel_rfl) hb0 (by show 1=min _ _;omega) rfl (fun j u hj=>by
     rw [hadd,Nat.zero_add,blk_cell (blk_drew (blk_alloc hV _))]
     simpa [Rw.cells2] using hj) (by rw [hN0s,hl2];omega) hpl1
   rw [← hN1] at hr1
   obtain ⟨N2,hN2⟩:∃ N2:Array Value,N2=(N1.toList.take ((i+1)*2)++flat2 xs i++N1.toList.drop ((i+1)*2+(flat2 xs i).length)).toArray:=⟨_,rfl⟩
   have hN2s:N2.size=C2*2:=by rw [hN2];simp only [List.size_toArray,List.length_append,List.length_take,List.length_drop,hN1l,hXl];omega
   have hgne:g≠W.heap.size:=by omega
   have hb1:((W.alloc (.cells N0 30)).drew.setRow W.heap.size N1).heap[W.heap.size]? = some (.cells N1 30 (0,0)):=setRow_heap _ _ N0 _ 30 (0,0) hb0
   have hg1:((W.alloc (.cells N0 30)).drew.setRow W.heap.size N1).heap[g]? = some (.cells cur 30 (0,0)):=by
    rw [setRow_other _ _ _ _ hgne];exact blk_drew (blk_alloc hg _)
   have hr2:=Rw.run_copy_cells (P:=Try.prog) ((W.alloc (.cells N0 30)).drew.setRow W.heap.size N1).drew 26 26 3 30 W.heap.size ((i+1)*2) (n - i) (C2 - (i+1)) ⟨g,i*2,none⟩ (n - i) (c - i) N1 30 (flat2 xs i) (n - i) 2 Try.underlying26 (by kernel_rfl) (blk_drew hb1) (by show n - i=min _ _;omega) hXl (fun j u hj=>by
     rw [hadd,blk_cell (blk_drew hg1),← blk_cell hg]
     exact hcells j u hj) (by rw [hN1s,hXl];omega) hfl1
   rw [← hN2] at hr2
   have e1:N1.toList.take ((i+1)*2)=(Rw.flat xs).take (i*2)++Rw.cells2 p:=by
    have hl3:((Rw.flat xs).take (i*2)++Rw.cells2 p).length=(i+1)*2:=by rw [List.length_append,hol,hl2];omega
    rw [hN1,List.toList_toArray,hN0t,← hl3,List.take_left]
   have hNew:N2.toList.take ((n+1)*2)=Rw.flat (xs.take i++p::xs.drop i):=by
    have hln:((Rw.flat xs).take (i*2)++Rw.cells2 p++flat2 xs i).length=(n+1)*2:=by
     rw [List.length_append,List.length_append,hol,hXl,hl2];omega
    rw [hN2,List.toList_toArray,e1,hfin,← hln,List.take_left]
   have HFR:=am (Rw.flat_R (w:=((W.alloc (.cells N0 30)).drew.setRow W.heap.size N1).drew.setRow W.heap.size N2) (base:=base) (ok:=fun _=>True) (v:=.slice (some ⟨W.heap.size,0,none⟩) (n+1) C2) (xs:=xs.take i++p::xs.drop i) ⟨Rw.flat_len _,.inr ⟨W.heap.size,C2,N2,by rw [hflen],hbase,setRow_heap _ _ N1 _ 30 (0,0) (blk_drew hb1),by rw [hflen];exact hC2n,hC2m,hN2s,by rw [hflen];exact hNew⟩⟩ (fun _ _=>trivial))
   have HBE:=am (Rw.below_turn (below_drew1 (Rw.below_turn (below_drew1 ((Below.refl base W).alloc hbase (.cells N0 30))) hbase N1)) hbase N2)
   have hcb:decide ((c:Int) < (n:Int)+1)=true:=decide_eq_true (by omega)
   have hci2:¬ (C2=i):=by omega
   have hci3:¬ (C2=i+1):=by omega
   have hic:i≤c:=by omega
   have g3:(0:Int)≤(i:Int)+1:=by omega
   have g4:((i:Int)+1).toNat=i+1:=by omega
   have g5:(i:Int)+1≤(n:Int)+1:=by omega
   have g6:i≤n+1:=by omega
   have g12:(i:Int)≤(n:Int)+1:=by omega
   have g8:=HW1.out
   have g9:=HW3.out
   have g13':wrap64 ((n:Int)+1 - (i:Int))=(kk:Int):=by rw [hkk];exact HW4.out
   have G13:=am g13'
   clear g13'
   have G11:=am hr2
   have HAP:=am hap
   clear hap hr2 e1 hNew hN0 hN1 hN2 hN0s hN1s hN2s hN0l hN1l hN0t hb0 hb1 hg1 hgne hl2 hcap hfin hflen hXl hfl1 hpl1 hadd hcells hcl hcs htk hg hV hO hne hl hlt hp0 hi hn hin hnc hglt hvlt hgv hbg hC2 hC2n hC2m hsum hkk hol hocell hi0 hz3
   go_enter Try.func26,Try.ntmps26
   go_wp2_with ((with_reducible refine gate_builtin (b:=.append) (xs:=#[.tmp 34,.tmp 39]) rfl ?_);at_builtin;refine Rw.append_ev W rfl (.tmp 34) (.tmp 39) 26 3 rfl (.slice (some ⟨g,0,none⟩) i c) (.int .i64 (kk:Int)) rfl (congrArg (Value.int .i64) G13.out) HAP.out ?_)
   refine start_ (n:=9) (S:=fun w'=>True) (ds:=[]) _ (by kernel_rfl) rfl rfl trivial (fun hHeld=>?_)
   refine pK 0 46 ?_;refine pK 1 47 ?_;refine pK 2 48 ?_;refine pK 3 49 ?_;refine pK 4 50 ?_;refine pK 5 51 ?_;refine pK 6 52 ?_;refine pK 7 53 ?_
   refine oK 8 (some 54) (fun K hK=>?_)
   refine Rw.copy_step ((W.alloc (.cells N0 30)).drew.setRow W.heap.size N1).drew (by rfl) (.tmp 50) (.tmp 53) 26 26 rfl (.slice (some ⟨W.heap.size,(i+1)*2,none⟩) (n - i) (C2 - (i+1))) (.slice (some ⟨g,i*2,none⟩) (n - i) (c - i)) rfl rfl (v':=goInt ((n - i:Nat):Int)) (w':=((W.alloc (.cells N0 30)).drew.setRow W.heap.size N1).drew.setRow W.heap.size N2) G11.out ?_
   refine hK.out _ _ trivial (fun hHeld=>?_)
   clear hK K;refine norm_ (a':=?_) ?_ ?_;rotate_left
   ·show Act.put _ (some 54) _=_
    simp only [Act.put,sIb,sC0,sCs,i64_w,i32_w];rfl
   refine done_ (by kernel_rfl) ?_
   go_wp2;go_ret
   exact ⟨_,rfl,HFR.out,HBE.out⟩
  ·have hcap':n+1≤c:=by omega
   obtain ⟨N1,hN1⟩:∃ N1:Array Value,N1=(cur.toList.take ((i+1)*2)++flat2 xs i++cur.toList.drop ((i+1)*2+(flat2 xs i).length)).toArray:=⟨_,rfl⟩
   have hN1s:N1.size=cur.size:=by rw [hN1];simp only [List.size_toArray,List.length_append,List.length_take,List.length_drop,hXl,hcl,hcs];omega
   have hN1l:N1.toList.length=c*2:=by rw [Array.length_toList,hN1s,hcs]
   have hr1:∀ W2:World,W2.heap=W.heap→∀ c1 c2,(Builtin.copy_ #[26,26] 3 #[.slice (some ⟨g,(i+1)*2,none⟩) (n - i) c1,.slice (some ⟨g,i*2,none⟩) (n+1 - i) c2]).run Try.prog W2=.ok (goInt ((n - i:Nat):Int)) (W2.setRow g N1):=by
    intro W2 hW2 c1 c2
    have h:=Rw.run_copy_cells (P:=Try.prog) W2 26 26 3 30 g ((i+1)*2) (n - i) c1 ⟨g,i*2,none⟩ (n+1 - i) c2 cur 30 (flat2 xs i) (n - i) 2 Try.underlying26 (by kernel_rfl) (by rw [hW2];exact hg) (by show n - i=min _ _;omega) hXl (fun j u hj=>by
     rw [hadd]
     have:=hcells j u hj
     unfold World.cell? at this ⊢
     rw [hW2];exact this) (by rw [hXl,hcs];omega) hfl1
    rw [← hN1] at h
    exact h
   obtain ⟨N2,hN2⟩:∃ N2:Array Value,N2=(N1.toList.take (i*2)++Rw.cells2 p++N1.toList.drop (i*2+(Rw.cells2 p).length)).toArray:=⟨_,rfl⟩
   have hN2s:N2.size=cur.size:=by rw [hN2];simp only [List.size_toArray,List.length_append,List.length_take,List.length_drop,hN1l,hcs];simp only [Rw.cells2,List.length_cons,List.length_nil];omega
   have hr2:∀ W2:World,W2.heap=W.heap→∀ c1,(Builtin.copy_ #[26,26] 3 #[.slice (some ⟨g,i*2,none⟩) (n+1 - i) c1,.slice (some ⟨vb,0,none⟩) 1 1]).run Try.prog (W2.setRow g N1)=.ok (goInt 1) ((W2.setRow g N1).setRow g N2):=by
    intro W2 hW2 c1
    have h:=Rw.run_copy_cells (P:=Try.prog) (W2.setRow g N1) 26 26 3 30 g (i*2) (n+1 - i) c1 ⟨vb,0,none⟩ 1 1 N1 30 (Rw.cells2 p) 1 2 Try.underlying26 (by kernel_rfl) (setRow_heap _ _ cur _ 30 (0,0) (by rw [hW2];exact hg)) (by show 1=min _ _;omega) rfl (fun j u hj=>by
     rw [hadd]
     have hv2:(W2.setRow g N1).heap[vb]? = some (.cells #[.string p.f0,.int .i64 p.f1] 30 (0,0)):=by rw [setRow_other _ _ _ _ (fun e=>hgv e.symm),hW2];exact hV
     rw [Nat.zero_add,blk_cell hv2]
     simpa [Rw.cells2] using hj) (by rw [hN1s,hcs];simp only [Rw.cells2,List.length_cons,List.length_nil];omega) hpl1
    rw [← hN2] at h
    exact h
   have e1:N1.toList.take (i*2)=(Rw.flat xs).take (i*2):=by
    rw [hN1,List.toList_toArray,List.append_assoc,List.take_append_of_le_length (by rw [List.length_take,hcl];omega),List.take_take,Nat.min_eq_left (by omega),← htk,List.take_take,Nat.min_eq_left (by omega)]
   have e2:N1.toList.drop (i*2+2)=flat2 xs i++cur.toList.drop ((i+1)*2+(flat2 xs i).length):=by
    have hl2:(cur.toList.take ((i+1)*2)).length=i*2+2:=by rw [List.length_take,hcl];omega
    rw [hN1,List.toList_toArray,List.append_assoc,← hl2,List.drop_left]
   have hNew:N2.toList.take ((n+1)*2)=Rw.flat (xs.take i++p::xs.drop i):=by
    have hln:((Rw.flat xs).take (i*2)++Rw.cells2 p++flat2 xs i).length=(n+1)*2:=by
     rw [List.length_append,List.length_append,List.length_take,Rw.flat_len,hXl,hn,show (Rw.cells2 p).length=2 from rfl];omega
    rw [hN2,List.toList_toArray,e1,show (Rw.cells2 p).length=2 from rfl,e2,← List.append_assoc,hfin,← hln,List.take_left]
   have hov:∀ lb cb,(callFunc 50 #[.slice (some ⟨vb,0,none⟩) 1 1,.slice (some ⟨g,(i+1)*2,none⟩) lb cb]).run Try.prog W=.ok (.value (.bool false)) W:=fun lb cb=>by
    rw [run_callFunc_extern Try.func50 (by kernel_rfl) (by kernel_rfl) (by kernel_rfl) (e:=Extern.SlicesOverlaps.overlaps #[26,26] #[4]) (by kernel_rfl),
     Lib.run_overlaps_apart W 26 4 30 Try.underlying26 2 Try.sizeOf30 ⟨vb,0,none⟩ ⟨g,(i+1)*2,none⟩ 1 1 lb cb (fun e=>hgv e.symm) 30 30 2 cur.size (by simp [World.shape?,hV]) (by simp [World.shape?,hg]) (by rw [hcs];omega) (blk_frozen hV 0) (blk_frozen hV 2)]
    rfl
   have HFR:=am (Rw.flat_R (w:=(W.drew.setRow g N1).setRow g N2) (base:=base) (ok:=fun _=>True) (v:=.slice (some ⟨g,0,none⟩) (n+1) c) (xs:=xs.take i++p::xs.drop i) ⟨Rw.flat_len _,.inr ⟨g,c,N2,by rw [hflen],hbg,setRow_heap _ _ N1 _ 30 (0,0) (setRow_heap _ _ cur _ 30 (0,0) hg),by rw [hflen];exact hcap',HCM.out,by rw [hN2s,hcs],by rw [hflen];exact hNew⟩⟩ (fun _ _=>trivial))
   have HBE:=am (Rw.below_turn (Rw.below_turn (below_drew1 (Below.refl base W)) hbg N1) hbg N2)
   have hcb:decide ((c:Int) < (n:Int)+1)=false:=decide_eq_false (by omega)
   have hci1:¬ (c=i+1):=by omega
   have g1:(0:Int)≤(n:Int)+1:=by omega
   have g2:((n:Int)+1).toNat=n+1:=by omega
   have g3:(0:Int)≤(i:Int)+1:=by omega
   have g4:((i:Int)+1).toNat=i+1:=by omega
   have g5:(i:Int)+1≤(n:Int)+1:=by omega
   have g6:i≤n+1:=by omega
   have g12:(i:Int)≤(n:Int)+1:=by omega
   have g7:(n:Int)+1≤(c:Int):=by omega
   have g8:=HW1.out
   have g9:=HW3.out
   have g10:=hr1 W.drew rfl
   have g11:=hr2 W.drew rfl
   clear e1 e2 hNew hN1 hN2 hN1s hN2s hN1l hr1 hr2 hcap hfin hflen hXl hfl1 hpl1 hadd hcells hcl hcs htk hg hV hO hne hl hlt hp0 hi hn hin hnc hglt hvlt hgv hbg
   go_enter Try.func26,Try.ntmps26
   go_wp2
   have G10:=am g10
   have G11:=am g11
   clear g10 g11
   refine start_ (n:=9) (S:=fun w'=>True) (ds:=[]) _ (by kernel_rfl) rfl rfl trivial (fun hHeld=>?_)
   refine pK 0 69 ?_;refine pK 1 70 ?_;refine pK 2 71 ?_;refine pK 3 72 ?_;refine pK 4 73 ?_;refine pK 5 74 ?_;refine pK 6 75 ?_;refine pK 7 76 ?_
   refine oK 8 (some 77) (fun K hK=>?_)
   refine Rw.copy_step W.drew (by rfl) (.tmp 73) (.tmp 76) 26 26 rfl (.slice (some ⟨g,(i+1)*2,none⟩) (n - i) (c - (i+1))) (.slice (some ⟨g,i*2,none⟩) (n+1 - i) (c - i)) rfl rfl (v':=goInt ((n - i:Nat):Int)) (w':=W.drew.setRow g N1) (G10.out _ _) ?_
   refine hK.out _ _ trivial (fun hHeld=>?_)
   clear hK K;refine norm_ (a':=?_) ?_ ?_;rotate_left
   ·show Act.put _ (some 77) _=_
    simp only [Act.put,sIb,sC0,sCs,i64_w,i32_w];rfl
   refine done_ (by kernel_rfl) ?_
   have g11:=G11.out
   go_wp2;go_ret
   exact ⟨_,rfl,HFR.out,HBE.out⟩
def api_Name_27.f (l0:List S30):Option (List S30):=if l0.length < 4398046511104 then some l0 else none
set_option maxHeartbeats 8000000 in
set_option maxRecDepth 100000 in
theorem api_Name_27.calls (A0:Option Addr) (c0:Nat) (l0:List (S30)) (r:List (S30)) (w:World) (hr0:Kd.C k30 w A0 l0.length l0) (hc0:l0.length≤c0) (h:api_Name_27.f l0=some r) :
  Calls Try.prog 27 #[.slice A0 l0.length c0] w fun e w'=>∃ v0_:Value,e=.returned (v0_)∧Kd.R k30 30 w' w.heap.size (fun _=>True) v0_ r∧Below w.heap.size w w':=by
 unfold api_Name_27.f at h
 by_cases hl:l0.length < 4398046511104
 ·rw [if_pos hl] at h
  obtain rfl:=Option.some.inj h
  have hu26:=Try.underlying30
  cases A0 with
  | none =>
   obtain rfl:l0=[]:=by
    rcases Nat.eq_zero_or_pos l0.length with h0|h0
    ·exact List.eq_nil_of_length_eq_zero h0
    ·obtain ⟨ad,e,_⟩:=hr0.2.2 h0
     cases e
   clear hr0
   have hq:=fun W:World=>eql_nil (P:=Try.prog) W 26 30 none 0 c0 0 0 Try.underlying26
   simp only [Option.isNone_none] at hq
   go_enter Try.func27,Try.ntmps27
   go_wp2;go_ret
   exact ⟨_,rfl,Kd.R_nil _ _ _ _ _,Below.refl _ _⟩
  | some ad =>
   have HR0:=am hr0
   have HC0:=am hc0
   have HL:=am hl
   clear hr0 hc0 hl h
   have hq:=fun W:World=>eql_nil (P:=Try.prog) W 26 30 (some ad) l0.length c0 0 0 Try.underlying26
   simp only [Option.isNone_some] at hq
   go_enter Try.func27,Try.ntmps27
   go_wp2_with (first|((with_reducible refine gate_builtin (b:=.append) (xs:=#[.tmp 5,.tmp 6]) rfl ?_);at_builtin;refine Kd.R_append_rows k30 (w0:=w) w.heap.size rfl (.tmp 5) (.tmp 6) 26 30 (.agg #[(.string ⟨#[]⟩),(.int .i64 0)]) 24 rfl Try.underlying26 info30 rfl (by decide) (by omega) v1 [] l0 _ _ _ (fun _=>True) (fun _=>False) rfl rfl ho1.out (Kd.C_below HR0.out hb1.out) (fun _ _ h=>h) (fun _ h=>h.elim) (fun _ _=>trivial) hb1.out hb1.out.size (by have:=HL.out;simp only [List.length_nil];omega) ?_;intro v2 w2 ho2 hb2 hg2 hat2;rw [List.nil_append] at ho2;have HO2:=am ho2;have HB2:=am hb2;clear ho2 hb2 hg2 hat2)|((with_reducible refine gate_dst (N:=5) rfl ?_);refine Kd.R_lit k30 (w0:=w) _ 30 ?hg (N:=5) ?hd (xs:=([]:List S30)) (inner:=[]) (ok:=fun _=>True) (okp:=fun _=>True) ?hr ?hp (fun _ hk=>hk) trivial (Below.refl _ _) (Nat.le_refl _) (by simp) ?_;(case hd=>rfl);(case hg=>rfl);(case hr=>first|(go_simp;done)|(go_simp;rfl));(case hp=>exact (Reps.none _ _));intro v1 w1 ho1' hb1' hg1 hn1;have ho1:=am ho1';have hb1:=am hb1';clear ho1' hb1' hg1 hn1))
   go_ret
   exact ⟨_,rfl,HO2.out,HB2.out⟩
 ·rw [if_neg hl] at h
  cases h
end Go.Proofs.Yteglhbfhibfodaa.Pr
end
section
namespace Go.Proofs
open Go.Shelf
def Try.sortNm_ren : Go.Shelf.Ren := ⟨fun | 6 => 38 | 15 => 65 | 14 => 64 | 28 => 85 | 29 => 86 | 20 => 77 | 21 => 78 | 22 => 79 | 23 => 80 | 24 => 81 | 25 => 82 | 26 => 83 | 27 => 84 | 46 => 94 | 47 => 95 | 48 => 96 | 49 => 97 | 50 => 98 | 57 => 104 | n => n, fun | 22 => 26 | 24 => 30 | 25 => 63 | 3 => 3 | 39 => 36 | 0 => 0 | 53 => 64 | 55 => 90 | 4 => 4 | 46 => 122 | 45 => 121 | 50 => 46 | 5 => 5 | 9 => 9 | 66 => 134 | 70 => 138 | 76 => 148 | 77 => 149 | n => n, fun | n => n⟩
theorem Try.sortNm : Go.Proofs.SlLaysF0.n6 Try.prog Try.sortNm_ren := {
  mixed := by kernel_rfl
  f6 := ⟨Try.f38.name, by decide, Try.func38.trans (congrArg some (by kernel_rfl))⟩
  f14 := ⟨Try.f64.name, by decide, Try.func64.trans (congrArg some (by kernel_rfl))⟩
  f15 := Try.func65.trans (congrArg some (by kernel_rfl))
  f20 := ⟨Try.f77.name, by decide, Try.func77.trans (congrArg some (by kernel_rfl))⟩
  f21 := ⟨Try.f78.name, by decide, Try.func78.trans (congrArg some (by kernel_rfl))⟩
  f22 := ⟨Try.f79.name, by decide, Try.func79.trans (congrArg some (by kernel_rfl))⟩
  f23 := ⟨Try.f80.name, by decide, Try.func80.trans (congrArg some (by kernel_rfl))⟩
  f24 := ⟨Try.f81.name, by decide, Try.func81.trans (congrArg some (by kernel_rfl))⟩
  f25 := ⟨Try.f82.name, by decide, Try.func82.trans (congrArg some (by kernel_rfl))⟩
  f26 := ⟨Try.f83.name, by decide, Try.func83.trans (congrArg some (by kernel_rfl))⟩
  f27 := ⟨Try.f84.name, by decide, Try.func84.trans (congrArg some (by kernel_rfl))⟩
  f28 := Try.func85.trans (congrArg some (by kernel_rfl))
  f29 := Try.func86.trans (congrArg some (by kernel_rfl))
  f46 := ⟨Try.f94.name, by decide, Try.func94.trans (congrArg some (by kernel_rfl))⟩
  f47 := Try.func95.trans (congrArg some (by kernel_rfl))
  f48 := Try.func96.trans (congrArg some (by kernel_rfl))
  f49 := ⟨Try.f97.name, by decide, Try.func97.trans (congrArg some (by kernel_rfl))⟩
  f50 := ⟨Try.f98.name, by decide, Try.func98.trans (congrArg some (by kernel_rfl))⟩
  f57 := ⟨Try.f104.name, by decide, Try.func104.trans (congrArg some (by kernel_rfl))⟩
  t0 := Try.underlying0
  a0 := Try.isAgg0
  z0 := Try.sizeOf0
  v0 := Try.zeroValue0
  t3 := Try.underlying3
  a3 := Try.isAgg3
  z3 := Try.sizeOf3
  v3 := Try.zeroValue3
  t4 := Try.underlying4
  a4 := Try.isAgg4
  z4 := Try.sizeOf4
  v4 := Try.zeroValue4
  t5 := Try.underlying5
  a5 := Try.isAgg5
  z5 := Try.sizeOf5
  v5 := Try.zeroValue5
  t9 := Try.underlying9
  a9 := Try.isAgg9
  z9 := Try.sizeOf9
  v9 := Try.zeroValue9
  t22 := Try.underlying26
  a22 := Try.isAgg26
  z22 := Try.sizeOf26
  v22 := Try.zeroValue26
  t25 := Try.underlying63
  a25 := Try.isAgg63
  z25 := Try.sizeOf63
  v25 := Try.zeroValue63
  t39 := Try.underlying36
  a39 := Try.isAgg36
  z39 := Try.sizeOf36
  v39 := Try.zeroValue36
  t45 := Try.underlying121
  a45 := Try.isAgg121
  z45 := Try.sizeOf121
  v45 := Try.zeroValue121
  t46 := Try.underlying122
  a46 := Try.isAgg122
  z46 := Try.sizeOf122
  v46 := Try.zeroValue122
  t50 := Try.underlying46
  a50 := Try.isAgg46
  z50 := Try.sizeOf46
  v50 := Try.zeroValue46
  t53 := Try.underlying64
  a53 := Try.isAgg64
  z53 := Try.sizeOf64
  v53 := Try.zeroValue64
  t55 := Try.underlying90
  a55 := Try.isAgg90
  z55 := Try.sizeOf90
  v55 := Try.zeroValue90
  t66 := Try.underlying134
  a66 := Try.isAgg134
  z66 := Try.sizeOf134
  v66 := Try.zeroValue134
  t70 := Try.underlying138
  a70 := Try.isAgg138
  z70 := Try.sizeOf138
  v70 := Try.zeroValue138
  t76 := Try.underlying148
  a76 := Try.isAgg148
  z76 := Try.sizeOf148
  v76 := Try.zeroValue148
  t77 := Try.underlying149
  a77 := Try.isAgg149
  z77 := Try.sizeOf149
  v77 := Try.zeroValue149 }
end Go.Proofs
end
section
namespace Go.Proofs.Yteglhbfhibfodaa.Pr
open Go.RowKit Go.Proofs.YteglhbfhibfodaaW.PrintWords Go.Proofs.YteglhbfhibfodaaW.PrintLast Go.Proofs.YteglhbfhibfodaaW.PrintMore
attribute [local go_sem] max2_int min2_int max_two min_two max_three min_three max_four min_four
attribute [local go_sem] Go.Proofs.Yteglhbfhibfodaa.Hl.str_geq Go.Proofs.Yteglhbfhibfodaa.Hl.str_gtr Go.Proofs.Yteglhbfhibfodaa.Hl.str_leq
set_option linter.unusedVariables false
set_option linter.unusedSimpArgs false
def Fw (w w':World):Prop:=Below w.heap.size w w'∧w.drawn≤w'.drawn
theorem Fw.refl (w:World):Fw w w:=⟨Below.refl _ _,Nat.le_refl _⟩
theorem Fw.trans {a b c:World} (h:Fw a b) (k:Fw b c):Fw a c:=⟨h.1.trans (k.1.mono h.1.size),Nat.le_trans h.2 k.2⟩
theorem Fw.alloc {a b:World} (h:Fw a b) (o:Obj):Fw a (b.alloc o):=⟨below_alloc h.1 o,h.2⟩
theorem Fw.drewN {a b:World} (h:Fw a b) (n:Nat):Fw a (b.drewN n):=⟨pw_below_drewN h.1 n,Nat.le_trans h.2 (Nat.le_add_right _ _)⟩
theorem Fw.drew {a b:World} (h:Fw a b):Fw a b.drew:=⟨below_drew1 h.1,Nat.le_trans h.2 (Nat.le_add_right _ _)⟩
set_option maxHeartbeats 8000000 in
set_option maxRecDepth 100000 in
theorem more_fw (k:Nat) (a0:Int) (A1:Option Addr) (c1:Nat) (l1:List Int) (r:Int) (w:World) (hr1:Kd.C (Kd.int .u8) w A1 l1.length l1) (hc1:l1.length≤c1) (h:crc_More.f k a0 l1=some r) :
  Calls Try.prog 69 #[.int .u32 a0,.slice A1 l1.length c1] w fun e w'=>e=.returned (.int .u32 r)∧Fw w w':=by
 have HR1:=am hr1
 have HC1:=am hc1
 clear hr1 hc1
 have HB:=am (Below.refl w.heap.size w)
 have HDr:=am (Nat.le_refl w.drawn)
 have H:(if (l1.length:Int) < 512 then (crc_More.l0 k (Go.bits .xor .u32 (4294967295) a0) l1 (l1.length:Int) 0) else (none))=some r:=h
 clear h
 by_cases c3:(l1.length:Int) < 512
 ·rw [if_pos c3] at H
  have c3b0:decide ((l1.length:Int) < 512)=true:=decide_eq_true c3
  have c3b1:decide (l1.length < 512)=true:=decide_eq_true (by omega)
  clear c3
  have H':=am H
  clear H
  go_enter Try.func69,Try.ntmps69
  go_wp2
  go_loopg [5,18] k (fun kq v5 v18 w'=>∃ (x5_1:Int) (x18_1:Int),v5=.int .u32 x5_1∧v18=.int .i64 x18_1∧Aside0 (crc_More.l0 kq x5_1 l1 (l1.length:Int) x18_1=some r)∧Aside0 (kq≤k)∧Aside0 (Below w.heap.size w w')∧Aside0 (w.drawn≤w'.drawn))
  case atStart=>exact ⟨(Go.bits .xor .u32 (4294967295) a0),(0),(by first|rfl|(simp;done)|(simp [*];done)),(by first|rfl|(simp;done)|(simp [*];done)),H',⟨Nat.le_refl _⟩,⟨bb HB⟩,⟨by have:=HDr.out;(try simp [World.drewN,World.drew])<;>omega⟩⟩
  case round =>
   clear H'
   try clear c1
   try clear p2
   try clear c3
   try clear c3b0
   try clear c3b1
   obtain ⟨x5_1,x18_1,rfl,rfl,HA,HK1,HB,HDr⟩:=hrel
   cases gk with
   | zero=>exact absurd HA.out (by intro h_;cases h_)
   | succ k1 =>
    have H:=HA.out
    clear HA
    simp only [crc_More.l0] at H
    by_cases c4:x18_1 < (l1.length:Int)
    ·rw [if_pos c4] at H
     have c4b0:decide (x18_1 < (l1.length:Int))=true:=decide_eq_true c4
     clear c4
     by_cases c5:0≤x18_1
     ·rw [if_pos c5] at H
      have c5b0:decide (0≤x18_1)=true:=decide_eq_true c5
      clear c5
      by_cases c6:x18_1 < (l1.length:Int)
      ·rw [if_pos c6] at H
       have c6b0:decide (x18_1 < (l1.length:Int))=true:=decide_eq_true c6
       clear c6
       replace H:=Option.bind_eq_some_iff.mp H
       obtain ⟨t107,A70,H⟩:=H
       replace H:((crc_nibble.f k1 (Go.bits .and .u32 (Go.bits .xor .u32 ((Go.bits .xor .u32 x5_1 ((rd l1 x18_1) % 4294967296)) / 16) t107) 15)).bind fun t108=>(crc_More.l0 k1 (Go.bits .xor .u32 ((Go.bits .xor .u32 ((Go.bits .xor .u32 x5_1 ((rd l1 x18_1) % 4294967296)) / 16) t107) / 16) t108) l1 (l1.length:Int) (wrap64 (x18_1+1))))=some r:=H
       have A7:=am A70
       clear A70
       replace H:=Option.bind_eq_some_iff.mp H
       obtain ⟨t108,A80,H⟩:=H
       replace H:(crc_More.l0 k1 (Go.bits .xor .u32 ((Go.bits .xor .u32 ((Go.bits .xor .u32 x5_1 ((rd l1 x18_1) % 4294967296)) / 16) t107) / 16) t108) l1 (l1.length:Int) (wrap64 (x18_1+1)))=some r:=H
       have A8:=am A80
       clear A80
       have H':=am H
       clear H
       have p106:0≤(x18_1:Int):=od
       have q106:x18_1 < (l1.length:Int):=od
       obtain ⟨ad106,e106,hx106_0⟩:=Kd.at_int HR1.out x18_1 p106 q106
       cases e106
       replace hx106_0:=hB HB hx106_0
       replace p106:=eq_true p106;replace q106:=eq_true q106
       go_wp2_with (first|((with_reducible refine gate_callee (f:=89) rfl ?_);refine goesL_ (some 30) rfl rfl Try.func89 (by kernel_rfl) rfl #[.int .u32 (Go.bits .and .u32 (Go.bits .xor .u32 x5_1 ((rd l1 x18_1) % 4294967296)) 15)] rfl (by (try simp only [List.map_toArray,List.map_cons,List.map_nil]);first|done|rfl|(simp only [List.length_drop,List.length_take];rfl)) ?_;(with_reducible refine (crc_nibble.calls k1 (Go.bits .and .u32 (Go.bits .xor .u32 x5_1 ((rd l1 x18_1) % 4294967296)) 15) t107 _ A7.out).mono ?_);rintro e w' ⟨rfl,⟨nd,rfl⟩⟩;refine ⟨_,rfl,?_⟩)|((with_reducible refine gate_callee (f:=89) rfl ?_);refine goesL_ (some 36) rfl rfl Try.func89 (by kernel_rfl) rfl #[.int .u32 (Go.bits .and .u32 (Go.bits .xor .u32 ((Go.bits .xor .u32 x5_1 ((rd l1 x18_1) % 4294967296)) / 16) t107) 15)] rfl (by (try simp only [List.map_toArray,List.map_cons,List.map_nil]);first|done|rfl|(simp only [List.length_drop,List.length_take];rfl)) ?_;(with_reducible refine (crc_nibble.calls k1 (Go.bits .and .u32 (Go.bits .xor .u32 ((Go.bits .xor .u32 x5_1 ((rd l1 x18_1) % 4294967296)) / 16) t107) 15) t108 _ A8.out).mono ?_);rintro e w' ⟨rfl,⟨nd,rfl⟩⟩;refine ⟨_,rfl,?_⟩))
       go_roundg k1
       case measure=>have:=HK1.out;omega
       case rel=>exact ⟨(Go.bits .xor .u32 ((Go.bits .xor .u32 ((Go.bits .xor .u32 x5_1 ((rd l1 x18_1) % 4294967296)) / 16) t107) / 16) t108),(wrap64 (x18_1+1)),(by first|rfl|(simp;done)|(simp [*];done)),(by first|rfl|(simp;done)|(simp [*];done)),H',⟨by have:=HK1.out;omega⟩,⟨bb HB⟩,⟨by have:=HDr.out;(try simp [World.drewN,World.drew])<;>omega⟩⟩
      ·rw [if_neg c6] at H
       exact absurd H (by simp)
     ·rw [if_neg c5] at H
      exact absurd H (by simp)
    ·rw [if_neg c4] at H
     have c4b0:decide (x18_1 < (l1.length:Int))=false:=decide_eq_false c4
     clear c4;obtain rfl:=Option.some.inj H;go_wp2;go_ret
     exact ⟨by first|rfl|(simp [errW_none,errW_some]<;>rfl)|(simp [*,errW_none,errW_some]<;>rfl),⟨bb HB,by have:=HDr.out;(try simp [World.drewN,World.drew])<;>omega⟩⟩
 ·rw [if_neg c3] at H
  exact absurd H (by simp)
set_option maxRecDepth 100000 in
theorem sumB_fw (k:Nat) (A0:Option Addr) (c0:Nat) (l0:List Int) (r:Int) (w:World) (hr0:Kd.C (Kd.int .u8) w A0 l0.length l0) (hc0:l0.length≤c0) (h:crc_More.f k 0 l0=some r):Calls Try.prog 47 #[.slice A0 l0.length c0] w fun e w'=>e=.returned (.int .u32 r)∧Fw w w':=by
 have HH:=am h
 have HR:=am hr0
 have HC:=am hc0
 clear h hr0 hc0
 go_enter Try.func47,Try.ntmps47
 go_wp2_with (go_at_call 69;refine (more_fw k 0 A0 c0 l0 r _ HR.out HC.out HH.out).mono ?_;rintro e2 w2 ⟨rfl,hb2⟩;have HB2:=am hb2;clear hb2)
 go_ret
 exact ⟨rfl,HB2.out⟩
set_option maxRecDepth 100000 in
theorem sum_fw (s:ByteArray) (hs:s.size < 512) (w:World):Calls Try.prog 34 #[.string s] w fun e w'=>e=.returned (.int .u32 (Ht.sumN s))∧Fw w w':=by
 obtain ⟨k,hk⟩:=(Cr.more_ev (bytesOf s) (by rw [bytesOf_length];exact hs) 0#32).rounds
 have HH:=am (show crc_More.f k 0 (bytesOf s)=some (Ht.sumN s) from hk)
 obtain ⟨cf,g,hcv,hcc,hcC⟩:=conv_run (P:=Try.prog) s Try.underlying9 Try.underlying66 Try.underlying5 (by omega)
 have HCC:=am hcc
 have HCv:=am hcC
 clear hk hs hcc hcC
 go_enter Try.func34,Try.ntmps34
 go_wp2_with (go_at_call 47;refine (sumB_fw k _ _ (bytesOf s) _ _ (HCv.out _) (HCC.out _) HH.out).mono ?_;rintro e2 w2 ⟨rfl,hb2⟩;have HB2:=am hb2;clear hb2)
 go_ret
 exact ⟨rfl,((Fw.refl w).drew.alloc _).trans HB2.out⟩
theorem two_row {W:World} {vb:Nat} {x y:Int} {t:TypeId} (hV:W.heap[vb]? = some (.cells #[.int .i64 x,.int .i64 y] t (0,0))):Kd.C (Kd.int .i64) W (some ⟨vb,0,none⟩) ([x,y]:List Int).length [x,y]:=by
 refine Kd.C_of_reads (d:=(0:Int)) (h1:=fun _=>rfl) ⟨rfl,by simp,fun _=>⟨_,rfl,fun j hj=>?_⟩⟩
 have hc:=blk_cell hV
 match j,hj with
 | 0,_=>exact (hc 0).trans rfl
 | 1,_=>exact (hc 1).trans rfl
set_option maxHeartbeats 8000000 in
set_option maxRecDepth 100000 in
theorem inOrder_fw (a b:ByteArray) (m n:Int) (ha:a.size < 512) (hb:b.size < 512) (w:World):Calls Try.prog 22 #[.agg #[.string a,.int .i64 m],.agg #[.string b,.int .i64 n]] w fun e w'=>e=.returned (.int .i64 (Ht.ordI a b))∧Fw w w':=by
 obtain ⟨x,hx⟩:∃ x:Int,(if Ht.sumN a < Ht.sumN b then -1 else if Ht.sumN b < Ht.sumN a then 1 else 0:Int)=x:=⟨_,rfl⟩
 obtain ⟨y,hy⟩:∃ y:Int,Lib.compareBytes a.data.toList b.data.toList=y:=⟨_,rfl⟩
 have hr:Ht.ordI a b=if x=0 then y else x:=by
  rw [← hx,← hy]
  unfold Ht.ordI
  by_cases h1:Ht.sumN a < Ht.sumN b
  ·simp [h1]
  ·by_cases h2:Ht.sumN b < Ht.sumN a
   ·simp [h1,h2]
   ·simp [h1,h2]
 obtain ⟨k,hk⟩:=(Ht.or_two x y).rounds
 rw [hr]
 obtain ⟨r,hr2⟩:∃ r:Int,(if x=0 then y else x)=r:=⟨_,rfl⟩
 rw [hr2] at hk ⊢
 have HX:=am (show cmp_Compare_uint32.f (Ht.sumN a) (Ht.sumN b)=some x by rw [Ht.cmp_u32,hx])
 have HY:=am (show strings_Compare.f a b=some y by unfold strings_Compare.f;rw [hy])
 have HO:=am hk
 have HA:=am ha
 have HB:=am hb
 obtain ⟨sa,hsa⟩:∃ sa,Ht.sumN a=sa:=⟨_,rfl⟩
 obtain ⟨sb,hsb⟩:∃ sb,Ht.sumN b=sb:=⟨_,rfl⟩
 have HSA:=am hsa
 have HSB:=am hsb
 rw [hsa,hsb] at HX
 have h1:=blk_alloc (blk_new w (.cells #[.string a,.int .i64 m] 30)) (.cells #[.string b,.int .i64 n] 30)
 have h2:=blk_new (w.alloc (.cells #[.string a,.int .i64 m] 30)) (.cells #[.string b,.int .i64 n] 30)
 rw [World.size_alloc] at h2
 have hca:=(blk_cell h1 0).trans rfl
 have hcb:=(blk_cell h2 0).trans rfl
 have hfw:=(((Fw.refl w).alloc (.cells #[.string a,.int .i64 m] 30)).alloc (.cells #[.string b,.int .i64 n] 30)).drew
 clear hx hy hr hk hr2 ha hb hsa hsb h1 h2
 go_enter Try.func22,Try.ntmps22
 go_wp2
 refine start_ (n:=15) (S:=fun w'=>w'.cell? ⟨w.heap.size,0,none⟩=some (.string a)∧w'.cell? ⟨w.heap.size+1,0,none⟩=some (.string b)∧Fw w w') (ds:=[]) _ (by kernel_rfl) rfl rfl ⟨hca,hcb,hfw⟩ (fun hHeld=>?_)
 refine pK 0 5 ?_;refine pK 3 8 ?_;refine pK 7 12 ?_;refine pK 9 14 ?_;refine tK 1 6 hHeld ?_ (hy:=by rintro w' ⟨s0,s1,s2⟩;go_simp;with_reducible rfl);refine tK 4 9 hHeld ?_ (hy:=by rintro w' ⟨s0,s1,s2⟩;go_simp;with_reducible rfl);refine tK 8 13 hHeld ?_ (hy:=by rintro w' ⟨s0,s1,s2⟩;go_simp;with_reducible rfl);refine tK 10 15 hHeld ?_ (hy:=by rintro w' ⟨s0,s1,s2⟩;go_simp;with_reducible rfl)
 refine oK 2 (some 7) (fun K hK=>?_)
 refine gS Try.func34 #[.string a] ?_
 refine (sum_fw a HA.out _).mono ?_
 rw [HSA.out]
 rintro e w3 ⟨rfl,hf3⟩
 refine ⟨_,rfl,?_⟩
 refine hK.out _ _ ⟨(hf3.1.cell (World.block_lt_of_cell? _ _ hHeld.1)).trans hHeld.1,(hf3.1.cell (World.block_lt_of_cell? _ _ hHeld.2.1)).trans hHeld.2.1,hHeld.2.2.trans hf3⟩ (fun hHeld=>?_)
 clear hK K;refine norm_ (a':=?_) ?_ ?_;rotate_left
 ·show Act.put _ (some 7) _=_
  simp only [Act.put,sIb,sC0,sCs,i64_w,i32_w];rfl
 refine oK 5 (some 10) (fun K hK=>?_)
 refine gS Try.func34 #[.string b] ?_
 refine (sum_fw b HB.out _).mono ?_
 rw [HSB.out]
 rintro e w4 ⟨rfl,hf4⟩
 refine ⟨_,rfl,?_⟩
 have HF4:=am (hHeld.2.2.trans hf4)
 refine hK.out _ _ ⟨(hf4.1.cell (World.block_lt_of_cell? _ _ hHeld.1)).trans hHeld.1,(hf4.1.cell (World.block_lt_of_cell? _ _ hHeld.2.1)).trans hHeld.2.1,HF4.out⟩ (fun hHeld=>?_)
 clear hK K;refine norm_ (a':=?_) ?_ ?_;rotate_left
 ·show Act.put _ (some 10) _=_
  simp only [Act.put,sIb,sC0,sCs,i64_w,i32_w];rfl
 refine oK 6 (some 11) (fun K hK=>?_)
 refine gS Try.func41 #[.int .u32 sa,.int .u32 sb] ?_
 refine (cmp_Compare_uint32.calls sa sb x _ HX.out).mono ?_
 rintro e w5 ⟨rfl,⟨m5,rfl⟩⟩
 refine ⟨_,rfl,?_⟩
 refine hK.out _ _ ⟨hHeld.1,hHeld.2.1,(by first|exact HF4.out.drewN _|exact (HF4.out.drewN _).drewN _|exact ((HF4.out.drewN _).alloc _).drewN _|exact (((HF4.out.drewN _).drewN _).alloc _).drewN _)⟩ (fun hHeld=>?_)
 clear hK K;refine norm_ (a':=?_) ?_ ?_;rotate_left
 ·show Act.put _ (some 11) _=_
  simp only [Act.put,sIb,sC0,sCs,i64_w,i32_w];rfl
 refine oK 11 (some 16) (fun K hK=>?_)
 refine gS Try.func42 #[.string a,.string b] ?_
 refine (strings_Compare.calls a b y _ HY.out).mono ?_
 rintro e w6 ⟨rfl,⟨m6,rfl⟩⟩
 refine ⟨_,rfl,?_⟩
 refine hK.out _ _ ⟨hHeld.1,hHeld.2.1,(by first|exact HF4.out.drewN _|exact (HF4.out.drewN _).drewN _|exact ((HF4.out.drewN _).alloc _).drewN _|exact (((HF4.out.drewN _).drewN _).alloc _).drewN _)⟩ (fun hHeld=>?_)
 clear hK K;refine norm_ (a':=?_) ?_ ?_;rotate_left
 ·show Act.put _ (some 16) _=_
  simp only [Act.put,sIb,sC0,sCs,i64_w,i32_w];rfl
 refine oK 12 (some 17) (fun K hK=>?_)
 refine value_ (w1:=?_) (v:=?_) (by rfl) rfl ?_ ?_
 rotate_left 2
 ·go_simp
  constructor;(rfl);(rfl)
 refine hK.out _ _ ⟨(World.cell?_alloc_lt _ _ _ (World.block_lt_of_cell? _ _ hHeld.1)).trans hHeld.1,(World.cell?_alloc_lt _ _ _ (World.block_lt_of_cell? _ _ hHeld.2.1)).trans hHeld.2.1,(by first|exact (HF4.out.drewN _).alloc _|exact ((HF4.out.drewN _).drewN _).alloc _)⟩ (fun hHeld=>?_)
 clear hK K;refine norm_ (a':=?_) ?_ ?_;rotate_left
 ·show Act.put _ (some 17) _=_
  simp only [Act.put,sIb,sC0,sCs,i64_w,i32_w];rfl
 refine oK 13 (some 18) (fun K hK=>?_)
 refine gS Try.func40 #[.slice (some ⟨_,0,none⟩) ([x,y]:List Int).length 2] ?_
 refine (cmp_Or_int.calls k _ _ [x,y] r _ (two_row (blk_new _ _)) (by simp) HO.out).mono ?_
 rintro e w7 ⟨rfl,⟨m7,rfl⟩⟩
 refine ⟨_,rfl,?_⟩
 refine hK.out _ _ ⟨hHeld.1,hHeld.2.1,(by first|exact HF4.out.drewN _|exact (HF4.out.drewN _).drewN _|exact ((HF4.out.drewN _).alloc _).drewN _|exact (((HF4.out.drewN _).drewN _).alloc _).drewN _)⟩ (fun hHeld=>?_)
 clear hK K;refine norm_ (a':=?_) ?_ ?_;rotate_left
 ·show Act.put _ (some 18) _=_
  simp only [Act.put,sIb,sC0,sCs,i64_w,i32_w];rfl
 refine pK 14 4 ?_
 refine done_ (by kernel_rfl) ?_
 have HF:=am hHeld.2.2
 go_wp2;go_ret
 exact ⟨rfl,HF.out⟩
set_option maxHeartbeats 8000000 in
set_option maxRecDepth 100000 in
theorem byName_fw (a b:ByteArray) (m n:Int) (w:World):Calls Try.prog 54 #[.agg #[.string a,.int .i64 m],.agg #[.string b,.int .i64 n]] w fun e w'=>e=.returned (.int .i64 (Lib.compareBytes a.data.toList b.data.toList))∧Fw w w':=by
 go_enter Try.func54,Try.ntmps54
 go_wp2_with (go_at_call 42;refine (strings_Compare.calls a b _ _ rfl).mono ?_;rintro e2 w2 ⟨rfl,⟨m2,rfl⟩⟩)
 go_ret
 exact ⟨rfl,(((Fw.refl w).alloc _).alloc _).drewN _⟩
theorem Fw.exact {w w':World} (h:Fw w w'):∃ (q:Nat) (os:Array Obj),w'=Go.Sort.grow (w.drewN q) os:=by
 refine ⟨w'.drawn - w.drawn,w'.heap.extract w.heap.size w'.heap.size,?_⟩
 obtain ⟨hb,hd⟩:=h
 have hh:w.heap++w'.heap.extract w.heap.size w'.heap.size=w'.heap:=by
  refine Array.ext_getElem? fun k=>?_
  rw [Array.getElem?_append]
  split
  ·next hk=>exact (hb.block k hk).symm
  ·next hk =>
   rw [Array.getElem?_extract]
   split
   ·next h2=>rw [show w.heap.size+(k - w.heap.size)=k by omega]
   ·next h2=>rw [Array.getElem?_eq_none (by have:=hb.size;omega)]
 have h1:=hb.os
 have h2:=hb.tape
 have h3:=hb.output
 have h4:w.drawn+(w'.drawn - w.drawn)=w'.drawn:=by omega
 show w'={ (w.drewN (w'.drawn - w.drawn)) with heap:=w.heap++w'.heap.extract w.heap.size w'.heap.size }
 rw [hh]
 unfold World.drewN
 rw [h4]
 cases w
 cases w'
 simp only at *
 subst h1
 subst h2
 subst h3
 rfl
abbrev NmE:={ x:S30 // x.f0.size < 512 }
instance : Inhabited NmE := ⟨⟨⟨⟨#[]⟩, 0⟩, by decide⟩⟩
def encN (x:NmE):List Value:=[.string x.1.f0,.int .i64 x.1.f1]
def cfO (x y:NmE):Int:=Ht.ordI x.1.f0 y.1.f0
def cfN (x y:NmE):Int:=Lib.compareBytes x.1.f0.data.toList y.1.f0.data.toList
theorem ltO_eq (x y:NmE):ltOf cfO x y=Ht.ltE x.1 y.1:=by
 unfold ltOf cfO
 rw [Bool.eq_iff_iff,decide_eq_true_iff,Ht.ordI_neg]
theorem ltN_eq (x y:NmE):ltOf cfN x y=Ht.ltN x.1 y.1:=by
 unfold ltOf cfN Ht.ltN
 rw [Bool.eq_iff_iff,decide_eq_true_iff,Od.compare_neg]
theorem ltE_same {x y:S30} (h:Lf.nb x=Lf.nb y):(∀ z,Ht.ltE x z=Ht.ltE y z)∧∀ z,Ht.ltE z x=Ht.ltE z y:=by
 have h0:x.f0=y.f0:=Od.str_ext h
 refine ⟨fun z=>?_,fun z=>?_⟩<;>unfold Ht.ltE<;>rw [h,h0]
theorem swoO:Go.Sort.SWO (ltOf cfO) where
 irrefl x:=by rw [ltO_eq];exact Ht.ltE_irrefl _
 trans x y z h1 h2:=by rw [ltO_eq] at *;exact Ht.ltE_trans _ _ _ h1 h2
 ntrans x y z h1 h2:=by
  rw [ltO_eq] at *
  cases h3:Ht.ltE x.1 z.1 with
  | false=>rfl
  | true =>
   by_cases hn:Lf.nb x.1=Lf.nb y.1
   ·rw [(ltE_same hn).1] at h3;rw [h3] at h2;cases h2
   ·rcases Ht.ltE_or hn with h4|h4
    ·rw [h4] at h1;cases h1
    ·rw [Ht.ltE_trans _ _ _ h4 h3] at h2;cases h2
theorem swoN:Go.Sort.SWO (ltOf cfN) where
 irrefl x:=by rw [ltN_eq];exact Ht.ltN_irrefl _
 trans x y z h1 h2:=by rw [ltN_eq] at *;exact Ht.ltN_trans _ _ _ h1 h2
 ntrans x y z h1 h2:=by
  rw [ltN_eq] at *
  cases h3:Ht.ltN x.1 z.1 with
  | false=>rfl
  | true =>
   by_cases hn:Lf.nb x.1=Lf.nb y.1
   ·unfold Ht.ltN at *;rw [hn] at h3;rw [h3] at h2;cases h2
   ·rcases Ht.ltN_or hn with h4|h4
    ·rw [h4] at h1;cases h1
    ·rw [Ht.ltN_trans _ _ _ h4 h3] at h2;cases h2
theorem laysO (blk off size:Nat) (w:World):CmpLays Try.prog 22 #[] encN 2 cfO blk off size w :=
 fun m os dk _ x y=>(inOrder_fw x.1.f0 y.1.f0 x.1.f1 y.1.f1 x.2 y.2 _).mono (fun e w' h=>⟨h.1,h.2.exact⟩)
theorem laysN (blk off size:Nat) (w:World):CmpLays Try.prog 54 #[] encN 2 cfN blk off size w :=
 fun m os dk _ x y=>(byName_fw x.1.f0 y.1.f0 x.1.f1 y.1.f1 _).mono (fun e w' h=>⟨h.1,h.2.exact⟩)
theorem flatK_flat (d:Array NmE):(Go.Sort.flatK encN 2 d).toList=Rw.flat (d.toList.map (·.1)):=by
 refine Rw.flat_of _ _ (by simp [Go.Sort.flatK]) (fun j p hj=>?_)
 rw [List.getElem?_map] at hj
 obtain ⟨q,hq,rfl⟩:=Option.map_eq_some_iff.1 hj
 have hjd:j < d.size:=by
  have:=(List.getElem?_eq_some_iff.1 hq).1
  simpa using this
 have hdj:d[j]! = q:=by
  rw [getElem!_pos d j hjd]
  have:=List.getElem?_eq_some_iff.1 hq
  obtain ⟨h1,h2⟩:=this
  simpa using h2
 have key:∀ t,t < d.size*2→(Go.Sort.flatK encN 2 d).toList[t]? = some (encN d[t / 2]!)[t % 2]! := fun t ht=>by
  have h1:=Go.Sort.get_flatK encN 2 d t ht
  have h2:t < (Go.Sort.flatK encN 2 d).size:=by rw [Go.Sort.size_flatK];exact ht
  rw [getElem!_pos _ t h2] at h1
  rw [Array.getElem?_toList,Array.getElem?_eq_getElem h2,h1]
 refine List.ext_getElem? fun i=>?_
 rw [List.getElem?_take]
 match i with
 | 0 =>
  simp only [Nat.zero_lt_succ,if_true,List.getElem?_drop,Nat.add_zero]
  rw [key _ (by omega),show j*2 / 2=j by omega,show j*2 % 2=0 by omega,hdj]
  rfl
 | 1 =>
  simp only [show 1 < 2 from by decide,if_true,List.getElem?_drop]
  rw [key _ (by omega),show (j*2+1) / 2=j by omega,show (j*2+1) % 2=1 by omega,hdj]
  rfl
 | i+2 =>
  rw [if_neg (by omega)]
  rfl
theorem put_take (F cur:Array Value) (h:F.size≤cur.size):(Go.Sort.putCells id 0 F cur).toList.take F.size=F.toList:=by
 refine List.ext_getElem? fun i=>?_
 rw [List.getElem?_take]
 split
 ·next hi =>
  rw [Array.getElem?_toList,Array.getElem?_toList]
  unfold Go.Sort.putCells
  rw [Array.getElem?_mapIdx,Array.getElem?_eq_getElem (by omega),Array.getElem?_eq_getElem hi,Option.map_some,if_pos (by omega),Nat.sub_zero,getElem!_pos F i hi]
  rfl
 ·next hi=>rw [List.getElem?_eq_none (by simpa using hi)]
def SortSays (w:World) (gb base n c:Nat) (ys:List S30) (e:Ending) (w':World):Prop:=e=.returned (.tuple #[])∧Kd.R k30 30 w' base (fun _=>True) (.slice (some ⟨gb,0,none⟩) n c) ys ∧
 (∀ k,k < w.heap.size→k≠gb→w'.heap[k]? = w.heap[k]?)∧w.heap.size≤w'.heap.size∧w'.os=w.os∧w'.tape=w.tape∧w'.output=w.output
theorem SortSays.below {w w':World} {gb base n c:Nat} {ys:List S30} {e:Ending} (h:SortSays w gb base n c ys e w') {B:Nat} (hB:B≤gb):Below (min B w.heap.size) w w':=by
 obtain ⟨_,_,h1,h2,h3,h4,h5⟩:=h
 exact ⟨h3,h4,h5,h2,fun k hk=>h1 k (by omega) (by omega)⟩
set_option maxRecDepth 100000 in
theorem sort_core (g:Nat) (cf:NmE→NmE→Int) (lt:S30→S30→Bool) (hlt:∀ x y:NmE,ltOf cf x y=lt x.1 y.1) (hO:Go.Sort.SWO (ltOf cf)) (eg:∀ args w,(callFunc g args).run Try.prog w=.ok (.enter g args) w) (hcmp:∀ blk off size w,CmpLays Try.prog g #[] encN 2 cf blk off size w)
  (hi:∀ x,lt x x=false) (ht:∀ x y z,lt x y=true→lt y z=true→lt x z=true) (w:World) (base gb n c:Nat) (xs:List S30) (hR:Kd.R k30 30 w base (fun _=>True) (.slice (some ⟨gb,0,none⟩) n c) xs) (hz:∀ x∈xs,x.f0.size < 512) (hap:Ht.Apart lt xs) (hl:xs.length < 4611686018427387904) :
  Calls Try.prog 38 #[.slice (some ⟨gb,0,none⟩) n c,.func (.func g) #[] #[]] w (SortSays w gb base n c (Ht.isort lt xs)):=by
 obtain ⟨_,hn,hb,hnc,hcm,cur,hg,hcs,htk⟩:=Rw.own_at (Rw.R_flat hR)
 obtain ⟨d,hd⟩:∃ d:Array NmE,d=(xs.pmap Subtype.mk hz).toArray:=⟨_,rfl⟩
 have hdv:d.toList.map (·.1)=xs:=by rw [hd];simp [List.map_pmap]
 have hds:d.size=xs.length:=by rw [hd];simp
 have hF:(Go.Sort.flatK encN 2 d).toList=Rw.flat xs:=by rw [flatK_flat,hdv]
 have hFs:(Go.Sort.flatK encN 2 d).size=xs.length*2:=by rw [Go.Sort.size_flatK,hds]
 have hH:Go.Sort.HoldsK encN 2 w gb 0 d:=fun j hj=>by
  rw [hFs] at hj
  refine ⟨?_,blk_frozen hg _⟩
  rw [Nat.zero_add,blk_cell hg j]
  have h1:cur.toList[j]? = (Rw.flat xs)[j]? := by rw [← htk,List.getElem?_take,if_pos hj]
  rw [Array.getElem?_toList,← hF,Array.getElem?_toList] at h1
  have h2:j < (Go.Sort.flatK encN 2 d).size:=by rw [hFs];exact hj
  rw [h1,Array.getElem?_eq_getElem h2,getElem!_pos _ j h2]
  rfl
 have hcon:=AnyQ.slices_SortFunc (P:=Try.prog) Try.sortNm 2 Try.isAgg30 Try.sizeOf30 encN (fun _=>rfl) (fun x v hv=>by simp [encN] at hv;rcases hv with rfl|rfl<;>rfl) cf hO g #[] gb 0 c d w eg (hcmp gb 0 d.size w) hH (blk_lt hg) (by rw [hds];exact hl)
 change Calls Try.prog 38 _ _ _ at hcon
 rw [hds,← hn] at hcon
 refine hcon.mono ?_
 rintro e w' ⟨rfl,d',m,os,hp,hs,rfl⟩
 rw [hn,← hds] at hp hs
 obtain ⟨h1,h2⟩:=Ht.of_sorted hp hs
 have hys:d'.toList.map (·.1)=Ht.isort lt xs:=by
  refine Ht.sort_eq hi ht hap (by rw [← hdv];exact h1.map _) ?_
  rw [List.pairwise_map]
  exact h2.imp (fun {a b} h=>by rw [← hlt];exact h)
 have hsz:d'.size=xs.length:=by rw [hp.1,hds]
 have hFd:(Go.Sort.flatK encN 2 d').toList=Rw.flat (Ht.isort lt xs):=by rw [flatK_flat,hys]
 have hFds:(Go.Sort.flatK encN 2 d').size=xs.length*2:=by rw [Go.Sort.size_flatK,hsz]
 have hil:(Ht.isort lt xs).length=xs.length:=(Ht.isort_perm lt xs).length_eq
 have hgl:=blk_lt hg
 have hheap:(sortWorldK encN 2 w gb 0 m d' os).heap[gb]? = some (.cells (Go.Sort.putCells id 0 (Go.Sort.flatK encN 2 d') cur) 30 (0,0)):=by
  show ((w.heap.modify gb (Go.Sort.onCells (Go.Sort.putCells id 0 (Go.Sort.flatK encN 2 d'))))++os)[gb]? = _
  rw [Array.getElem?_append_left (by rw [Array.size_modify];exact hgl),Array.getElem?_modify,if_pos rfl,hg]
  rfl
 have h3:=put_take (Go.Sort.flatK encN 2 d') cur (by rw [hFds,hcs];exact Nat.mul_le_mul_right 2 hnc)
 rw [hFds,hFd] at h3
 have hown:(sortWorldK encN 2 w gb 0 m d' os).ownsRow base 30 2 (.slice (some ⟨gb,0,none⟩) n c) (Ht.isort lt xs).length (Rw.flat (Ht.isort lt xs)):=by
  rw [hn,hil]
  exact ⟨by rw [Rw.flat_len,hil],.inr ⟨gb,c,Go.Sort.putCells id 0 (Go.Sort.flatK encN 2 d') cur,rfl,hb,hheap,hnc,hcm,by unfold Go.Sort.putCells;rw [Array.size_mapIdx,hcs],h3⟩⟩
 refine ⟨rfl,Rw.flat_R hown (fun k hk=>trivial),fun k hk hne=>?_,?_,rfl,rfl,rfl⟩
 ·show ((w.heap.modify gb _)++os)[k]? = _
  rw [Array.getElem?_append_left (by rw [Array.size_modify];exact hk),Array.getElem?_modify,if_neg (fun ee=>hne ee.symm)]
 ·show w.heap.size≤((w.heap.modify gb _)++os).size
  rw [Array.size_append,Array.size_modify]
  omega
theorem sortO_calls (w:World) (base gb n c:Nat) (xs:List S30) (hR:Kd.R k30 30 w base (fun _=>True) (.slice (some ⟨gb,0,none⟩) n c) xs) (hz:∀ x∈xs,x.f0.size < 512) (hap:Ht.Apart Ht.ltE xs) (hl:xs.length < 4611686018427387904) :
  Calls Try.prog 38 #[.slice (some ⟨gb,0,none⟩) n c,.func (.func 22) #[] #[]] w (SortSays w gb base n c (Ht.isort Ht.ltE xs)) :=
 sort_core 22 cfO Ht.ltE ltO_eq swoO (enters_of Try.func22 (by kernel_rfl) rfl) laysO Ht.ltE_irrefl Ht.ltE_trans w base gb n c xs hR hz hap hl
theorem sortN_calls (w:World) (base gb n c:Nat) (xs:List S30) (hR:Kd.R k30 30 w base (fun _=>True) (.slice (some ⟨gb,0,none⟩) n c) xs) (hz:∀ x∈xs,x.f0.size < 512) (hap:Ht.Apart Ht.ltN xs) (hl:xs.length < 4611686018427387904) :
  Calls Try.prog 38 #[.slice (some ⟨gb,0,none⟩) n c,.func (.func 54) #[] #[]] w (SortSays w gb base n c (Ht.isort Ht.ltN xs)) :=
 sort_core 54 cfN Ht.ltN ltN_eq swoN (enters_of Try.func54 (by kernel_rfl) rfl) laysN Ht.ltN_irrefl Ht.ltN_trans w base gb n c xs hR hz hap hl
end Go.Proofs.Yteglhbfhibfodaa.Pr
end
section
namespace Go.Proofs.Yteglhbfhibfodaa.Pr
open Go.RowKit Go.Proofs.YteglhbfhibfodaaW.PrintWords Go.Proofs.YteglhbfhibfodaaW.PrintLast Go.Proofs.YteglhbfhibfodaaW.PrintMore
attribute [local go_sem] max2_int min2_int max_two min_two max_three min_three max_four min_four
attribute [local go_sem] Go.Proofs.Yteglhbfhibfodaa.Hl.str_geq Go.Proofs.Yteglhbfhibfodaa.Hl.str_gtr Go.Proofs.Yteglhbfhibfodaa.Hl.str_leq
set_option linter.unusedVariables false
set_option linter.unusedSimpArgs false
set_option maxHeartbeats 8000000 in
set_option maxRecDepth 100000 in
theorem unlike_calls (W:World) (Bx:Nat) (A:Option Addr) (c:Nat) (l:List S30) (i:Nat) (hbk:W.heap[Bx]? = some (.cells #[.slice A l.length c] 26 (0,0))) (hr:Kd.C k30 W A l.length l) (h0:0 < i) (hi:i < l.length) (hl:l.length < 1000) (hz:∀ x∈l,x.f0.size < 512) :
  Calls Try.prog 74 #[.int .i64 (i:Int),.pointer (some ⟨Bx,0,none⟩)] W fun e w'=>e=.returned (.bool (Ht.unlike l i))∧Below W.heap.size W w':=by
 obtain ⟨j,hj⟩:∃ j,i - 1=j:=⟨_,rfl⟩
 have hjl:j < l.length:=by omega
 have hw:wrap64 ((i:Int) - 1)=(j:Int):=by unfold wrap64;omega
 obtain ⟨ad,ead,hci,-⟩:=at_T30 hr (i:Int) (by omega) (by omega)
 obtain ⟨ad',ead',hcj,-⟩:=at_T30 hr (j:Int) (by omega) (by omega)
 rw [ead] at ead'
 obtain rfl:=Option.some.inj ead'
 subst ead
 rw [Int.toNat_natCast,Lf.rdT_get hi] at hci
 rw [Int.toNat_natCast,Lf.rdT_get hjl] at hcj
 obtain ⟨k1,hk1⟩:=(Ht.sum_ev l[i].f0 (hz _ (List.getElem_mem hi))).rounds
 obtain ⟨k2,hk2⟩:=(Ht.sum_ev l[j].f0 (hz _ (List.getElem_mem hjl))).rounds
 have HU:=am (show Ht.unlike l i=(Ht.sumN l[i].f0 != Ht.sumN l[j].f0) by
  unfold Ht.unlike
  rw [hj,Ht.getD_at hi,Ht.getD_at hjl]
  rw [Bool.eq_iff_iff,decide_eq_true_iff,bne_iff_ne])
 obtain ⟨na,hna⟩:∃ na,l[i].f0=na:=⟨_,rfl⟩
 obtain ⟨nb,hnb⟩:∃ nb,l[j].f0=nb:=⟨_,rfl⟩
 rw [hna] at hci hk1 HU
 rw [hnb] at hcj hk2 HU
 obtain ⟨sa,hsa⟩:∃ sa,Ht.sumN na=sa:=⟨_,rfl⟩
 obtain ⟨sb,hsb⟩:∃ sb,Ht.sumN nb=sb:=⟨_,rfl⟩
 rw [hsa] at hk1 HU
 rw [hsb] at hk2 HU
 have HK1:=am hk1
 have HK2:=am hk2
 rw [HU.out]
 have hcx:=(blk_cell hbk 0).trans rfl
 have hb0:=below_drew1 (Below.refl W.heap.size W)
 clear hk1 hk2 hna hnb hsa hsb hbk hr hz hl hj h0
 go_enter Try.func74,Try.ntmps74
 go_wp2
 refine start_ (n:=15) (S:=fun w'=>Below W.heap.size W w'∧w'.cell? ⟨Bx,0,none⟩=some (.slice (some ad) l.length c)∧w'.cell? (ad.add (i*2))=some (.string na)∧w'.cell? (ad.add (j*2))=some (.string nb)) (ds:=[]) _ (by kernel_rfl) rfl rfl ⟨hb0,hcx,hci,hcj⟩ (fun hHeld=>?_)
 refine pK 1 5 ?_;refine pK 7 11 ?_;refine pK 8 12 ?_;refine tK 0 4 hHeld ?_ (hy:=by rintro w' ⟨s0,s1,s2,s3⟩;go_simp;with_reducible rfl);refine pK 2 6 ?_;refine pK 3 7 ?_;refine tK 4 8 hHeld ?_ (hy:=by rintro w' ⟨s0,s1,s2,s3⟩;go_simp;with_reducible rfl);refine tK 6 10 hHeld ?_ (hy:=by rintro w' ⟨s0,s1,s2,s3⟩;go_simp;with_reducible rfl);refine pK 9 13 ?_;refine pK 10 14 ?_;refine tK 11 15 hHeld ?_ (hy:=by rintro w' ⟨s0,s1,s2,s3⟩;go_simp;with_reducible rfl)
 refine oK 5 (some 9) (fun K hK=>?_)
 refine gS Try.func34 #[.string na] ?_
 refine (htree_sum.calls k1 na sa _ HK1.out).mono ?_
 rintro e w3 ⟨rfl,hb3⟩
 refine ⟨_,rfl,?_⟩
 refine hK.out _ _ ⟨hHeld.1.trans (hb3.mono hHeld.1.size),(hb3.cell (World.block_lt_of_cell? _ _ hHeld.2.1)).trans hHeld.2.1,(hb3.cell (World.block_lt_of_cell? _ _ hHeld.2.2.1)).trans hHeld.2.2.1,(hb3.cell (World.block_lt_of_cell? _ _ hHeld.2.2.2)).trans hHeld.2.2.2⟩ (fun hHeld=>?_)
 clear hK K;refine norm_ (a':=?_) ?_ ?_;rotate_left
 ·show Act.put _ (some 9) _=_
  simp only [Act.put,sIb,sC0,sCs,i64_w,i32_w];rfl
 refine oK 12 (some 16) (fun K hK=>?_)
 refine gS Try.func34 #[.string nb] ?_
 refine (htree_sum.calls k2 nb sb _ HK2.out).mono ?_
 rintro e w4 ⟨rfl,hb4⟩
 refine ⟨_,rfl,?_⟩
 refine hK.out _ _ ⟨hHeld.1.trans (hb4.mono hHeld.1.size),(hb4.cell (World.block_lt_of_cell? _ _ hHeld.2.1)).trans hHeld.2.1,(hb4.cell (World.block_lt_of_cell? _ _ hHeld.2.2.1)).trans hHeld.2.2.1,(hb4.cell (World.block_lt_of_cell? _ _ hHeld.2.2.2)).trans hHeld.2.2.2⟩ (fun hHeld=>?_)
 clear hK K;refine norm_ (a':=?_) ?_ ?_;rotate_left
 ·show Act.put _ (some 16) _=_
  simp only [Act.put,sIb,sC0,sCs,i64_w,i32_w];rfl
 refine pK 13 17 ?_;refine pK 14 3 ?_
 refine done_ (by kernel_rfl) ?_
 have HF:=am hHeld.1
 go_wp2;go_ret
 exact ⟨rfl,HF.out⟩
set_option maxHeartbeats 8000000 in
set_option maxRecDepth 100000 in
theorem cut_calls (w:World) (A:Option Addr) (c0:Nat) (l:List S30) (hr:Kd.C k30 w A l.length l) (h0:0 < l.length) (hl:l.length < 1000) (hz:∀ x∈l,x.f0.size < 512) :
  Calls Try.prog 53 #[.slice A l.length c0] w fun e w'=>e=.returned (.int .i64 (Ht.cutP l:Int))∧Below w.heap.size w w':=by
 have HR:=am hr
 have HL:=am hl
 have HZ:=am hz
 have H0:=am h0
 obtain ⟨hf,hhf⟩:∃ hf,(l.length+1) / 2=hf:=⟨_,rfl⟩
 have HHF:=am hhf
 have hw1:wrap64 ((l.length:Int)+1)=(l.length:Int)+1:=by unfold wrap64;omega
 have hwf:wrap64 (hf:Int)=(hf:Int):=by unfold wrap64;omega
 have hq2:Int.tdiv ((l.length:Int)+1) 2=(hf:Int):=by
  rw [Int.tdiv_eq_ediv_of_nonneg (by omega)]
  omega
 have HBX:=am (blk_new w (.cells #[.slice A l.length c0] 26))
 clear hr hl hz h0 hhf
 go_enter Try.func53,Try.ntmps53
 go_wp2
 rw [hw1,hwf]
 clear hw1 hwf hq2
 go_loopw [5] (fun v5 wr=>∃ q:Nat,v5=.int .i64 (q:Int)∧Aside0 (q≤l.length∧1≤q)∧Aside0 (Ht.upP l hf (l.length - hf)=Ht.upP l q (l.length - q))∧Aside0 (Below w.heap.size w wr)∧Aside0 (wr.heap[w.heap.size]? = some (.cells #[.slice A l.length c0] 26 (0,0)))) (fun v _=>l.length - (intOf v).toNat)
 case atStart=>exact ⟨hf,rfl,⟨by have:=HHF.out;have:=H0.out;omega⟩,⟨rfl⟩,⟨(Below.refl _ _).alloc (Nat.le_refl _) _⟩,HBX⟩
 case round =>
  obtain ⟨q,rfl,HQ,HU,HB,HX⟩:=hrel
  clear HBX
  have hcx:=kC HX 0
  by_cases hq3:q < l.length
  ·have hqb:decide (q < l.length)=true:=decide_eq_true hq3
   have HQL:=am hq3
   have HUS:=am (show Ht.upP l q (l.length - q)=if Ht.unlike l q=true then some q else Ht.upP l (q+1) (l.length - (q+1)) by
    obtain ⟨m,hm⟩:∃ m,l.length - q=m+1:=⟨l.length - q - 1,by omega⟩
    rw [hm,show l.length - (q+1)=m by omega]
    rfl)
   obtain ⟨u,hu⟩:∃ u,Ht.unlike l q=u:=⟨_,rfl⟩
   rw [hu] at HUS
   have HUN:=am hu
   clear hq3 hu
   cases u with
   | true =>
    have HC:=am (show Ht.cutP l=q by unfold Ht.cutP;rw [HHF.out,HU.out,HUS.out];rfl)
    go_wp2_with (go_at_call 74;refine (unlike_calls wr w.heap.size A c0 l q HX.out (Kd.C_below HR.out HB.out) (by have:=HQ.out;omega) HQL.out HL.out HZ.out).mono ?_;rw [HUN.out];rintro e w2 ⟨rfl,hb2⟩;have HB2:=am (HB.out.trans (hb2.mono HB.out.size));clear hb2)
    go_ret
    exact ⟨by rw [HC.out];rfl,HB2.out⟩
   | false =>
    have HW:=am (show wrap64 ((q:Int)+1)=((q+1:Nat):Int) by have:=HL.out;have:=HQ.out;unfold wrap64;omega)
    go_wp2_with (go_at_call 74;refine (unlike_calls wr w.heap.size A c0 l q HX.out (Kd.C_below HR.out HB.out) (by have:=HQ.out;omega) HQL.out HL.out HZ.out).mono ?_;rw [HUN.out];rintro e w2 ⟨rfl,hb2⟩;have HX2:=am (blk_below HX.out hb2);have HB2:=am (HB.out.trans (hb2.mono HB.out.size));clear hb2)
    go_roundw
    case rel=>exact ⟨q+1,by rw [HW.out],⟨by have:=HQL.out;omega⟩,⟨by rw [HU.out,HUS.out];rfl⟩,HB2,HX2⟩
    case measure=>rw [HW.out];show l.length - (((q+1:Nat):Int)).toNat < l.length - ((q:Int)).toNat;have:=HQL.out;omega
  ·have hqb:decide (q < l.length)=false:=decide_eq_false hq3
   have HUN:=am (show Ht.upP l hf (l.length - hf)=none by rw [HU.out,show l.length - q=0 by omega];rfl)
   have hw2:wrap64 ((hf:Int) - 1)=((hf - 1:Nat):Int):=by have:=HHF.out;have:=H0.out;have:=HL.out;unfold wrap64;omega
   obtain ⟨h1,hh1⟩:∃ h1,hf - 1=h1:=⟨_,rfl⟩
   rw [hh1] at hw2
   have HH1:=am hh1
   clear hq3 hh1;go_wp2
   rw [hw2]
   clear hw2
   go_loopw [6] (fun v6 w5=>∃ q:Nat,v6=.int .i64 (q:Int)∧Aside0 (q≤h1)∧Aside0 (Ht.downP l h1=Ht.downP l q)∧Aside0 (Below w.heap.size w w5)∧Aside0 (w5.heap[w.heap.size]? = some (.cells #[.slice A l.length c0] 26 (0,0)))) (fun v _=>(intOf v).toNat)
   case atStart=>exact ⟨h1,rfl,⟨Nat.le_refl _⟩,⟨rfl⟩,HB,HX⟩
   case round =>
    clear hcx HX HB
    obtain ⟨q,rfl,HQ1,HD,HB,HX⟩:=hrel
    have HC:=am (show Ht.cutP l=Ht.downP l q by unfold Ht.cutP;rw [HHF.out,HUN.out,HH1.out];exact HD.out)
    by_cases hq3:0 < q
    ·have hqb:decide (0 < q)=true:=decide_eq_true hq3
     obtain ⟨m,hm⟩:∃ m,q=m+1:=⟨q - 1,by omega⟩
     have HM:=am hm
     have HQL:=am (show 0 < q∧q < l.length by have:=HQ1.out;have:=HH1.out;have:=HHF.out;have:=H0.out;omega)
     have HDS:=am (show Ht.downP l q=if Ht.unlike l q=true then q else Ht.downP l m by rw [hm];rfl)
     obtain ⟨u,hu⟩:∃ u,Ht.unlike l q=u:=⟨_,rfl⟩
     rw [hu] at HDS
     have HUN2:=am hu
     clear hq3 hu hm
     cases u with
     | true =>
      have HC2:=am (show Ht.cutP l=q by rw [HC.out,HDS.out];rfl)
      go_wp2_with (go_at_call 74;refine (unlike_calls _ w.heap.size A c0 l q HX.out (Kd.C_below HR.out HB.out) HQL.out.1 HQL.out.2 HL.out HZ.out).mono ?_;rw [HUN2.out];rintro e w2 ⟨rfl,hb2⟩;have HB2:=am (HB.out.trans (hb2.mono HB.out.size));clear hb2)
      go_ret
      exact ⟨by rw [HC2.out];rfl,HB2.out⟩
     | false =>
      have HW:=am (show wrap64 ((q:Int) - 1)=(m:Int) by have:=HM.out;have:=HQL.out;have:=HL.out;unfold wrap64;omega)
      go_wp2_with (go_at_call 74;refine (unlike_calls _ w.heap.size A c0 l q HX.out (Kd.C_below HR.out HB.out) HQL.out.1 HQL.out.2 HL.out HZ.out).mono ?_;rw [HUN2.out];rintro e w2 ⟨rfl,hb2⟩;have HX2:=am (blk_below HX.out hb2);have HB2:=am (HB.out.trans (hb2.mono HB.out.size));clear hb2)
      go_roundw
      case rel=>exact ⟨m,by rw [HW.out],⟨by have:=HQ1.out;have:=HM.out;omega⟩,⟨by rw [HD.out,HDS.out];rfl⟩,HB2,HX2⟩
      case measure=>rw [HW.out];show ((m:Int)).toNat < ((q:Int)).toNat;have:=HM.out;omega
    ·obtain rfl:q=0:=by omega
     have HC2:=am (show Ht.cutP l=0 by rw [HC.out];rfl)
     clear hq3;go_wp2;go_ret
     exact ⟨by rw [HC2.out];rfl,HB.out⟩
end Go.Proofs.Yteglhbfhibfodaa.Pr
end
