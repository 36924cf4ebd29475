/- MFinds: this session's texts for the one law, put together (part 5 of 5): what its program computes, function by function, and that this answers true; the row stands at the end of the last part. Conditions: those that each theorem names; the last theorem has none. -/
import Derived.Maps.OwnOps
import Derived.Maps.Views
import Derived.Deep.Cut
import Derived.Test.YteglhbfhibfodaaRows
import Derived.WalkKit
import Derived.ProofKit
import Derived.OpenShut
import Derived.ShutString
import Derived.ChangeOld
import Derived.Below
import Derived.SizedLaws
import Derived.Carry
import Derived.Lib.SmallJoins
import Derived.Test.YteglhbfhibfodaaMFindsD
section
namespace Go.Proofs.Yteglhbfhibfodaa.Pr
open Go.RowKit Go.Proofs.YteglhbfhibfodaaW.PrintWords Go.Proofs.YteglhbfhibfodaaW.PrintLast Go.Proofs.YteglhbfhibfodaaW.PrintMore
attribute [local go_sem] max2_int min2_int max_two min_two max_three min_three max_four min_four
attribute [local go_sem] Go.Proofs.Yteglhbfhibfodaa.Hl.str_geq Go.Proofs.Yteglhbfhibfodaa.Hl.str_gtr Go.Proofs.Yteglhbfhibfodaa.Hl.str_leq
set_option linter.unusedVariables false
set_option linter.unusedSimpArgs false
open Go.Maps
theorem fnd_law:Keyed Try.prog 9:=string_keyed Try.underlying9
theorem fnd_zero (w:World):(zeroValue 3).run Try.prog w=.ok (.int .i64 0) w:=by kernel_rfl
theorem fnd_lit {a b:Int} (h:(DataW.lit (.int .i64 a):DataW Unit)=.lit (.int .i64 b)):a=b:=by
 injection h with h
 injection h
theorem fnd_few (A0:Option Addr) (n c0:Nat) (w:World) (hc:n≤c0):Calls Try.prog 14 #[.slice A0 n c0] w fun e w'=>e=.returned (.slice A0 (min n 300) c0)∧w'=w:=by
 by_cases h:300 < n
 ·have hb:decide (300 < (n:Int))=true:=decide_eq_true (by omega)
  have hm:min n 300=300:=by omega
  have hc1:(300:Nat)≤c0:=by omega
  have hc2:decide ((300:Int)≤(c0:Int))=true:=decide_eq_true (by omega)
  have h3:(300:Int)≤(c0:Int):=by omega
  rw [hm]
  have HC:=am hc
  clear h hc hm
  go_enter Try.func14,Try.ntmps14
  go_wp2;go_ret
  exact ⟨rfl,rfl⟩
 ·have hb:decide (300 < (n:Int))=false:=decide_eq_false (by omega)
  have hm:min n 300=n:=by omega
  rw [hm]
  clear h hm hc
  go_enter Try.func14,Try.ntmps14
  go_wp2;go_ret
  exact ⟨rfl,rfl⟩
structure FX (w0 : World) (B X : Nat) (dv : Value) (d : List (List Int)) (nv : Value) (nd : List (List Int)) (i : Nat) (D : DataW Unit) (op : Int) (nm : ByteArray) (no : Int) (w : World) : Prop where
  blk : w.heap[X]? = some (.cells #[.int .i64 op, .string nm, .int .i64 no] 44 (0, 0))
  dir : Kd.N (Kd.slice 5 (Kd.int .u8)) 66 w w0.heap.size (fun k => k ≠ B) dv d
  next : Kd.N (Kd.slice 5 (Kd.int .u8)) 66 w w0.heap.size (fun k => k ≠ B) nv nd
  map : w.ownsMap Try.prog 9 (plainElem Try.prog 3) B i D
  low : Below w0.heap.size w0 w
theorem FX.below {w0:World} {B X:Nat} {dv:Value} {d:List (List Int)} {nv:Value} {nd:List (List Int)} {i:Nat} {D:DataW Unit} {op:Int} {nm:ByteArray} {no:Int} {w w':World} (h:FX w0 B X dv d nv nd i D op nm no w) (hb:Below w.heap.size w w'):FX w0 B X dv d nv nd i D op nm no w' :=
 ⟨blk_below h.blk hb,Kd.N_below h.dir hb,Kd.N_below h.next hb,ownsMap_blk h.map (hb.block _ h.map.lt),h.low.trans (hb.mono h.low.size)⟩
def l_12_HtreeFinds.f (l0:List S44):Option Bool:=if (l0.all fun x=>decide (x.f1.size≤maxLen))=true then some true else none
set_option maxHeartbeats 8000000 in
set_option maxRecDepth 100000 in
theorem l_12_HtreeFinds.calls (A0:Option Addr) (c0:Nat) (l0:List (S44)) (r:Bool) (w:World) (hr0:Kd.C k44 w A0 l0.length l0) (hc0:l0.length≤c0) (h:l_12_HtreeFinds.f l0=some r) :
  Calls Try.prog 5 #[.slice A0 l0.length c0] w fun e w'=>e=.returned (.bool r)∧Below w.heap.size w w':=by
 unfold l_12_HtreeFinds.f at h
 by_cases hn:(l0.all fun x=>decide (x.f1.size≤maxLen))=true
 ·rw [if_pos hn] at h
  obtain rfl:=Option.some.inj h
  obtain ⟨xs,hxs⟩:∃ xs,l0.take 300=xs:=⟨_,rfl⟩
  have hxl:xs.length=min l0.length 300:=by rw [← hxs,List.length_take];omega
  have HNM:=am (show ∀ x∈xs,x.f1.size≤maxLen from fun x hx=>of_decide_eq_true (List.all_eq_true.1 hn x (List.mem_of_mem_take (hxs ▸ hx))))
  have HRX:=am (show Kd.C k44 w A0 xs.length xs by
   have h1:=Kd.C_take (m:=min l0.length 300) hr0 (by omega)
   have h2:l0.take (min l0.length 300)=xs:=by
    rw [← hxs]
    by_cases hl:l0.length≤300
    ·rw [show min l0.length 300=l0.length by omega,List.take_length,List.take_of_length_le hl]
    ·rw [show min l0.length 300=300 by omega]
   rw [h2] at h1
   exact h1)
  have HXL:=am (show xs.length≤300 by omega)
  have HC0:=am hc0
  obtain ⟨ka,hka⟩:=Ht.alive_ev.rounds
  have HKA:=am hka
  obtain ⟨kn,hkn⟩:=Ht.new_ev.rounds
  have HKN:=am hkn
  have HMN:=am hxl
  clear hn h hr0 hc0 hka hkn hxs hxl
  have hmm:=@run_makeMap Try.prog
  go_enter Try.func5,Try.ntmps5
  go_wp2_with (first|(go_at_call 14;refine (fnd_few A0 l0.length c0 _ HC0.out).mono ?_;rintro e w4 ⟨rfl,rfl⟩)|(go_at_call 12;refine (htree_New.calls kn Ht.newD _ HKN.out).mono ?_;rintro e w3 ⟨v3,rfl,ho3,hb3⟩;have HO3:=am ho3;have HW3:=am hb3;have HB3:=am (HB2.out.trans (hb3.mono HB2.out.size));clear ho3 hb3)|(go_at_call 7;refine (l_12_alive.calls ka true _ HKA.out).mono ?_;rintro e w2 ⟨rfl,hb2⟩;have HB2:=am hb2;clear hb2))
  rw [← HMN.out]
  clear hmm
  obtain ⟨B,hB⟩:∃ B,B=w3.heap.size:=⟨_,rfl⟩
  rw [← hB]
  have HBE:=am hB
  have HBm:=am (show w.heap.size≤B by rw [hB];exact HB3.out.size)
  clear hB
  go_loopw [3,6] (fun dv iv wr=>∃ (i:Nat) (d:List (List Int)) (D:DataW Unit),iv=.int .i64 (i:Int)∧Aside0 (i≤xs.length)∧Aside0 (Kd.N (Kd.slice 5 (Kd.int .u8)) 66 wr w.heap.size (fun k=>k≠B) dv d)∧Aside0 (wr.ownsMap Try.prog 9 (plainElem Try.prog 3) B i D)∧Aside0 (Ht.Like d D)∧Aside0 (Below w.heap.size w wr)) (fun _ i _=>xs.length - (intOf i).toNat)
  case atStart=>exact ⟨0,Ht.newD,.map [],rfl,⟨Nat.zero_le _⟩,⟨Kd.N_mono (Kd.N_bound (Kd.N_alloc (Kd.N_lower (Kd.N_mono (Kd.N_bound HO3.out) (ok':=fun k=>k < w3.heap.size) (fun k hk=>hk.2)) HB2.out.size) _)) (fun k hk=>by have:=hk.1;rw [HBE.out];omega)⟩,⟨by rw [HBE.out];exact World.ownsMap_made _ _ _ _⟩,⟨Ht.Like.new⟩,⟨HB3.out.alloc HB3.out.size _⟩⟩
  case round =>
   clear HBE
   obtain ⟨i,d,D,rfl,HI,HO,HM,HL,HB⟩:=hrel
   obtain ⟨Ad,cd,rfl⟩:=Kd.N_slice HO.out
   by_cases hi:i < xs.length
   ·have hib:decide (i < xs.length)=true:=decide_eq_true hi
    have HIN:=am hi
    obtain ⟨ad,ead,hc0,hc1,hc2⟩:=at_T44 HRX.out (i:Int) (by omega) (by omega)
    cases ead
    have erd:rd_T44 xs (i:Int)=xs[i]:=by unfold rd_T44;rw [List.getD_eq_getElem?_getD,Int.toNat_natCast,List.getElem?_eq_getElem hi];rfl
    rw [erd,Int.toNat_natCast] at hc0 hc1 hc2
    have HXN:=am (HNM.out _ (List.getElem_mem hi))
    obtain ⟨⟨op,nm,no⟩,hx⟩:∃ x,xs[i]=x:=⟨_,rfl⟩
    rw [hx] at hc0 hc1 hc2 HXN
    dsimp only at hc0 hc1 hc2 HXN
    replace hc0:=hB HB hc0
    replace hc1:=hB HB hc1
    replace hc2:=hB HB hc2
    clear hx erd
    have HI0:=am (show ((0:Int)≤(i:Int))=True from eq_true (by omega))
    have hi0:=HI0.out
    have hi1:((i:Int) < (xs.length:Int))=True:=eq_true (by have:=HIN.out;omega)
    obtain ⟨nd,hnd⟩:∃ nd,(Ht.doP d op nm no).1=nd:=⟨_,rfl⟩
    obtain ⟨ne,hne⟩:∃ ne,(Ht.doP d op nm no).2=ne:=⟨_,rfl⟩
    have HDO:=am (show l_12_do.f d op nm no=some (nd,ne) by rw [Ht.f_do HL.out.dir.b,← hnd,← hne])
    have HST:=am (Ht.step_law HL.out op nm no)
    rw [hnd,hne] at HST
    obtain ⟨km,hkm⟩:=(Lf.rmay_ev nm).rounds
    have HKM:=am hkm
    have HKEY:=am (show keyOf Try.prog 9 (.string nm)=some (.string nm.data.toList) from Go.WideMaps.keyOf_string_mk Try.underlying9 HXN.out)
    clear hnd hne hkm hi
    have HXB:=am (blk_new wr (.cells #[.int .i64 op,.string nm,.int .i64 no] 44))
    have HLOW:=am (show Below wr.heap.size wr (wr.alloc (.cells #[.int .i64 op,.string nm,.int .i64 no] 44)) from (Below.refl _ _).alloc (Nat.le_refl _) _)
    go_upto_region 12 with (first|(at_lookup;refine wpList_lookup_own_ok_int _ rfl _ _ 41 rfl 9 3 .i64 fnd_law Try.underlying41 Try.underlying3 (fnd_zero _) B i D rfl HFX.out.map _ _ rfl HKEY.out ?_;intro c hat hwc;clear hat hwc)|(go_at_call 15;refine (l_12_do.calls Ad cd d op nm no nd ne _ (Kd.C_below (Kd.N_reads' HO.out).2.2 HLOW.out) (Kd.N_reads' HO.out).2.1 HDO.out).mono ?_;rintro e w4 ⟨v4,rfl,hs4,hb4⟩;have HFX:=am (⟨blk_below HXB.out hb4,Kd.N_below (Kd.N_below HO.out HLOW.out) hb4,Kd.N_lower (Kd.N_mono (Kd.S_N (Kd.S_bound hs4)) (fun k hk=>by have h1:=hk.2.1;have h2:=HM.out.lt;have h3:=HLOW.out.size;omega)) (by have h1:=HB.out.size;have h3:=HLOW.out.size;omega),ownsMap_blk (ownsMap_blk HM.out (HLOW.out.block _ HM.out.lt)) (hb4.block _ (by have h2:=HM.out.lt;have h3:=HLOW.out.size;omega)),(HB.out.trans (HLOW.out.mono HB.out.size)).trans (hb4.mono (by have h1:=HB.out.size;have h3:=HLOW.out.size;omega))⟩:FX w B wr.heap.size (.slice Ad d.length cd) d v4 nd i D op nm no w4);have hx0:=(blk_cell HFX.out.blk 0).trans rfl;have hx1:=(blk_cell HFX.out.blk 1).trans rfl;have hx2:=(blk_cell HFX.out.blk 2).trans rfl;clear hs4 hb4))
    go_cut [12] (fun v12 wc=>v12=.bool (Ht.mayX (⟨nm,no⟩:S30))∧Aside0 (FX w B wr.heap.size (.slice Ad d.length cd) d v4 nd i D op nm no wc))
    case first =>
     cases hm:Lf.mayB nm with
     | false =>
      rw [hm] at HKM
      have HMX:=am (show Ht.mayX (⟨nm,no⟩:S30)=false by unfold Ht.mayX;rw [hm];rfl)
      clear hm
      go_wp2_with (go_at_call 16;refine (r_11_May.calls km nm false _ HKM.out).mono ?_;rintro e w5 ⟨rfl,hd5⟩;have HF5:=am (HFX.out.below hd5.below);have hy0:=(blk_cell HF5.out.blk 0).trans rfl;have hy1:=(blk_cell HF5.out.blk 1).trans rfl;have hy2:=(blk_cell HF5.out.blk 2).trans rfl;clear hd5)
      go_meet
      case rel=>exact ⟨by rw [HMX.out],HF5⟩
     | true =>
      rw [hm] at HKM
      by_cases hp:0≤no
      ·have hpb:decide (0≤no)=true:=decide_eq_true hp
       by_cases hq:no≤1048576
       ·have hqb:decide (no≤1048576)=true:=decide_eq_true hq
        have HMX:=am (show Ht.mayX (⟨nm,no⟩:S30)=true by unfold Ht.mayX;rw [hm,hpb,hqb];rfl)
        clear hm hp hq
        go_wp2_with (go_at_call 16;refine (r_11_May.calls km nm true _ HKM.out).mono ?_;rintro e w5 ⟨rfl,hd5⟩;have HF5:=am (HFX.out.below hd5.below);have hy0:=(blk_cell HF5.out.blk 0).trans rfl;have hy1:=(blk_cell HF5.out.blk 1).trans rfl;have hy2:=(blk_cell HF5.out.blk 2).trans rfl;clear hd5)
        go_meet
        case rel=>exact ⟨by rw [HMX.out],HF5⟩
       ·have hqb:decide (no≤1048576)=false:=decide_eq_false hq
        have HMX:=am (show Ht.mayX (⟨nm,no⟩:S30)=false by unfold Ht.mayX;rw [hm,hpb,hqb];rfl)
        clear hm hp hq
        go_wp2_with (go_at_call 16;refine (r_11_May.calls km nm true _ HKM.out).mono ?_;rintro e w5 ⟨rfl,hd5⟩;have HF5:=am (HFX.out.below hd5.below);have hy0:=(blk_cell HF5.out.blk 0).trans rfl;have hy1:=(blk_cell HF5.out.blk 1).trans rfl;have hy2:=(blk_cell HF5.out.blk 2).trans rfl;clear hd5)
        go_meet
        case rel=>exact ⟨by rw [HMX.out],HF5⟩
      ·have hpb:decide (0≤no)=false:=decide_eq_false hp
       have HMX:=am (show Ht.mayX (⟨nm,no⟩:S30)=false by unfold Ht.mayX;rw [hm,hpb];rfl)
       clear hm hp
       go_wp2_with (go_at_call 16;refine (r_11_May.calls km nm true _ HKM.out).mono ?_;rintro e w5 ⟨rfl,hd5⟩;have HF5:=am (HFX.out.below hd5.below);have hy0:=(blk_cell HF5.out.blk 0).trans rfl;have hy1:=(blk_cell HF5.out.blk 1).trans rfl;have hy2:=(blk_cell HF5.out.blk 2).trans rfl;clear hd5)
       go_meet
       case rel=>exact ⟨by rw [HMX.out],HF5⟩
    case rest =>
     obtain ⟨rfl,HFW⟩:=hcut
     clear HFX hx0 hx1 hx2 hc0 hc1 hc2;have HFX:=HFW;clear HFW
     have hx0:=(blk_cell HFX.out.blk 0).trans rfl
     have hx1:=(blk_cell HFX.out.blk 1).trans rfl
     have hx2:=(blk_cell HFX.out.blk 2).trans rfl
     go_upto_if 66 with fail
     go_cut [12] (fun v12 wc=>v12=.bool (Ht.okD op nm no)∧Aside0 (FX w B wr.heap.size (.slice Ad d.length cd) d v4 nd i D op nm no wc))
     case first =>
      by_cases h1:bits .and .i64 op 3=1
      ·have h1b:(bits .and .i64 op 3==1)=true:=beq_iff_eq.2 h1
       have HOK:=am (show Ht.okD op nm no=Lf.mayB nm by unfold Ht.okD;rw [if_pos h1])
       clear h1
       go_wp2_with (go_at_call 16;refine (r_11_May.calls km nm (Lf.mayB nm) _ HKM.out).mono ?_;rintro e w5 ⟨rfl,hd5⟩;have HF5:=am (HFX.out.below hd5.below);have hy0:=(blk_cell HF5.out.blk 0).trans rfl;have hy1:=(blk_cell HF5.out.blk 1).trans rfl;have hy2:=(blk_cell HF5.out.blk 2).trans rfl;clear hd5)
       go_meet
       case rel=>exact ⟨by rw [HOK.out],HF5⟩
      ·have h1b:(bits .and .i64 op 3==1)=false:=beq_eq_false_iff_ne.2 h1
       have HOK:=am (show Ht.okD op nm no=Ht.mayX (⟨nm,no⟩:S30) by unfold Ht.okD;rw [if_neg h1])
       clear h1;go_wp2
       go_meet
       case rel=>exact ⟨by rw [HOK.out],HFX⟩
     case rest =>
      obtain ⟨rfl,HFW⟩:=hcut
      clear HFX hx0 hx1 hx2;have HFX:=HFW;clear HFW
      have hx0:=(blk_cell HFX.out.blk 0).trans rfl
      have hx1:=(blk_cell HFX.out.blk 1).trans rfl
      have hx2:=(blk_cell HFX.out.blk 2).trans rfl
      go_upto_region 15 with fail
      go_cut [13] (fun v13 wc=>v13=.bool (Ht.addD op)∧Aside0 (FX w B wr.heap.size (.slice Ad d.length cd) d v4 nd i D op nm no wc))
      case first =>
       by_cases h0:bits .and .i64 op 3=0
       ·have h0b:(bits .and .i64 op 3==0)=true:=beq_iff_eq.2 h0
        have HAD:=am (show Ht.addD op=true by unfold Ht.addD;rw [decide_eq_true h0];rfl)
        clear h0;go_wp2
        go_meet
        case rel=>exact ⟨by rw [HAD.out],HFX⟩
       ·have h0b:(bits .and .i64 op 3==0)=false:=beq_eq_false_iff_ne.2 h0
        have HAD:=am (show Ht.addD op=(bits .and .i64 op 3==3) by unfold Ht.addD;rw [decide_eq_false h0,Bool.false_or];rfl)
        clear h0;go_wp2
        go_meet
        case rel=>exact ⟨by rw [HAD.out],HFX⟩
      case rest =>
       obtain ⟨rfl,HFW⟩:=hcut
       clear HFX hx0 hx1 hx2;have HFX:=HFW;clear HFW
       have hx0:=(blk_cell HFX.out.blk 0).trans rfl
       have hx1:=(blk_cell HFX.out.blk 1).trans rfl
       have hx2:=(blk_cell HFX.out.blk 2).trans rfl
       have HWI:=am (show wrap64 ((i:Int)+1)=((i+1:Nat):Int) by have:=HIN.out;have:=HXL.out;unfold wrap64;omega)
       rcases HST.out with ⟨e1,e2⟩|⟨e1,e2,e3,e4⟩|⟨e1,e2,e3,e4⟩|⟨e1,e2,e3,e4⟩|⟨e1,e2,e3,e4,e5,e6⟩|⟨e1,e2,e3,e4,e5,e6⟩|⟨e1,e2,e3,e4,e5,e6⟩
       ·rw [e1]
        subst e2
        clear e1;go_wp2
        go_roundw
        case rel=>exact ⟨i+1,d,D,by rw [HWI.out],⟨HIN.out⟩,⟨HFX.out.dir⟩,⟨HFX.out.map.mono (by omega)⟩,HL,⟨HFX.out.low⟩⟩
        case measure=>rw [HWI.out];show xs.length - (((i+1:Nat):Int)).toNat < xs.length - ((i:Int)).toNat;have:=HIN.out;omega
       ·rw [e1,e2,e3]
        subst e4
        clear e1 e2 e3;go_wp2
        go_roundw
        case rel=>exact ⟨i+1,d,D,by rw [HWI.out],⟨HIN.out⟩,⟨HFX.out.dir⟩,⟨HFX.out.map.mono (by omega)⟩,HL,⟨HFX.out.low⟩⟩
        case measure=>rw [HWI.out];show xs.length - (((i+1:Nat):Int)).toNat < xs.length - ((i:Int)).toNat;have:=HIN.out;omega
       ·rw [e1,e2,e3]
        subst e4
        clear e1 e2 e3;go_wp2
        go_roundw
        case rel=>exact ⟨i+1,d,D,by rw [HWI.out],⟨HIN.out⟩,⟨HFX.out.dir⟩,⟨HFX.out.map.mono (by omega)⟩,HL,⟨HFX.out.low⟩⟩
        case measure=>rw [HWI.out];show xs.length - (((i+1:Nat):Int)).toNat < xs.length - ((i:Int)).toNat;have:=HIN.out;omega
       ·rw [e1,e2,e3]
        subst e4
        clear e1 e2 e3;go_wp2
        go_roundw
        case rel=>exact ⟨i+1,d,D,by rw [HWI.out],⟨HIN.out⟩,⟨HFX.out.dir⟩,⟨HFX.out.map.mono (by omega)⟩,HL,⟨HFX.out.low⟩⟩
        case measure=>rw [HWI.out];show xs.length - (((i+1:Nat):Int)).toNat < xs.length - ((i:Int)).toNat;have:=HIN.out;omega
       ·have HLK:=am e6
        have HLT:=am (show i < maxLen by have:=HIN.out;have:=HXL.out;unfold maxLen;omega)
        have h1b:(bits .and .i64 op 3==1)=false:=beq_eq_false_iff_ne.2 e5
        have HWF:=am (show (Lit.int .i64 no).wf=true from WalkArith.wf_i64 (by
         have h:=e1
         unfold Ht.okD at h
         rw [if_neg e5] at h
         simp only [Ht.mayX,Bool.and_eq_true,decide_eq_true_eq] at h
         omega))
        rw [e1,e2,e3]
        subst e4
        clear e1 e2 e3 e5 e6
        go_wp2_with (at_mapUpdate;refine wpList_mapUpdate_own _ rfl _ _ _ 41 rfl 9 3 fnd_law Try.underlying41 _ B i D rfl HFX.out.map HLT.out _ _ _ rfl rfl HKEY.out _ [] (plainElem_int Try.underlying3 HWF.out) ?_;intro w6 hown6 hgrow6;have HOW:=am hown6;have HGR:=am hgrow6;clear hown6 hgrow6)
        go_roundw
        case rel=>exact ⟨i+1,nd,_,by rw [HWI.out],⟨HIN.out⟩,⟨Kd.N_grown HFX.out.next HGR.out (fun k hk e=>hk (Option.some.inj e))⟩,HOW,HLK,⟨HFX.out.low.grown HGR.out HFX.out.low.size (fun j hj=>by cases hj;exact HBm.out)⟩⟩
        case measure=>rw [HWI.out];show xs.length - (((i+1:Nat):Int)).toNat < xs.length - ((i:Int)).toNat;have:=HIN.out;omega
       ·have HLK:=am e6
        have HLT:=am (show i < maxLen by have:=HIN.out;have:=HXL.out;unfold maxLen;omega)
        have h1b:(bits .and .i64 op 3==1)=true:=beq_iff_eq.2 e5
        rw [e1,e2,e3]
        subst e4
        clear e1 e2 e3 e5 e6
        go_wp2_with (at_delete;refine wpList_delete_own _ rfl _ _ 41 9 rfl 3 fnd_law Try.underlying41 _ B i D rfl HFX.out.map _ _ rfl HKEY.out ?_;intro w6 hown6 hturn6;have HOW:=am (hown6.mono (Nat.le_succ i));have HGR:=am hturn6.grown;clear hown6 hturn6)
        go_roundw
        case rel=>exact ⟨i+1,nd,_,by rw [HWI.out],⟨HIN.out⟩,⟨Kd.N_grown HFX.out.next HGR.out (fun k hk e=>hk (Option.some.inj e))⟩,HOW,HLK,⟨HFX.out.low.grown HGR.out HFX.out.low.size (fun j hj=>by cases hj;exact HBm.out)⟩⟩
        case measure=>rw [HWI.out];show xs.length - (((i+1:Nat):Int)).toNat < xs.length - ((i:Int)).toNat;have:=HIN.out;omega
       ·have HLK:=am e6
        have HLT:=am (show i < maxLen by have:=HIN.out;have:=HXL.out;unfold maxLen;omega)
        have h1b:(bits .and .i64 op 3==1)=false:=beq_eq_false_iff_ne.2 e5
        have HWF:=am (show (Lit.int .i64 no).wf=true from WalkArith.wf_i64 (by
         have h:=e1
         unfold Ht.okD at h
         rw [if_neg e5] at h
         simp only [Ht.mayX,Bool.and_eq_true,decide_eq_true_eq] at h
         omega))
        rw [e1,e2,e3]
        subst e4
        clear e1 e2 e3 e5 e6
        go_wp2_with (at_mapUpdate;refine wpList_mapUpdate_own _ rfl _ _ _ 41 rfl 9 3 fnd_law Try.underlying41 _ B i D rfl HFX.out.map HLT.out _ _ _ rfl rfl HKEY.out _ [] (plainElem_int Try.underlying3 HWF.out) ?_;intro w6 hown6 hgrow6;have HOW:=am hown6;have HGR:=am hgrow6;clear hown6 hgrow6)
        go_roundw
        case rel=>exact ⟨i+1,nd,_,by rw [HWI.out],⟨HIN.out⟩,⟨Kd.N_grown HFX.out.next HGR.out (fun k hk e=>hk (Option.some.inj e))⟩,HOW,HLK,⟨HFX.out.low.grown HGR.out HFX.out.low.size (fun j hj=>by cases hj;exact HBm.out)⟩⟩
        case measure=>rw [HWI.out];show xs.length - (((i+1:Nat):Int)).toNat < xs.length - ((i:Int)).toNat;have:=HIN.out;omega
   ·obtain rfl:i=xs.length:=by have:=HI.out;omega
    have hib:decide (xs.length < xs.length)=false:=decide_eq_false (by omega)
    clear hi;go_wp2
    have HO2:=am HO.out
    have HM2:=am HM.out
    have HB2w:=am HB.out
    clear HO HM HB
    go_loopw [14] (fun jv w2r=>∃ (j:Nat),jv=.int .i64 (j:Int)∧Aside0 (j≤xs.length)∧Aside0 (Kd.N (Kd.slice 5 (Kd.int .u8)) 66 w2r w.heap.size (fun k=>k≠B) (.slice Ad d.length cd) d)∧Aside0 (w2r.ownsMap Try.prog 9 (plainElem Try.prog 3) B xs.length D)∧Aside0 (Below w.heap.size w w2r)) (fun iv _=>xs.length - (intOf iv).toNat)
    case atStart=>exact ⟨0,rfl,⟨Nat.zero_le _⟩,HO2,HM2,HB2w⟩
    case round =>
     clear HO2 HM2 HB2w
     obtain ⟨j,rfl,HJ,HO,HM,HB⟩:=hrel
     by_cases hj:j < xs.length
     ·have hjb:decide (j < xs.length)=true:=decide_eq_true hj
      have HJN:=am hj
      obtain ⟨ad,ead,hc0,hc1,hc2⟩:=at_T44 HRX.out (j:Int) (by omega) (by omega)
      cases ead
      have erd:rd_T44 xs (j:Int)=xs[j]:=by unfold rd_T44;rw [List.getD_eq_getElem?_getD,Int.toNat_natCast,List.getElem?_eq_getElem hj];rfl
      rw [erd,Int.toNat_natCast] at hc0 hc1 hc2
      have HXN:=am (HNM.out _ (List.getElem_mem hj))
      obtain ⟨⟨op,nm,no⟩,hx⟩:∃ x,xs[j]=x:=⟨_,rfl⟩
      rw [hx] at hc0 hc1 hc2 HXN
      dsimp only at hc0 hc1 hc2 HXN
      replace hc1:=hB HB hc1
      clear hx erd hc0 hc2
      have HI0:=am (show ((0:Int)≤(j:Int))=True from eq_true (by omega))
      have hi0:=HI0.out
      have hi1:((j:Int) < (xs.length:Int))=True:=eq_true (by have:=HJN.out;omega)
      have HKEY:=am (show keyOf Try.prog 9 (.string nm)=some (.string nm.data.toList) from Go.WideMaps.keyOf_string_mk Try.underlying9 HXN.out)
      obtain ⟨fn,hfn⟩:∃ fn,(Ht.findP d nm).1=fn:=⟨_,rfl⟩
      obtain ⟨fe,hfe⟩:∃ fe,(Ht.findP d nm).2=fe:=⟨_,rfl⟩
      have HFI:=am (show htree_Find.f d nm=some (fn,fe) by rw [Ht.f_find HL.out.dir.b,← hfn,← hfe])
      have HLF:=am (HL.out.find nm)
      rw [hfn,hfe] at HLF
      clear hfn hfe hj
      go_upto_region 39 with (at_lookup;refine wpList_lookup_own_ok_int _ rfl _ _ 41 rfl 9 3 .i64 fnd_law Try.underlying41 Try.underlying3 (fnd_zero _) B xs.length D rfl HM.out _ _ rfl HKEY.out ?_;intro c hat hwc;have HAT:=am hat;clear hat hwc)
      have HWJ:=am (show wrap64 ((j:Int)+1)=((j+1:Nat):Int) by have:=HJN.out;have:=HXL.out;unfold wrap64;omega)
      rcases HLF.out with ⟨g1,g2,g3⟩|⟨g1,g2⟩
      ·obtain rfl:fn=c:=fnd_lit (g3.symm.trans HAT.out)
       rw [g1]
       subst g2
       have hcc:(fn != fn)=false:=by simp
       clear g1 g3
       go_wp2_with (go_at_call 17;refine (htree_Find.calls Ad cd d nm fn 0 _ (Kd.N_reads' HO.out).2.2 (Kd.N_reads' HO.out).2.1 HFI.out).mono ?_;rintro e w5 ⟨rfl,hb5⟩;have HO5:=am (Kd.N_below HO.out hb5);have HM5:=am (ownsMap_blk HM.out (hb5.block _ HM.out.lt));have HB5:=am (HB.out.trans (hb5.mono HB.out.size));clear hb5)
       go_roundw
       case rel=>exact ⟨j+1,by rw [HWJ.out],⟨HJN.out⟩,HO5,HM5,HB5⟩
       case measure=>rw [HWJ.out];show xs.length - (((j+1:Nat):Int)).toNat < xs.length - ((j:Int)).toNat;have:=HJN.out;omega
      ·rw [g1]
       have hfb:(fe==0)=false:=beq_eq_false_iff_ne.2 g2
       have hfb2:(fe != 0)=true:=bne_iff_ne.2 g2
       clear g1 g2
       go_wp2_with (go_at_call 17;refine (htree_Find.calls Ad cd d nm fn fe _ (Kd.N_reads' HO.out).2.2 (Kd.N_reads' HO.out).2.1 HFI.out).mono ?_;rintro e w5 ⟨rfl,hb5⟩;have HO5:=am (Kd.N_below HO.out hb5);have HM5:=am (ownsMap_blk HM.out (hb5.block _ HM.out.lt));have HB5:=am (HB.out.trans (hb5.mono HB.out.size));clear hb5)
       go_roundw
       case rel=>exact ⟨j+1,by rw [HWJ.out],⟨HJN.out⟩,HO5,HM5,HB5⟩
       case measure=>rw [HWJ.out];show xs.length - (((j+1:Nat):Int)).toNat < xs.length - ((j:Int)).toNat;have:=HJN.out;omega
     ·obtain rfl:j=xs.length:=by have:=HJ.out;omega
      have hjb:decide (xs.length < xs.length)=false:=decide_eq_false (by omega)
      clear hj
      have HSZ:=am HL.out.size
      have HEL:=am (Ht.entsD_len HL.out.dir.byte)
      obtain ⟨en,hen⟩:∃ en,Ht.entsD d=en:=⟨_,rfl⟩
      have HAF:=am (show htree_After.f d ⟨#[]⟩ ((en.length:Int)+5)=some (en,0) by rw [Ht.f_after HL.out.dir.b _ (by decide),Ht.after0 HL.out.dir,← hen,List.take_of_length_le (by omega)])
      have HCH:=am (show htree_Check.f d=some 0 by rw [Ht.f_check HL.out.dir.b,HL.out.dir.check])
      rw [hen] at HSZ HEL
      have HLN:=am (show ∀ W:World,W.ownsMap Try.prog 9 (plainElem Try.prog 3) B xs.length D→(Builtin.len_ #[41] 3 #[.map (some B)]).run Try.prog W=.ok (.int .i64 (en.length:Int)) W from fun W hm=>by
       have h1:=hm.len Try.underlying41 3
       rw [HSZ.out] at h1
       exact h1)
      have HWE:=am (show wrap64 ((en.length:Int)+5)=(en.length:Int)+5 by have:=HEL.out;unfold wrap64;omega)
      have hwe:=HWE.out
      have hl0:=HLN.out _ HM.out
      clear hen
      go_wp2_with (first|(go_at_call 8;refine (htree_Check.calls Ad cd d 0 _ (Kd.N_reads' HO5.out).2.2 (Kd.N_reads' HO5.out).2.1 HCH.out).mono ?_;rintro e w6 ⟨rfl,hb6⟩;have HB6:=am (HB5.out.trans (hb6.mono HB5.out.size));clear hb6)|(go_at_call 9;refine (htree_After.calls Ad cd d ⟨#[]⟩ ((en.length:Int)+5) en 0 _ (Kd.N_reads' HO.out).2.2 (Kd.N_reads' HO.out).2.1 HAF.out).mono ?_;rintro e w5 ⟨v5,rfl,hr5,hb5⟩;obtain ⟨A5,c5,rfl⟩:=Kd.R_slice hr5;have HO5:=am (Kd.N_below HO.out hb5);have HM5:=am (ownsMap_blk HM.out (hb5.block _ HM.out.lt));have HB5:=am (HB.out.trans (hb5.mono HB.out.size));have hl5:=HLN.out _ HM5.out;clear hb5 hr5))
      go_ret
      exact ⟨rfl,HB6.out⟩
 ·rw [if_neg hn] at h
  cases h
end Go.Proofs.Yteglhbfhibfodaa.Pr
end
section
namespace Go.Proofs.Yteglhbfhibfodaa.Ht
open Go.RowKit Go.Proofs.YteglhbfhibfodaaW.PrintWords Go.Proofs.YteglhbfhibfodaaW.PrintMore Go.Proofs.Yteglhbfhibfodaa.Pr
set_option linter.unusedVariables false
abbrev DeedS := S44
def Deeds (l : List DeedS) : Prop := ∀ e ∈ l, e.f1.size ≤ maxLen
theorem oDeeds : Op.Opens Try.prog 40 (Kd.slice 44 k44) Deeds :=
  Op.opens_imp (Op.opens_slice Try.underlying40 (by kernel_rfl) (B := 32) (by kernel_rfl)
    (Op.opens_iso (T := fun e : DeedS => e.f1.size ≤ 140737488351232) (fun x => ⟨x.1, x.2.1, x.2.2⟩) (fun _ => rfl) (fun _ h => h.2.1)
      (Op.opens_struct Try.underlying44 (by kernel_rfl) (Op.opensAt_cons rfl (by kernel_rfl) (Op.opens_int Try.underlying3) (Op.opensAt_cons rfl (by kernel_rfl) (Op.opens_string Try.underlying9) (Op.opensAt_last rfl (by kernel_rfl) (Op.opens_int Try.underlying3)))))))
    (fun l h e he => by have := h.2 e he; unfold maxLen; omega)
theorem HtreeFinds (l : List DeedS) (h : Deeds l) : l_12_HtreeFinds.f l = some true := by
  unfold l_12_HtreeFinds.f
  rw [if_pos (List.all_eq_true.2 fun x hx => decide_eq_true (h x hx))]
end Go.Proofs.Yteglhbfhibfodaa.Ht
end
section
namespace Go.Proofs.Yteglhbfhibfodaa.htreeFinds
open Go.ChangeShapes Go.WideShapes Go.ChangeAt Go.RowKit Go.Proofs.YteglhbfhibfodaaW.PrintWords Go.Proofs.Yteglhbfhibfodaa.Pr Go.Proofs.Yteglhbfhibfodaa.Op Go.Joins
open Go.ChangeMaps (open_string shut_string)
set_option linter.unusedVariables false
theorem own : ownKnob Try.prog.godebug = none := by kernel_rfl
theorem laidOut : laidOutB Try.prog = true := by kernel_rfl
set_option maxRecDepth 100000 in
theorem contract (H : Type) (enc : TypeId × Value → H) (W : World) (base : Nat) (args : Array Value) (ds gs : List (DataW H)) (before : List MemPlace)
    (hval : ∀ (j : Nat) t v, Try.f5.params[j]? = some t → args[j]? = some v → Value.okWide Try.prog W .any base t v)
    (hW : DataW.Whole enc Try.prog Try.f5.params.toList Rows.htreeFindsSpec.vars false W args.toList ds gs before)
    (hsz : (DataW.weightsEach Try.prog (Try.f5.params.toList ++ Rows.htreeFindsSpec.plain.varTypes Try.prog) (ds ++ gs)).all (· ≤ reachBytes) = true) :
    Calls Try.prog 5 args W fun e W' => ∃ v, e = .returned v ∧ Rows.htreeFindsSpec.post enc Try.prog Try.f5 false true false false W args v W' := by
  have hW' := hW
  obtain ⟨p, q, hA0, hV, rfl, hfz, hnd⟩ := hW
  have hA : DataW.TrodAll enc Try.prog W 0 (fun _ => true) true Try.f5.params.toList args.toList ds p := hA0
  rw [Try.params5] at hA hval hsz
  obtain ⟨v0, vs0, d0, ds0, p0, q0, hargs, rfl, rfl, h0, r0⟩ := trodAll_cons hA
  obtain ⟨rfl, rfl, rfl⟩ := trodAll_nil r0
  obtain rfl : args = #[v0] := by cases args; simp_all
  obtain ⟨rfl, rfl⟩ := trodVars_none hV
  have lt0 : ∀ x ∈ p0, x.block < W.heap.size := by obtain ⟨m, hm⟩ := h0; exact DataW.trod_lt m _ _ _ hm
  have k0 := h0
  obtain ⟨A0, l0, c0, rfl, hc0, hr0, hs0⟩ := arg_slice Try.underlying40 Ht.oDeeds (hval 0 40 v0 rfl rfl) h0 hsz (j := 0) (t := 40) rfl rfl
  clear hA0
  have hk := Ht.HtreeFinds l0 hs0
  refine (l_12_HtreeFinds.calls A0 c0 l0 true W hr0 hc0 hk).mono fun e W' ⟨he, bel⟩ => ?_
  subst he
  exact ⟨_, rfl, _, _, _, [], _, [], hW', trodAll_mk1 (shut_bool Try.underlying4 _), (trodAll_cons_mk (Below.trod laidOut (by kernel_rfl) (of_decide_eq_true (by kernel_rfl)) k0 bel lt0) trodAll_mk0), rfl, bel.frame _, fun h => by cases h⟩
set_option maxRecDepth 100000 in
theorem lifted (os : Os) (started : os.Started) (H : Type) (enc : TypeId × Value → H) :
    ReturnsInHanded {} Try.checked os 5 .any (Rows.htreeFindsSpec.pre6 enc Try.prog Try.f5 Rows.htreeFindsRow.domain false) (Rows.htreeFindsSpec.post enc Try.prog Try.f5 false true false false) := by
  refine returnsInHanded_of_change_sized (C := Try.checked) own started (by kernel_rfl) Try.func5
    (ChangeSpec.witness6 (enc := enc) (C := Try.checked) false ⟨#[], #[.slice none 0 0], []⟩ 8 (by kernel_rfl) (by kernel_rfl) (by kernel_rfl) (by kernel_rfl)) ?_
  intro W base args ds gs before hval hW _ hsz _
  exact contract H enc W base args ds gs before hval hW hsz
theorem over : Rows.htreeFindsRow.holds Try.pinned (OpenSpec.ofChange Rows.htreeFindsSpec) :=
  OpenClaim.holds_of_wide 5 Try.f5 rfl rfl rfl rfl rfl rfl rfl ⟨rfl, rfl, rfl, rfl, rfl⟩ rfl rfl rfl rfl rfl (by kernel_rfl) Try.func5 (by kernel_rfl)
    (of_decide_eq_true (by kernel_rfl)) (by unfold Func.isWrapper; first | (rw [if_pos (by decide +kernel)]; kernel_rfl) | (rw [if_neg (by decide +kernel)]; exact ⟨rfl, rfl⟩))
    (fun os started H enc _ => lifted os started H enc)
theorem proved : Rows.HtreeFindsSaid := over
end Go.Proofs.Yteglhbfhibfodaa.htreeFinds
namespace Go.Proofs.Yteglhbfhibfodaa
theorem htreeFinds_holds : Rows.HtreeFindsSaid := htreeFinds.proved
end Go.Proofs.Yteglhbfhibfodaa
end
