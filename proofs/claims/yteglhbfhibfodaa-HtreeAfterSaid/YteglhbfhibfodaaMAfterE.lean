/- MAfter: this session's texts for the one law, put together (part 5 of 5): what its program computes, function by function, and that this answers true; the row stands at the end of the last part. Conditions: those that each theorem names; the last theorem has none. -/
import Derived.Test.YteglhbfhibfodaaRows
import Derived.WalkKit
import Derived.ProofKit
import Derived.OpenShut
import Derived.ShutString
import Derived.ChangeOld
import Derived.Below
import Derived.SizedLaws
import Derived.Carry
import Derived.Lib.SmallJoins
import Derived.Test.YteglhbfhibfodaaMAfterD
section
namespace Go.Proofs.Yteglhbfhibfodaa.Pr
open Go.RowKit Go.Proofs.YteglhbfhibfodaaW.PrintWords Go.Proofs.YteglhbfhibfodaaW.PrintLast Go.Proofs.YteglhbfhibfodaaW.PrintMore
attribute [local go_sem] max2_int min2_int max_two min_two max_three min_three max_four min_four
attribute [local go_sem] Go.Proofs.Yteglhbfhibfodaa.Hl.str_geq Go.Proofs.Yteglhbfhibfodaa.Hl.str_gtr Go.Proofs.Yteglhbfhibfodaa.Hl.str_leq
set_option linter.unusedVariables false
set_option linter.unusedSimpArgs false
mutual
def l_12_HtreeAfter.l0:Nat→List (List Int)→Int→List (S30)→List (S30)→ByteArray→Option (Bool)
 | 0,_,_,_,_,_=>none
 | k+1,x0,x1,x7,x9,x10=>(htree_After.f x0 x10 (wrap64 (1+(Go.bits .and .i64 x1 7)))).bind fun bt231=>(if bt231.2=0 then (l_12_HtreeAfter.j1 k x0 x1 x7 x9 bt231.1 (decide ((bt231.1.length:Int) > (wrap64 (1+(Go.bits .and .i64 x1 7)))))) else (l_12_HtreeAfter.j1 k x0 x1 x7 x9 bt231.1 true))
def l_12_HtreeAfter.j1:Nat→List (List Int)→Int→List (S30)→List (S30)→List (S30)→Bool→Option (Bool)
 | 0,_,_,_,_,_,_=>none
 | k+1,x0,x1,x7,x9,x11,x58=>if x58=true then (some false) else (if (x11.length:Int)=0 then (l_12_HtreeAfter.l1 k x0 x7 x9 1) else (if x9.length+x11.length < 5864062014805 then ((some (x9++x11:List (S30))).bind fun y235=>(if 0≤(wrap64 ((x11.length:Int) - 1)) then (if (wrap64 ((x11.length:Int) - 1)) < (x11.length:Int) then (if (y235.length:Int) > (x7.length:Int) then (some false) else (l_12_HtreeAfter.l0 k x0 x1 x7 y235 ((rd_T30 x11 (wrap64 ((x11.length:Int) - 1))).f0))) else (none)) else (none))) else (none)))
def l_12_HtreeAfter.l1:Nat→List (List Int)→List (S30)→List (S30)→Int→Option (Bool)
 | 0,_,_,_,_=>none
 | k+1,x0,x7,x9,x13=>if x13 < (x9.length:Int) then (if 0≤(wrap64 (x13 - 1)) then (if (wrap64 (x13 - 1)) < (x9.length:Int) then (if 0≤x13 then ((r_12_Below.f k ((rd_T30 x9 (wrap64 (x13 - 1))).f0) ((rd_T30 x9 x13).f0)).bind fun t241=>(if t241=true then (l_12_HtreeAfter.l1 k x0 x7 x9 (wrap64 (x13+1))) else (some false))) else (none)) else (none)) else (none)) else ((htree_After.f x0 (⟨#[]⟩:ByteArray) 0).bind fun bt242=>(if bt242.2=0 then (if (bt242.1.length:Int)=0 then ((r_11_Same.f k x9 x7).bind fun t246=>(some t246)) else (some false)) else (some false)))
end
def l_12_HtreeAfter.f (k:Nat) (l0:List (List Int)) (a1:Int):Option (Bool):=(l_12_alive.f k).bind fun t221=>(if t221=true then ((htree_Check.f l0).bind fun t222=>(if t222=0 then ((htree_After.f l0 (⟨#[]⟩:ByteArray) 5000).bind fun bt227=>(if bt227.2=0 then (l_12_HtreeAfter.l0 k l0 a1 bt227.1 ([]:List (S30)) (⟨#[]⟩:ByteArray)) else (some false))) else ((htree_After.f l0 (⟨#[]⟩:ByteArray) 5).bind fun bt223=>(if bt223.2=13 then (some ((bt223.1.length:Int)==0)) else (some false))))) else (some false))
def l_12_HtreeAfter.T22:Bool×List (List Nat×List Nat):=(true,[([],[]),([],[]),([1],[1]),([0,2],[0,2]),([3],[3]),([4],[4]),([],[]),([],[]),([6,7],[6,7]),([8],[8]),([9],[9]),([5,10],[5,10]),([11],[11])])
def l_12_HtreeAfter.B22:List Nat:=[0,0,2,7,15,31,0,0,192,448,960,2047,4095]
theorem l_12_HtreeAfter.tab22:rtab .any (opsOf Try.f3 22)=l_12_HtreeAfter.T22:=by kernel_rfl
theorem l_12_HtreeAfter.bits22:waitsOk l_12_HtreeAfter.T22.2 l_12_HtreeAfter.B22=true:=by kernel_rfl
set_option maxHeartbeats 8000000 in
set_option maxRecDepth 100000 in
theorem l_12_HtreeAfter.calls (k:Nat) (A0:Option Addr) (c0:Nat) (l0:List (List Int)) (a1:Int) (r:Bool) (w:World) (hr0:Kd.C (Kd.slice 5 (Kd.int .u8)) w A0 l0.length l0) (hc0:l0.length≤c0) (h:l_12_HtreeAfter.f k l0 a1=some r) :
  Calls Try.prog 3 #[.slice A0 l0.length c0,.int .i64 a1] w fun e w'=>e=.returned (.bool r)∧Below w.heap.size w w':=by
 have HR0:=am hr0
 have HC0:=am hc0
 clear hr0 hc0
 have HB:=am (Below.refl w.heap.size w)
 have H:((l_12_alive.f k).bind fun t221=>(if t221=true then ((htree_Check.f l0).bind fun t222=>(if t222=0 then ((htree_After.f l0 (⟨#[]⟩:ByteArray) 5000).bind fun bt227=>(if bt227.2=0 then (l_12_HtreeAfter.l0 k l0 a1 bt227.1 ([]:List (S30)) (⟨#[]⟩:ByteArray)) else (some false))) else ((htree_After.f l0 (⟨#[]⟩:ByteArray) 5).bind fun bt223=>(if bt223.2=13 then (some ((bt223.1.length:Int)==0)) else (some false))))) else (some false)))=some r:=h
 clear h
 replace H:=Option.bind_eq_some_iff.mp H
 obtain ⟨t221,A30,H⟩:=H
 replace H:(if t221=true then ((htree_Check.f l0).bind fun t222=>(if t222=0 then ((htree_After.f l0 (⟨#[]⟩:ByteArray) 5000).bind fun bt227=>(if bt227.2=0 then (l_12_HtreeAfter.l0 k l0 a1 bt227.1 ([]:List (S30)) (⟨#[]⟩:ByteArray)) else (some false))) else ((htree_After.f l0 (⟨#[]⟩:ByteArray) 5).bind fun bt223=>(if bt223.2=13 then (some ((bt223.1.length:Int)==0)) else (some false))))) else (some false))=some r:=H
 have A3:=am A30
 clear A30
 by_cases c4:t221=true
 ·subst c4
  have H1:((htree_Check.f l0).bind fun t222=>(if t222=0 then ((htree_After.f l0 (⟨#[]⟩:ByteArray) 5000).bind fun bt227=>(if bt227.2=0 then (l_12_HtreeAfter.l0 k l0 a1 bt227.1 ([]:List (S30)) (⟨#[]⟩:ByteArray)) else (some false))) else ((htree_After.f l0 (⟨#[]⟩:ByteArray) 5).bind fun bt223=>(if bt223.2=13 then (some ((bt223.1.length:Int)==0)) else (some false)))))=some r:=by rw [if_pos rfl] at H;exact H
  clear H;have H:=H1;clear H1
  replace H:=Option.bind_eq_some_iff.mp H
  obtain ⟨t222,A50,H⟩:=H
  replace H:(if t222=0 then ((htree_After.f l0 (⟨#[]⟩:ByteArray) 5000).bind fun bt227=>(if bt227.2=0 then (l_12_HtreeAfter.l0 k l0 a1 bt227.1 ([]:List (S30)) (⟨#[]⟩:ByteArray)) else (some false))) else ((htree_After.f l0 (⟨#[]⟩:ByteArray) 5).bind fun bt223=>(if bt223.2=13 then (some ((bt223.1.length:Int)==0)) else (some false))))=some r:=H
  have A5:=am A50
  clear A50
  by_cases c6:t222=0
  ·rw [if_pos c6] at H
   have c6b0:(t222==0)=true:=beq_iff_eq.mpr c6
   have c6b1:(t222 != 0)=false:=bne_eq_false_iff_eq.mpr c6
   clear c6
   replace H:=Option.bind_eq_some_iff.mp H
   obtain ⟨⟨t227,t228⟩,A70,H⟩:=H
   replace H:(if t228=0 then (l_12_HtreeAfter.l0 k l0 a1 t227 ([]:List (S30)) (⟨#[]⟩:ByteArray)) else (some false))=some r:=H
   have A7:=am A70
   clear A70
   by_cases c8:t228=0
   ·rw [if_pos c8] at H
    have c8b0:(t228==0)=true:=beq_iff_eq.mpr c8
    have c8b1:(t228 != 0)=false:=bne_eq_false_iff_eq.mpr c8
    clear c8
    have H':=am H
    clear H
    go_enter Try.func3,Try.ntmps3
    go_wp2_with (first|((with_reducible refine gate_callee (f:=7) rfl ?_);refine goesL_ (some 16) rfl rfl Try.func7 (by kernel_rfl) rfl #[] rfl (by (try simp only [List.map_toArray,List.map_cons,List.map_nil]);first|done|rfl|(simp only [List.length_drop,List.length_take];rfl)) ?_;(with_reducible refine (l_12_alive.calls k  true _ A3.out).mono ?_);rintro e w9 ⟨rfl,hb⟩;refine ⟨_,rfl,?_⟩;have n0_:=bst HB hb;clear HB;have HB:=n0_;clear n0_;(try clear hb);(try clear hb2);(try clear hk);(try clear hi))|((with_reducible refine gate_callee (f:=8) rfl ?_);refine goesL_ (some 19) rfl rfl Try.func8 (by kernel_rfl) rfl #[.slice A0 l0.length c0] rfl (by (try simp only [List.map_toArray,List.map_cons,List.map_nil]);first|done|rfl|(simp only [List.length_drop,List.length_take];rfl)) ?_;(with_reducible refine (htree_Check.calls _ _ l0 t222 _ ?side1 ?side2 A5.out).mono ?_);(case side1=>exact cc (Kd.C_below HR0.out HB.out));(case side2=>exact HC0.out);rintro e w10 ⟨rfl,hb⟩;refine ⟨_,rfl,?_⟩;have n0_:=bst HB hb;clear HB;have HB:=n0_;clear n0_;(try clear hb);(try clear hb2);(try clear hk);(try clear hi))|((with_reducible refine gate_callee (f:=9) rfl ?_);refine goesL_ (some 35) rfl rfl Try.func9 (by kernel_rfl) rfl #[.slice A0 l0.length c0,.string (⟨#[]⟩:ByteArray),.int .i64 5000] rfl (by (try simp only [List.map_toArray,List.map_cons,List.map_nil]);first|done|rfl|(simp only [List.length_drop,List.length_take];rfl)) ?_;(with_reducible refine (htree_After.calls _ _ l0 (⟨#[]⟩:ByteArray) 5000 t227 t228 _ ?side1 ?side2 A7.out).mono ?_);(case side1=>exact cc (Kd.C_below HR0.out HB.out));(case side2=>exact HC0.out);rintro e w11 ⟨v229,rfl,ho0,hb⟩;refine ⟨_,rfl,?_⟩;have n0_:=am (Kd.R_lower ho0 (bz HB));have n1_:=bst HB hb;clear HB;have HO230:=n0_;have HB:=n1_;clear n0_ n1_;(try clear hb);(try clear hb2);(try clear hk);(try clear hi);(try clear ho0)))
    go_loopg [9,10] k (fun kq v9 v10 w'=>∃ (x9_1:List (S30)) (x10_1:ByteArray),v10=.string x10_1∧Aside0 (l_12_HtreeAfter.l0 kq l0 a1 t227 x9_1 x10_1=some r)∧Aside0 (kq≤k)∧Aside0 (Kd.R k30 30 w' w.heap.size (fun k_=>some k_≠(v9:Value).ownBlock) v229 t227)∧Aside0 (Kd.R k30 30 w' w.heap.size (fun k_=>some k_≠(v229:Value).ownBlock) v9 x9_1)∧Aside0 (Below w.heap.size w w'))
    case atStart=>exact ⟨(([]:List (S30))),((⟨#[]⟩:ByteArray)),(by first|rfl|(simp;done)|(simp [*];done)),H',⟨Nat.le_refl _⟩,⟨by (with_reducible repeat (first|apply Kd.R_alloc|apply Kd.R_drewN|apply Kd.R_drew));exact Kd.R_mono HO230.out (fun _ hk=>(by simp [Value.ownBlock]))⟩,⟨by first|exact Kd.R_nil _ _ _ _ _|exact Kd.N_nil _ _ _ _ _|exact Kd.V_nil _ _ _ _ _|exact Kd.Q_nil _ _ _ _ _|exact Kd.S_nil _ _ _ _ _⟩,⟨bb HB⟩⟩
    case round =>
     clear H'
     try clear p2
     try clear c3
     try clear c4
     try clear c6
     try clear c6b0
     try clear c6b1
     try clear c7
     try clear c8
     try clear c8b0
     try clear c8b1
     try clear c9
     obtain ⟨x9_1,x10_1,rfl,HA,HK1,HO_7,HO_9,HB⟩:=hrel
     cases gk with
     | zero=>exact absurd HA.out (by intro h_;cases h_)
     | succ k1 =>
      have H:=HA.out
      clear HA
      simp only [l_12_HtreeAfter.l0] at H
      replace H:=Option.bind_eq_some_iff.mp H
      obtain ⟨⟨t231,t232⟩,A120,H⟩:=H
      replace H:(if t232=0 then (l_12_HtreeAfter.j1 k1 l0 a1 t227 x9_1 t231 (decide ((t231.length:Int) > (wrap64 (1+(Go.bits .and .i64 a1 7)))))) else (l_12_HtreeAfter.j1 k1 l0 a1 t227 x9_1 t231 true))=some r:=H
      have A12:=am A120
      clear A120
      have HC13:=am H
      clear H
      go_upto_region 12 with (first|((with_reducible refine gate_callee (f:=9) rfl ?_);refine goesL_ (some 46) rfl rfl Try.func9 (by kernel_rfl) rfl #[.slice A0 l0.length c0,.string x10_1,.int .i64 (wrap64 (1+(Go.bits .and .i64 a1 7)))] rfl (by (try simp only [List.map_toArray,List.map_cons,List.map_nil]);first|done|rfl|(simp only [List.length_drop,List.length_take];rfl)) ?_;(with_reducible refine (htree_After.calls _ _ l0 x10_1 (wrap64 (1+(Go.bits .and .i64 a1 7))) t231 t232 _ ?side1 ?side2 A12.out).mono ?_);(case side1=>exact cc (Kd.C_below HR0.out HB.out));(case side2=>exact HC0.out);rintro e w14 ⟨v233,rfl,ho0,hb⟩;refine ⟨_,rfl,?_⟩;have n0_:=am (Kd.R_elder' (rR HO_7) (Kd.R_base ho0) hb);have n1_:=am (Kd.R_elder' (rR HO_9) (Kd.R_base ho0) hb);have n2_:=am (Kd.R_lower (Kd.R_new' (Kd.R_new' ho0 (Kd.R_lt (rR HO_7))) (Kd.R_lt (rR HO_9))) (bz HB));have n3_:=bst HB hb;clear HO_7;clear HO_9;clear HB;have HO_7:=n0_;have HO_9:=n1_;have HO234:=n2_;have HB:=n3_;clear n0_ n1_ n2_ n3_;(try clear hb);(try clear hb2);(try clear hk);(try clear hi);(try clear ho0)))
      (try simp only [Act.put,List.setIfInBounds_toArray,List.set_cons_zero,List.set_cons_succ])
      go_cut [58] (fun v58 wc=>∃ (kq:Nat) (x58_12:Bool),v58=.bool x58_12∧Aside0 (l_12_HtreeAfter.j1 kq l0 a1 t227 x9_1 t231 x58_12=some r)∧Aside0 (kq≤k1)∧Aside0 (Kd.R k30 30 wc w.heap.size (fun k_=>some k_≠(u9:Value).ownBlock∧some k_≠(v233:Value).ownBlock) v229 t227)∧Aside0 (Kd.R k30 30 wc w.heap.size (fun k_=>some k_≠(v229:Value).ownBlock∧some k_≠(v233:Value).ownBlock) u9 x9_1)∧Aside0 (Kd.R k30 30 wc w.heap.size (fun k_=>some k_≠(v229:Value).ownBlock∧some k_≠(u9:Value).ownBlock) v233 t231)∧Aside0 (Below w.heap.size w wc))
      case first =>
       have H:=HC13.out
       clear HC13
       by_cases c15:t232=0
       ·rw [if_pos c15] at H
        have c15b0:(t232==0)=true:=beq_iff_eq.mpr c15
        have c15b1:(t232 != 0)=false:=bne_eq_false_iff_eq.mpr c15
        clear c15
        (first|rw [c15b0]|(simp only [i64_w,i32_w];rw [c15b0])|skip)
        have H':=am H
        clear H
        obtain ⟨Ao16,co16,eo16⟩:=Kd.R_slice HO234.out
        subst eo16
        go_wp2
        go_meet
        case rel=>exact ⟨_,(decide ((t231.length:Int) > (wrap64 (1+(Go.bits .and .i64 a1 7))))),(by first|rfl|(simp;done)|(simp [*];done)),H',⟨by have:=HK1.out;first|omega|exact Nat.le_refl _⟩,⟨by (with_reducible repeat (first|apply Kd.R_alloc|apply Kd.R_drewN|apply Kd.R_drew));exact HO_7.out⟩,⟨by (with_reducible repeat (first|apply Kd.R_alloc|apply Kd.R_drewN|apply Kd.R_drew));exact HO_9.out⟩,⟨by (with_reducible repeat (first|apply Kd.R_alloc|apply Kd.R_drewN|apply Kd.R_drew));exact Kd.R_mono HO234.out (fun _ hk=>⟨hk.1.2,hk.2⟩)⟩,⟨bb HB⟩⟩
       ·rw [if_neg c15] at H
        have c15b0:(t232==0)=false:=beq_eq_false_iff_ne.mpr c15
        have c15b1:(t232 != 0)=true:=bne_iff_ne.mpr c15
        (first|rw [c15b0]|(simp only [i64_w,i32_w];rw [c15b0])|skip)
        have H':=am H
        clear H;go_wp2
        go_meet
        case rel=>exact ⟨_,(true),(by first|rfl|(simp;done)|(simp [*];done)),H',⟨by have:=HK1.out;first|omega|exact Nat.le_refl _⟩,⟨by (with_reducible repeat (first|apply Kd.R_alloc|apply Kd.R_drewN|apply Kd.R_drew));exact HO_7.out⟩,⟨by (with_reducible repeat (first|apply Kd.R_alloc|apply Kd.R_drewN|apply Kd.R_drew));exact HO_9.out⟩,⟨by (with_reducible repeat (first|apply Kd.R_alloc|apply Kd.R_drewN|apply Kd.R_drew));exact Kd.R_mono HO234.out (fun _ hk=>⟨hk.1.2,hk.2⟩)⟩,⟨bb HB⟩⟩
      case rest =>
       clear HC13
       try clear c1
       try clear p2
       try clear c3
       try clear c4
       try clear c6
       try clear c6b0
       try clear c6b1
       try clear p6
       try clear c7
       try clear c8
       try clear c8b0
       try clear c8b1
       try clear c9
       try clear c15
       try clear c15b0
       try clear c15b1
       try clear p2
       obtain ⟨kq,x58_12,rfl,HA,HJ12,HO_7,HO_9,HO_11,HB⟩:=hcut
       cases kq with
       | zero=>exact absurd HA.out (by intro h_;cases h_)
       | succ kj12 =>
        have H:=HA.out
        clear HA
        simp only [l_12_HtreeAfter.j1] at H
        by_cases c17:x58_12=true
        ·subst c17
         have H1:(some false)=some r:=by rw [if_pos rfl] at H;exact H
         clear H;have H:=H1;clear H1;obtain rfl:=Option.some.inj H;go_wp2;go_ret
         exact ⟨by first|rfl|(simp [errW_none,errW_some]<;>rfl)|(simp [*,errW_none,errW_some]<;>rfl),bb HB⟩
        ·replace c17:=Bool.eq_false_iff.mpr c17
         subst c17
         have H1:(if (t231.length:Int)=0 then (l_12_HtreeAfter.l1 kj12 l0 t227 x9_1 1) else (if x9_1.length+t231.length < 5864062014805 then ((some (x9_1++t231:List (S30))).bind fun y235=>(if 0≤(wrap64 ((t231.length:Int) - 1)) then (if (wrap64 ((t231.length:Int) - 1)) < (t231.length:Int) then (if (y235.length:Int) > (t227.length:Int) then (some false) else (l_12_HtreeAfter.l0 kj12 l0 a1 t227 y235 ((rd_T30 t231 (wrap64 ((t231.length:Int) - 1))).f0))) else (none)) else (none))) else (none)))=some r:=by rw [if_neg (show ¬ (false=true) by decide)] at H;exact H
         clear H;have H:=H1;clear H1
         by_cases c18:(t231.length:Int)=0
         ·rw [if_pos c18] at H
          have c18b0:((t231.length:Int)==0)=true:=beq_iff_eq.mpr c18
          have c18b1:((t231.length:Int) != 0)=false:=bne_eq_false_iff_eq.mpr c18
          clear c18
          have H':=am H
          clear H
          obtain ⟨Ao19,co19,eo19⟩:=Kd.R_slice HO_11.out
          subst eo19
          go_wp2
          go_loopg [13] kj12 (fun kq v13 w'=>∃ (x13_3:Int),v13=.int .i64 x13_3∧Aside0 (l_12_HtreeAfter.l1 kq l0 t227 x9_1 x13_3=some r)∧Aside0 (kq≤kj12)∧Aside0 (Kd.R k30 30 w' w.heap.size (fun k_=>some k_≠(u9:Value).ownBlock) v229 t227)∧Aside0 (Kd.R k30 30 w' w.heap.size (fun k_=>some k_≠(v229:Value).ownBlock) u9 x9_1)∧Aside0 (Below w.heap.size w w'))
          case atStart=>exact ⟨(1),(by first|rfl|(simp;done)|(simp [*];done)),H',⟨Nat.le_refl _⟩,⟨by (with_reducible repeat (first|apply Kd.R_alloc|apply Kd.R_drewN|apply Kd.R_drew));exact Kd.R_mono HO_7.out (fun _ hk=>hk.1)⟩,⟨by (with_reducible repeat (first|apply Kd.R_alloc|apply Kd.R_drewN|apply Kd.R_drew));exact Kd.R_mono HO_9.out (fun _ hk=>hk.1)⟩,⟨bb HB⟩⟩
          case round =>
           clear H'
           try clear c1
           try clear p2
           try clear c3
           try clear c4
           try clear c6
           try clear c6b0
           try clear c6b1
           try clear p6
           try clear c7
           try clear c8
           try clear c8b0
           try clear c8b1
           try clear c9
           try clear c15
           try clear c15b0
           try clear c15b1
           try clear c17
           try clear c18
           try clear c18b0
           try clear c18b1
           try clear p2
           try clear p6
           obtain ⟨x13_3,rfl,HA,HK3,HO_7,HO_9,HB⟩:=hrel
           cases gk with
           | zero=>exact absurd HA.out (by intro h_;cases h_)
           | succ k3 =>
            have H:=HA.out
            clear HA
            simp only [l_12_HtreeAfter.l1] at H
            by_cases c20:x13_3 < (x9_1.length:Int)
            ·rw [if_pos c20] at H
             have c20b0:decide (x13_3 < (x9_1.length:Int))=true:=decide_eq_true c20
             clear c20
             obtain ⟨ji21,hji21⟩:∃ j_:Int,(wrap64 (x13_3 - 1))=j_:=⟨_,rfl⟩
             replace H:(if 0≤(ji21) then (if (ji21) < (x9_1.length:Int) then (if 0≤x13_3 then ((r_12_Below.f k3 ((rd_T30 x9_1 (ji21)).f0) ((rd_T30 x9_1 x13_3).f0)).bind fun t241=>(if t241=true then (l_12_HtreeAfter.l1 k3 l0 t227 x9_1 (wrap64 (x13_3+1))) else (some false))) else (none)) else (none)) else (none))=some r:=by first|(rw [hji21] at H;exact H)|(simp only [hji21] at H ⊢;exact H)
             have hji21w:(IntKind.i64.wrap (x13_3 - 1))=ji21:=(i64_w _).trans hji21
             (try rw [hji21] at c6b0)
             (try rw [hji21] at c6b1)
             (try rw [hji21] at c8b0)
             (try rw [hji21] at c8b1)
             (try rw [hji21] at c18b0)
             (try rw [hji21] at c18b1)
             (try rw [hji21] at c20b0)
             by_cases c22:0≤(ji21)
             ·rw [if_pos c22] at H
              have c22b0:decide (0≤(ji21))=true:=decide_eq_true c22
              clear c22
              by_cases c23:(ji21) < (x9_1.length:Int)
              ·rw [if_pos c23] at H
               have c23b0:decide ((ji21) < (x9_1.length:Int))=true:=decide_eq_true c23
               clear c23
               by_cases c24:0≤x13_3
               ·rw [if_pos c24] at H
                have c24b0:decide (0≤x13_3)=true:=decide_eq_true c24
                clear c24
                replace H:=Option.bind_eq_some_iff.mp H
                obtain ⟨t241,A250,H⟩:=H
                replace H:(if t241=true then (l_12_HtreeAfter.l1 k3 l0 t227 x9_1 (wrap64 (x13_3+1))) else (some false))=some r:=H
                have A25:=am A250
                clear A250
                by_cases c26:t241=true
                ·subst c26
                 have H1:(l_12_HtreeAfter.l1 k3 l0 t227 x9_1 (wrap64 (x13_3+1)))=some r:=by rw [if_pos rfl] at H;exact H
                 clear H;have H:=H1;clear H1
                 have H':=am H
                 clear H
                 obtain ⟨Ao27,co27,eo27⟩:=Kd.R_slice HO_9.out
                 subst eo27
                 try go_wp2
                 have n0_:=am (Kd.R_drew HO_7.out)
                 have n1_:=am (Kd.R_drew HO_9.out)
                 have n2_:=am (below_drew1 HB.out)
                 clear HO_7;clear HO_9;clear HB;have HO_7:=n0_;have HO_9:=n1_;have HB:=n2_;clear n0_ n1_ n2_
                 have p239:0≤((ji21):Int):=od
                 have q239:(ji21) < (x9_1.length:Int):=od
                 obtain ⟨ad239,e239,hx239_0,hx239_1⟩:=at_T30 (Kd.R_reads' HO_9.out).2.2 (ji21) p239 q239
                 cases e239
                 replace p239:=eq_true p239;replace q239:=eq_true q239
                 have p240:0≤(x13_3:Int):=od
                 have q240:x13_3 < (x9_1.length:Int):=od
                 obtain ⟨ad240,e240,hx240_0,hx240_1⟩:=at_T30 (Kd.R_reads' HO_9.out).2.2 x13_3 p240 q240
                 obtain rfl:ad239=ad240:=(by injection e240)
                 replace p240:=eq_true p240;replace q240:=eq_true q240
                 refine start_ (n:=13) (S:=fun w'=>w'.cell? (ad239.add (((ji21)).toNat*2))=some (.string ((rd_T30 x9_1 (ji21)).f0))∧w'.cell? ⟨(ad239.add (((ji21)).toNat*2)).block,(ad239.add (((ji21)).toNat*2)).off+1,none⟩=some (.int .i64 ((rd_T30 x9_1 (ji21)).f1))∧w'.cell? (ad239.add ((x13_3).toNat*2))=some (.string ((rd_T30 x9_1 x13_3).f0))∧w'.cell? ⟨(ad239.add ((x13_3).toNat*2)).block,(ad239.add ((x13_3).toNat*2)).off+1,none⟩=some (.int .i64 ((rd_T30 x9_1 x13_3).f1))) (ds:=[]) _ (by kernel_rfl) rfl rfl ⟨hx239_0,hx239_1,hx240_0,hx240_1⟩ (fun hHeld=>?_);refine with_tabW l_12_HtreeAfter.tab22 l_12_HtreeAfter.bits22 (fun HT_ HW_=>?_)
                 generalize wr.drew=w28 at HO_7 HO_9 HB hx239_0 hx239_1 hx240_0 hx240_1 hHeld ⊢
                 refine pS 0 83 HT_ ?_;refine pS 1 84 HT_ ?_;refine pS 2 85 HT_ ?_;refine pS 3 86 HT_ ?_;refine pS 4 87 HT_ ?_;refine pS 6 89 HT_ ?_;refine pS 7 90 HT_ ?_;refine pS 8 91 HT_ ?_;refine pS 9 92 HT_ ?_;refine tS 5 88 HT_ HW_ hHeld ?_ (hy:=by rintro w' ⟨s0,s1,s2,s3⟩;go_simp;with_reducible rfl);refine tS 10 93 HT_ HW_ hHeld ?_ (hy:=by rintro w' ⟨s0,s1,s2,s3⟩;go_simp;with_reducible rfl)
                 refine oS 11 (some 94) HT_ (fun K hK=>?_)
                 refine goes_ Try.func10 (by kernel_rfl) rfl #[.string ((rd_T30 x9_1 (ji21)).f0),.string ((rd_T30 x9_1 x13_3).f0)] (by rfl) rfl rfl (by (try simp only [List.map_toArray,List.map_cons,List.map_nil]);first|done|(simp only [hji21];rfl)|rfl|(simp only [List.length_drop,List.length_take];rfl)) ?_
                 with_reducible refine (r_12_Below.calls k3 ((rd_T30 x9_1 (ji21)).f0) ((rd_T30 x9_1 x13_3).f0) true _ A25.out).mono ?_
                 rintro e w29 ⟨rfl,hb⟩
                 have HS0_:=(hb.cell (World.block_lt_of_cell? _ _ (hHeld.1))).trans (hHeld.1)
                 have HS1_:=(hb.cell (World.block_lt_of_cell? _ _ (hHeld.2.1))).trans (hHeld.2.1)
                 have HS2_:=(hb.cell (World.block_lt_of_cell? _ _ (hHeld.2.2.1))).trans (hHeld.2.2.1)
                 have HS3_:=(hb.cell (World.block_lt_of_cell? _ _ (hHeld.2.2.2))).trans (hHeld.2.2.2)
                 refine ⟨_,rfl,?_⟩
                 have n0_:=am (Kd.R_below (rR HO_7) hb)
                 have n1_:=am (Kd.R_below (rR HO_9) hb)
                 have n2_:=bst HB hb
                 clear HO_7;clear HO_9;clear HB;have HO_7:=n0_;have HO_9:=n1_;have HB:=n2_;clear n0_ n1_ n2_
                 (try clear hb)
                 (try clear hb2)
                 (try clear hk)
                 (try clear hi)
                 refine hK.out _ _ ⟨HS0_,HS1_,HS2_,HS3_⟩ (fun hHeld=>?_)
                 clear hK K;refine norm_ (a':=?_) ?_ ?_;rotate_left
                 ·show Act.put _ (some 94) _=_
                  simp only [Act.put,sIb,sC0,sCs,i64_w,i32_w];rfl
                 refine pS 12 95 HT_ ?_
                 refine done_ (done_of HT_.out (by kernel_rfl)) ?_
                 try go_wp2
                 go_roundg k3
                 case measure=>have:=HK1.out;have:=HJ12.out;have:=HK3.out;omega
                 case rel=>exact ⟨(wrap64 (x13_3+1)),(by first|rfl|(simp;done)|(simp [*];done)),H',⟨by have:=HK1.out;have:=HJ12.out;have:=HK3.out;omega⟩,⟨by (with_reducible repeat (first|apply Kd.R_alloc|apply Kd.R_drewN|apply Kd.R_drew));exact HO_7.out⟩,⟨by (with_reducible repeat (first|apply Kd.R_alloc|apply Kd.R_drewN|apply Kd.R_drew));exact HO_9.out⟩,⟨bb HB⟩⟩
                ·replace c26:=Bool.eq_false_iff.mpr c26
                 subst c26
                 have H1:(some false)=some r:=by rw [if_neg (show ¬ (false=true) by decide)] at H;exact H
                 clear H;have H:=H1;clear H1;obtain rfl:=Option.some.inj H
                 obtain ⟨Ao30,co30,eo30⟩:=Kd.R_slice HO_9.out
                 subst eo30
                 try go_wp2
                 have n0_:=am (Kd.R_drew HO_7.out)
                 have n1_:=am (Kd.R_drew HO_9.out)
                 have n2_:=am (below_drew1 HB.out)
                 clear HO_7;clear HO_9;clear HB;have HO_7:=n0_;have HO_9:=n1_;have HB:=n2_;clear n0_ n1_ n2_
                 have p239:0≤((ji21):Int):=od
                 have q239:(ji21) < (x9_1.length:Int):=od
                 obtain ⟨ad239,e239,hx239_0,hx239_1⟩:=at_T30 (Kd.R_reads' HO_9.out).2.2 (ji21) p239 q239
                 cases e239
                 replace p239:=eq_true p239;replace q239:=eq_true q239
                 have p240:0≤(x13_3:Int):=od
                 have q240:x13_3 < (x9_1.length:Int):=od
                 obtain ⟨ad240,e240,hx240_0,hx240_1⟩:=at_T30 (Kd.R_reads' HO_9.out).2.2 x13_3 p240 q240
                 obtain rfl:ad239=ad240:=(by injection e240)
                 replace p240:=eq_true p240;replace q240:=eq_true q240
                 refine start_ (n:=13) (S:=fun w'=>w'.cell? (ad239.add (((ji21)).toNat*2))=some (.string ((rd_T30 x9_1 (ji21)).f0))∧w'.cell? ⟨(ad239.add (((ji21)).toNat*2)).block,(ad239.add (((ji21)).toNat*2)).off+1,none⟩=some (.int .i64 ((rd_T30 x9_1 (ji21)).f1))∧w'.cell? (ad239.add ((x13_3).toNat*2))=some (.string ((rd_T30 x9_1 x13_3).f0))∧w'.cell? ⟨(ad239.add ((x13_3).toNat*2)).block,(ad239.add ((x13_3).toNat*2)).off+1,none⟩=some (.int .i64 ((rd_T30 x9_1 x13_3).f1))) (ds:=[]) _ (by kernel_rfl) rfl rfl ⟨hx239_0,hx239_1,hx240_0,hx240_1⟩ (fun hHeld=>?_);refine with_tabW l_12_HtreeAfter.tab22 l_12_HtreeAfter.bits22 (fun HT_ HW_=>?_)
                 generalize wr.drew=w31 at HO_7 HO_9 HB hx239_0 hx239_1 hx240_0 hx240_1 hHeld ⊢
                 refine pS 0 83 HT_ ?_;refine pS 1 84 HT_ ?_;refine pS 2 85 HT_ ?_;refine pS 3 86 HT_ ?_;refine pS 4 87 HT_ ?_;refine pS 6 89 HT_ ?_;refine pS 7 90 HT_ ?_;refine pS 8 91 HT_ ?_;refine pS 9 92 HT_ ?_;refine tS 5 88 HT_ HW_ hHeld ?_ (hy:=by rintro w' ⟨s0,s1,s2,s3⟩;go_simp;with_reducible rfl);refine tS 10 93 HT_ HW_ hHeld ?_ (hy:=by rintro w' ⟨s0,s1,s2,s3⟩;go_simp;with_reducible rfl)
                 refine oS 11 (some 94) HT_ (fun K hK=>?_)
                 refine goes_ Try.func10 (by kernel_rfl) rfl #[.string ((rd_T30 x9_1 (ji21)).f0),.string ((rd_T30 x9_1 x13_3).f0)] (by rfl) rfl rfl (by (try simp only [List.map_toArray,List.map_cons,List.map_nil]);first|done|(simp only [hji21];rfl)|rfl|(simp only [List.length_drop,List.length_take];rfl)) ?_
                 with_reducible refine (r_12_Below.calls k3 ((rd_T30 x9_1 (ji21)).f0) ((rd_T30 x9_1 x13_3).f0) false _ A25.out).mono ?_
                 rintro e w32 ⟨rfl,hb⟩
                 have HS0_:=(hb.cell (World.block_lt_of_cell? _ _ (hHeld.1))).trans (hHeld.1)
                 have HS1_:=(hb.cell (World.block_lt_of_cell? _ _ (hHeld.2.1))).trans (hHeld.2.1)
                 have HS2_:=(hb.cell (World.block_lt_of_cell? _ _ (hHeld.2.2.1))).trans (hHeld.2.2.1)
                 have HS3_:=(hb.cell (World.block_lt_of_cell? _ _ (hHeld.2.2.2))).trans (hHeld.2.2.2)
                 refine ⟨_,rfl,?_⟩
                 have n0_:=am (Kd.R_below (rR HO_7) hb)
                 have n1_:=am (Kd.R_below (rR HO_9) hb)
                 have n2_:=bst HB hb
                 clear HO_7;clear HO_9;clear HB;have HO_7:=n0_;have HO_9:=n1_;have HB:=n2_;clear n0_ n1_ n2_
                 (try clear hb)
                 (try clear hb2)
                 (try clear hk)
                 (try clear hi)
                 refine hK.out _ _ ⟨HS0_,HS1_,HS2_,HS3_⟩ (fun hHeld=>?_)
                 clear hK K;refine norm_ (a':=?_) ?_ ?_;rotate_left
                 ·show Act.put _ (some 94) _=_
                  simp only [Act.put,sIb,sC0,sCs,i64_w,i32_w];rfl
                 refine pS 12 95 HT_ ?_
                 refine done_ (done_of HT_.out (by kernel_rfl)) ?_
                 try go_wp2
                 go_ret
                 exact ⟨by first|rfl|(simp [errW_none,errW_some]<;>rfl)|(simp only [← hji21];first|rfl|(simp [errW_none,errW_some]<;>rfl))|(simp [*,errW_none,errW_some]<;>rfl),bb HB⟩
               ·rw [if_neg c24] at H
                exact absurd H (by simp)
              ·rw [if_neg c23] at H
               exact absurd H (by simp)
             ·rw [if_neg c22] at H
              exact absurd H (by simp)
            ·rw [if_neg c20] at H
             have c20b0:decide (x13_3 < (x9_1.length:Int))=false:=decide_eq_false c20
             clear c20
             replace H:=Option.bind_eq_some_iff.mp H
             obtain ⟨⟨t242,t243⟩,A330,H⟩:=H
             replace H:(if t243=0 then (if (t242.length:Int)=0 then ((r_11_Same.f k3 x9_1 t227).bind fun t246=>(some t246)) else (some false)) else (some false))=some r:=H
             have A33:=am A330
             clear A330
             by_cases c34:t243=0
             ·rw [if_pos c34] at H
              have c34b0:(t243==0)=true:=beq_iff_eq.mpr c34
              have c34b1:(t243 != 0)=false:=bne_eq_false_iff_eq.mpr c34
              clear c34
              by_cases c35:(t242.length:Int)=0
              ·rw [if_pos c35] at H
               have c35b0:((t242.length:Int)==0)=true:=beq_iff_eq.mpr c35
               have c35b1:((t242.length:Int) != 0)=false:=bne_eq_false_iff_eq.mpr c35
               clear c35
               replace H:=Option.bind_eq_some_iff.mp H
               obtain ⟨t246,A360,H⟩:=H
               replace H:(some t246)=some r:=H
               have A36:=am A360
               clear A360;obtain rfl:=Option.some.inj H
               obtain ⟨Ao37,co37,eo37⟩:=Kd.R_slice HO_9.out
               subst eo37
               go_wp2_with (first|((with_reducible refine gate_callee (f:=9) rfl ?_);refine goesL_ (some 98) rfl rfl Try.func9 (by kernel_rfl) rfl #[.slice A0 l0.length c0,.string (⟨#[]⟩:ByteArray),.int .i64 0] rfl (by (try simp only [List.map_toArray,List.map_cons,List.map_nil]);first|done|rfl|(simp only [List.length_drop,List.length_take];rfl)) ?_;(with_reducible refine (htree_After.calls _ _ l0 (⟨#[]⟩:ByteArray) 0 t242 t243 _ ?side1 ?side2 A33.out).mono ?_);(case side1=>exact cc (Kd.C_below HR0.out HB.out));(case side2=>exact HC0.out);rintro e w38 ⟨v244,rfl,ho0,hb⟩;refine ⟨_,rfl,?_⟩;have n0_:=am (Kd.R_elder' (rR HO_7) (Kd.R_base ho0) hb);have n1_:=am (Kd.R_elder' (rR HO_9) (Kd.R_base ho0) hb);have n2_:=am (Kd.R_lower (Kd.R_new' (Kd.R_new' ho0 (Kd.R_lt (rR HO_7))) (Kd.R_lt (rR HO_9))) (bz HB));have n3_:=bst HB hb;clear HO_7;clear HO_9;clear HB;have HO_7:=n0_;have HO_9:=n1_;have HO245:=n2_;have HB:=n3_;clear n0_ n1_ n2_ n3_;(try clear hb);(try clear hb2);(try clear hk);(try clear hi);(try clear ho0);obtain ⟨Ao39,co39,eo39⟩:=Kd.R_slice HO245.out;subst eo39;obtain ⟨Ao40,co40,eo40⟩:=Kd.R_slice HO_7.out;subst eo40)|(go_at_call 11;(with_reducible refine (r_11_Same.calls k3 _ _ x9_1 _ _ t227 t246 _ ?side1 ?side2 ?side3 ?side4 A36.out).mono ?_);(case side1=>exact cc (Kd.R_reads' HO_9.out).2.2);(case side2=>exact (Kd.R_reads' HO_9.out).2.1);(case side3=>exact cc (Kd.R_reads' HO_7.out).2.2);(case side4=>exact (Kd.R_reads' HO_7.out).2.1);rintro e w' ⟨rfl,⟨nd,rfl⟩⟩))
               go_ret
               exact ⟨by first|rfl|(simp [errW_none,errW_some]<;>rfl)|(simp [*,errW_none,errW_some]<;>rfl),bb HB⟩
              ·rw [if_neg c35] at H
               have c35b0:((t242.length:Int)==0)=false:=beq_eq_false_iff_ne.mpr c35
               have c35b1:((t242.length:Int) != 0)=true:=bne_iff_ne.mpr c35
               have c35b2:¬ (t242=[]):=fun h_=>c35 (by rw [h_];rfl)
               obtain rfl:=Option.some.inj H
               obtain ⟨Ao41,co41,eo41⟩:=Kd.R_slice HO_9.out
               subst eo41
               go_wp2_with (first|((with_reducible refine gate_callee (f:=9) rfl ?_);refine goesL_ (some 98) rfl rfl Try.func9 (by kernel_rfl) rfl #[.slice A0 l0.length c0,.string (⟨#[]⟩:ByteArray),.int .i64 0] rfl (by (try simp only [List.map_toArray,List.map_cons,List.map_nil]);first|done|rfl|(simp only [List.length_drop,List.length_take];rfl)) ?_;(with_reducible refine (htree_After.calls _ _ l0 (⟨#[]⟩:ByteArray) 0 t242 t243 _ ?side1 ?side2 A33.out).mono ?_);(case side1=>exact cc (Kd.C_below HR0.out HB.out));(case side2=>exact HC0.out);rintro e w42 ⟨v244,rfl,ho0,hb⟩;refine ⟨_,rfl,?_⟩;have n0_:=am (Kd.R_elder' (rR HO_7) (Kd.R_base ho0) hb);have n1_:=am (Kd.R_elder' (rR HO_9) (Kd.R_base ho0) hb);have n2_:=am (Kd.R_lower (Kd.R_new' (Kd.R_new' ho0 (Kd.R_lt (rR HO_7))) (Kd.R_lt (rR HO_9))) (bz HB));have n3_:=bst HB hb;clear HO_7;clear HO_9;clear HB;have HO_7:=n0_;have HO_9:=n1_;have HO245:=n2_;have HB:=n3_;clear n0_ n1_ n2_ n3_;(try clear hb);(try clear hb2);(try clear hk);(try clear hi);(try clear ho0);obtain ⟨Ao43,co43,eo43⟩:=Kd.R_slice HO245.out;subst eo43))
               go_ret
               exact ⟨by first|rfl|(simp [errW_none,errW_some]<;>rfl)|(simp [*,errW_none,errW_some]<;>rfl),bb HB⟩
             ·rw [if_neg c34] at H
              have c34b0:(t243==0)=false:=beq_eq_false_iff_ne.mpr c34
              have c34b1:(t243 != 0)=true:=bne_iff_ne.mpr c34
              obtain rfl:=Option.some.inj H
              obtain ⟨Ao44,co44,eo44⟩:=Kd.R_slice HO_9.out
              subst eo44
              go_wp2_with (first|((with_reducible refine gate_callee (f:=9) rfl ?_);refine goesL_ (some 98) rfl rfl Try.func9 (by kernel_rfl) rfl #[.slice A0 l0.length c0,.string (⟨#[]⟩:ByteArray),.int .i64 0] rfl (by (try simp only [List.map_toArray,List.map_cons,List.map_nil]);first|done|rfl|(simp only [List.length_drop,List.length_take];rfl)) ?_;(with_reducible refine (htree_After.calls _ _ l0 (⟨#[]⟩:ByteArray) 0 t242 t243 _ ?side1 ?side2 A33.out).mono ?_);(case side1=>exact cc (Kd.C_below HR0.out HB.out));(case side2=>exact HC0.out);rintro e w45 ⟨v244,rfl,ho0,hb⟩;refine ⟨_,rfl,?_⟩;have n0_:=am (Kd.R_elder' (rR HO_7) (Kd.R_base ho0) hb);have n1_:=am (Kd.R_elder' (rR HO_9) (Kd.R_base ho0) hb);have n2_:=am (Kd.R_lower (Kd.R_new' (Kd.R_new' ho0 (Kd.R_lt (rR HO_7))) (Kd.R_lt (rR HO_9))) (bz HB));have n3_:=bst HB hb;clear HO_7;clear HO_9;clear HB;have HO_7:=n0_;have HO_9:=n1_;have HO245:=n2_;have HB:=n3_;clear n0_ n1_ n2_ n3_;(try clear hb);(try clear hb2);(try clear hk);(try clear hi);(try clear ho0)))
              go_ret
              exact ⟨by first|rfl|(simp [errW_none,errW_some]<;>rfl)|(simp [*,errW_none,errW_some]<;>rfl),bb HB⟩
         ·rw [if_neg c18] at H
          have c18b0:((t231.length:Int)==0)=false:=beq_eq_false_iff_ne.mpr c18
          have c18b1:((t231.length:Int) != 0)=true:=bne_iff_ne.mpr c18
          have c18b2:¬ (t231=[]):=fun h_=>c18 (by rw [h_];rfl)
          by_cases c46:x9_1.length+t231.length < 5864062014805
          ·rw [if_pos c46] at H
           have LMc46:=am c46
           clear c46
           obtain ⟨y235,hy235⟩:∃ y_:List (S30),y_=(x9_1++t231):=⟨_,rfl⟩
           replace H:(if 0≤(wrap64 ((t231.length:Int) - 1)) then (if (wrap64 ((t231.length:Int) - 1)) < (t231.length:Int) then (if (y235.length:Int) > (t227.length:Int) then (some false) else (l_12_HtreeAfter.l0 kj12 l0 a1 t227 y235 ((rd_T30 t231 (wrap64 ((t231.length:Int) - 1))).f0))) else (none)) else (none))=some r:=by first|(rw [hy235];with_reducible exact H)|(have H2_:=(Option.bind_some _ _).symm.trans H;rw [hy235];with_reducible exact H2_)|(have H2_:=(Option.bind_some _ _).symm.trans H;with_reducible exact H2_)|with_reducible exact H|(rw [hy235];exact H)|exact H
           have Ny235:=am hy235
           clear hy235
           obtain ⟨ji47,hji47⟩:∃ j_:Int,(wrap64 ((t231.length:Int) - 1))=j_:=⟨_,rfl⟩
           replace H:(if 0≤(ji47) then (if (ji47) < (t231.length:Int) then (if (y235.length:Int) > (t227.length:Int) then (some false) else (l_12_HtreeAfter.l0 kj12 l0 a1 t227 y235 ((rd_T30 t231 (ji47)).f0))) else (none)) else (none))=some r:=by first|(rw [hji47] at H;exact H)|(simp only [hji47] at H ⊢;exact H)
           have hji47w:(IntKind.i64.wrap ((t231.length:Int) - 1))=ji47:=(i64_w _).trans hji47
           (try rw [hji47] at c6b0)
           (try rw [hji47] at c6b1)
           (try rw [hji47] at c8b0)
           (try rw [hji47] at c8b1)
           (try rw [hji47] at c18b0)
           (try rw [hji47] at c18b1)
           (try rw [hji47] at c18b2)
           by_cases c48:0≤(ji47)
           ·rw [if_pos c48] at H
            have c48b0:decide (0≤(ji47))=true:=decide_eq_true c48
            clear c48
            by_cases c49:(ji47) < (t231.length:Int)
            ·rw [if_pos c49] at H
             have c49b0:decide ((ji47) < (t231.length:Int))=true:=decide_eq_true c49
             clear c49
             by_cases c50:(y235.length:Int) > (t227.length:Int)
             ·rw [if_pos c50] at H
              have c50b0:decide ((t227.length:Int) < (y235.length:Int))=true:=decide_eq_true c50
              have c50b1:decide (t227.length < y235.length)=true:=decide_eq_true (Int.ofNat_lt.mp c50)
              clear c50;obtain rfl:=Option.some.inj H
              obtain ⟨Ao51,co51,eo51⟩:=Kd.R_slice HO_11.out
              subst eo51
              go_wp2_with (first|((with_reducible refine gate_builtin (b:=.append) (xs:=#[.tmp 62,.tmp 63]) rfl ?_);(try (refine gate_guard (by rfl) ?_;dsimp only));at_builtin;refine Kd.R_append_rows k30 (w0:=w) w.heap.size rfl (.tmp 62) (.tmp 63) 26 30 (.agg #[(.string ⟨#[]⟩),(.int .i64 0)]) 24 rfl Try.underlying26 info30 rfl (by decide) (by omega) u9 x9_1 t231 _ _ _ (fun k_=>some k_≠(v229:Value).ownBlock∧some k_≠(.slice Ao51 t231.length co51:Value).ownBlock) (fun _=>False) rfl rfl ?aO ?aR (fun _ _ h=>h) (fun _ h=>h.elim) ?aF ?aB ?aS ?aL ?_;(case aR=>exact cc (Kd.R_reads' HO_11.out).2.2);(case aB=>exact (bb HB));(case aF=>exact (fun k_ hk=>⟨Kd.fresh' (Kd.R_lt (rR HO_7)) k_ hk,Kd.fresh' (Kd.R_lt (rR HO_11)) k_ hk⟩));(case aO=>exact (rR HO_9));(case aS=>exact (bz HB));(case aL=>have:=LMc46.out;omega);intro v236 w52 ho hb hg hat;rw [← Ny235.out] at ho;have n0_:=am (Kd.R_after (ok:=(fun k_=>some k_≠(.slice Ao51 t231.length co51:Value).ownBlock)) (by (with_reducible repeat (first|apply Kd.R_alloc|apply Kd.R_drewN|apply Kd.R_drew));exact Kd.R_mono HO_7.out (fun _ hk=>⟨hk.2,hk.1⟩)) hg hat);have n1_:=am (Kd.R_after (ok:=(fun k_=>some k_≠(v229:Value).ownBlock)) (rR HO_11) hg hat);have n2_:=am (hb);have n3_:=am (ho);clear HO_7;clear HO_11;clear HB;clear HO_9;have HO_7:=n0_;have HO_11:=n1_;have HB:=n2_;have HO237:=n3_;clear n0_ n1_ n2_ n3_;clear ho hb hg hat;have p238:0≤((ji47):Int):=od;have q238:(ji47) < (t231.length:Int):=od;obtain ⟨ad238,e238,hx238_0,hx238_1⟩:=at_T30 (Kd.R_reads' HO_11.out).2.2 (ji47) p238 q238;cases e238;replace p238:=eq_true p238;replace q238:=eq_true q238;obtain ⟨Ao53,co53,eo53⟩:=Kd.R_slice HO237.out;subst eo53;obtain ⟨Ao54,co54,eo54⟩:=Kd.R_slice HO_7.out;subst eo54))
              go_ret
              exact ⟨by first|rfl|(simp [errW_none,errW_some]<;>rfl)|(simp only [← hji47];first|rfl|(simp [errW_none,errW_some]<;>rfl))|(simp [*,errW_none,errW_some]<;>rfl),bb HB⟩
             ·rw [if_neg c50] at H
              have c50b0:decide ((t227.length:Int) < (y235.length:Int))=false:=decide_eq_false c50
              have c50b1:decide (t227.length < y235.length)=false:=decide_eq_false (fun h=>c50 (Int.ofNat_lt.mpr h))
              clear c50
              have H':=am H
              clear H
              obtain ⟨Ao55,co55,eo55⟩:=Kd.R_slice HO_11.out
              subst eo55
              go_wp2_with (first|((with_reducible refine gate_builtin (b:=.append) (xs:=#[.tmp 62,.tmp 63]) rfl ?_);(try (refine gate_guard (by rfl) ?_;dsimp only));at_builtin;refine Kd.R_append_rows k30 (w0:=w) w.heap.size rfl (.tmp 62) (.tmp 63) 26 30 (.agg #[(.string ⟨#[]⟩),(.int .i64 0)]) 24 rfl Try.underlying26 info30 rfl (by decide) (by omega) u9 x9_1 t231 _ _ _ (fun k_=>some k_≠(v229:Value).ownBlock∧some k_≠(.slice Ao55 t231.length co55:Value).ownBlock) (fun _=>False) rfl rfl ?aO ?aR (fun _ _ h=>h) (fun _ h=>h.elim) ?aF ?aB ?aS ?aL ?_;(case aR=>exact cc (Kd.R_reads' HO_11.out).2.2);(case aB=>exact (bb HB));(case aF=>exact (fun k_ hk=>⟨Kd.fresh' (Kd.R_lt (rR HO_7)) k_ hk,Kd.fresh' (Kd.R_lt (rR HO_11)) k_ hk⟩));(case aO=>exact (rR HO_9));(case aS=>exact (bz HB));(case aL=>have:=LMc46.out;omega);intro v236 w56 ho hb hg hat;rw [← Ny235.out] at ho;have n0_:=am (Kd.R_after (ok:=(fun k_=>some k_≠(.slice Ao55 t231.length co55:Value).ownBlock)) (by (with_reducible repeat (first|apply Kd.R_alloc|apply Kd.R_drewN|apply Kd.R_drew));exact Kd.R_mono HO_7.out (fun _ hk=>⟨hk.2,hk.1⟩)) hg hat);have n1_:=am (Kd.R_after (ok:=(fun k_=>some k_≠(v229:Value).ownBlock)) (rR HO_11) hg hat);have n2_:=am (hb);have n3_:=am (ho);clear HO_7;clear HO_11;clear HB;clear HO_9;have HO_7:=n0_;have HO_11:=n1_;have HB:=n2_;have HO237:=n3_;clear n0_ n1_ n2_ n3_;clear ho hb hg hat;have p238:0≤((ji47):Int):=od;have q238:(ji47) < (t231.length:Int):=od;obtain ⟨ad238,e238,hx238_0,hx238_1⟩:=at_T30 (Kd.R_reads' HO_11.out).2.2 (ji47) p238 q238;cases e238;replace p238:=eq_true p238;replace q238:=eq_true q238;obtain ⟨Ao57,co57,eo57⟩:=Kd.R_slice HO237.out;subst eo57;obtain ⟨Ao58,co58,eo58⟩:=Kd.R_slice HO_7.out;subst eo58))
              go_roundg kj12
              case measure=>have:=HK1.out;have:=HJ12.out;omega
              case rel=>exact ⟨(y235),((rd_T30 t231 (ji47)).f0),(by first|rfl|(simp;done)|(simp only [← hji47]<;>(first|rfl|simp))|(simp [*];done)),H',⟨by have:=HK1.out;have:=HJ12.out;omega⟩,⟨by (with_reducible repeat (first|apply Kd.R_alloc|apply Kd.R_drewN|apply Kd.R_drew));exact Kd.R_mono HO_7.out (fun _ hk=>hk.2)⟩,⟨by (with_reducible repeat (first|apply Kd.R_alloc|apply Kd.R_drewN|apply Kd.R_drew));exact Kd.R_mono HO237.out (fun _ hk=>hk.1)⟩,⟨bb HB⟩⟩
            ·rw [if_neg c49] at H
             exact absurd H (by simp)
           ·rw [if_neg c48] at H
            exact absurd H (by simp)
          ·rw [if_neg c46] at H
           exact absurd H (by simp)
   ·rw [if_neg c8] at H
    have c8b0:(t228==0)=false:=beq_eq_false_iff_ne.mpr c8
    have c8b1:(t228 != 0)=true:=bne_iff_ne.mpr c8
    obtain rfl:=Option.some.inj H
    go_enter Try.func3,Try.ntmps3
    go_wp2_with (first|((with_reducible refine gate_callee (f:=7) rfl ?_);refine goesL_ (some 16) rfl rfl Try.func7 (by kernel_rfl) rfl #[] rfl (by (try simp only [List.map_toArray,List.map_cons,List.map_nil]);first|done|rfl|(simp only [List.length_drop,List.length_take];rfl)) ?_;(with_reducible refine (l_12_alive.calls k  true _ A3.out).mono ?_);rintro e w59 ⟨rfl,hb⟩;refine ⟨_,rfl,?_⟩;have n0_:=bst HB hb;clear HB;have HB:=n0_;clear n0_;(try clear hb);(try clear hb2);(try clear hk);(try clear hi))|((with_reducible refine gate_callee (f:=8) rfl ?_);refine goesL_ (some 19) rfl rfl Try.func8 (by kernel_rfl) rfl #[.slice A0 l0.length c0] rfl (by (try simp only [List.map_toArray,List.map_cons,List.map_nil]);first|done|rfl|(simp only [List.length_drop,List.length_take];rfl)) ?_;(with_reducible refine (htree_Check.calls _ _ l0 t222 _ ?side1 ?side2 A5.out).mono ?_);(case side1=>exact cc (Kd.C_below HR0.out HB.out));(case side2=>exact HC0.out);rintro e w60 ⟨rfl,hb⟩;refine ⟨_,rfl,?_⟩;have n0_:=bst HB hb;clear HB;have HB:=n0_;clear n0_;(try clear hb);(try clear hb2);(try clear hk);(try clear hi))|((with_reducible refine gate_callee (f:=9) rfl ?_);refine goesL_ (some 35) rfl rfl Try.func9 (by kernel_rfl) rfl #[.slice A0 l0.length c0,.string (⟨#[]⟩:ByteArray),.int .i64 5000] rfl (by (try simp only [List.map_toArray,List.map_cons,List.map_nil]);first|done|rfl|(simp only [List.length_drop,List.length_take];rfl)) ?_;(with_reducible refine (htree_After.calls _ _ l0 (⟨#[]⟩:ByteArray) 5000 t227 t228 _ ?side1 ?side2 A7.out).mono ?_);(case side1=>exact cc (Kd.C_below HR0.out HB.out));(case side2=>exact HC0.out);rintro e w61 ⟨v229,rfl,ho0,hb⟩;refine ⟨_,rfl,?_⟩;have n0_:=am (Kd.R_lower ho0 (bz HB));have n1_:=bst HB hb;clear HB;have HO230:=n0_;have HB:=n1_;clear n0_ n1_;(try clear hb);(try clear hb2);(try clear hk);(try clear hi);(try clear ho0)))
    go_ret
    exact ⟨by first|rfl|(simp [errW_none,errW_some]<;>rfl)|(simp [*,errW_none,errW_some]<;>rfl),bb HB⟩
  ·rw [if_neg c6] at H
   have c6b0:(t222==0)=false:=beq_eq_false_iff_ne.mpr c6
   have c6b1:(t222 != 0)=true:=bne_iff_ne.mpr c6
   replace H:=Option.bind_eq_some_iff.mp H
   obtain ⟨⟨t223,t224⟩,A620,H⟩:=H
   replace H:(if t224=13 then (some ((t223.length:Int)==0)) else (some false))=some r:=H
   have A62:=am A620
   clear A620
   by_cases c63:t224=13
   ·rw [if_pos c63] at H
    have c63b0:(t224==13)=true:=beq_iff_eq.mpr c63
    have c63b1:(t224 != 13)=false:=bne_eq_false_iff_eq.mpr c63
    clear c63;obtain rfl:=Option.some.inj H
    go_enter Try.func3,Try.ntmps3
    go_wp2_with (first|((with_reducible refine gate_callee (f:=7) rfl ?_);refine goesL_ (some 16) rfl rfl Try.func7 (by kernel_rfl) rfl #[] rfl (by (try simp only [List.map_toArray,List.map_cons,List.map_nil]);first|done|rfl|(simp only [List.length_drop,List.length_take];rfl)) ?_;(with_reducible refine (l_12_alive.calls k  true _ A3.out).mono ?_);rintro e w64 ⟨rfl,hb⟩;refine ⟨_,rfl,?_⟩;have n0_:=bst HB hb;clear HB;have HB:=n0_;clear n0_;(try clear hb);(try clear hb2);(try clear hk);(try clear hi))|((with_reducible refine gate_callee (f:=8) rfl ?_);refine goesL_ (some 19) rfl rfl Try.func8 (by kernel_rfl) rfl #[.slice A0 l0.length c0] rfl (by (try simp only [List.map_toArray,List.map_cons,List.map_nil]);first|done|rfl|(simp only [List.length_drop,List.length_take];rfl)) ?_;(with_reducible refine (htree_Check.calls _ _ l0 t222 _ ?side1 ?side2 A5.out).mono ?_);(case side1=>exact cc (Kd.C_below HR0.out HB.out));(case side2=>exact HC0.out);rintro e w65 ⟨rfl,hb⟩;refine ⟨_,rfl,?_⟩;have n0_:=bst HB hb;clear HB;have HB:=n0_;clear n0_;(try clear hb);(try clear hb2);(try clear hk);(try clear hi))|((with_reducible refine gate_callee (f:=9) rfl ?_);refine goesL_ (some 23) rfl rfl Try.func9 (by kernel_rfl) rfl #[.slice A0 l0.length c0,.string (⟨#[]⟩:ByteArray),.int .i64 5] rfl (by (try simp only [List.map_toArray,List.map_cons,List.map_nil]);first|done|rfl|(simp only [List.length_drop,List.length_take];rfl)) ?_;(with_reducible refine (htree_After.calls _ _ l0 (⟨#[]⟩:ByteArray) 5 t223 t224 _ ?side1 ?side2 A62.out).mono ?_);(case side1=>exact cc (Kd.C_below HR0.out HB.out));(case side2=>exact HC0.out);rintro e w66 ⟨v225,rfl,ho0,hb⟩;refine ⟨_,rfl,?_⟩;have n0_:=am (Kd.R_lower ho0 (bz HB));have n1_:=bst HB hb;clear HB;have HO226:=n0_;have HB:=n1_;clear n0_ n1_;(try clear hb);(try clear hb2);(try clear hk);(try clear hi);(try clear ho0);obtain ⟨Ao67,co67,eo67⟩:=Kd.R_slice HO226.out;subst eo67))
    go_ret
    exact ⟨by first|rfl|(simp [errW_none,errW_some]<;>rfl)|(simp [*,errW_none,errW_some]<;>rfl),bb HB⟩
   ·rw [if_neg c63] at H
    have c63b0:(t224==13)=false:=beq_eq_false_iff_ne.mpr c63
    have c63b1:(t224 != 13)=true:=bne_iff_ne.mpr c63
    obtain rfl:=Option.some.inj H
    go_enter Try.func3,Try.ntmps3
    go_wp2_with (first|((with_reducible refine gate_callee (f:=7) rfl ?_);refine goesL_ (some 16) rfl rfl Try.func7 (by kernel_rfl) rfl #[] rfl (by (try simp only [List.map_toArray,List.map_cons,List.map_nil]);first|done|rfl|(simp only [List.length_drop,List.length_take];rfl)) ?_;(with_reducible refine (l_12_alive.calls k  true _ A3.out).mono ?_);rintro e w68 ⟨rfl,hb⟩;refine ⟨_,rfl,?_⟩;have n0_:=bst HB hb;clear HB;have HB:=n0_;clear n0_;(try clear hb);(try clear hb2);(try clear hk);(try clear hi))|((with_reducible refine gate_callee (f:=8) rfl ?_);refine goesL_ (some 19) rfl rfl Try.func8 (by kernel_rfl) rfl #[.slice A0 l0.length c0] rfl (by (try simp only [List.map_toArray,List.map_cons,List.map_nil]);first|done|rfl|(simp only [List.length_drop,List.length_take];rfl)) ?_;(with_reducible refine (htree_Check.calls _ _ l0 t222 _ ?side1 ?side2 A5.out).mono ?_);(case side1=>exact cc (Kd.C_below HR0.out HB.out));(case side2=>exact HC0.out);rintro e w69 ⟨rfl,hb⟩;refine ⟨_,rfl,?_⟩;have n0_:=bst HB hb;clear HB;have HB:=n0_;clear n0_;(try clear hb);(try clear hb2);(try clear hk);(try clear hi))|((with_reducible refine gate_callee (f:=9) rfl ?_);refine goesL_ (some 23) rfl rfl Try.func9 (by kernel_rfl) rfl #[.slice A0 l0.length c0,.string (⟨#[]⟩:ByteArray),.int .i64 5] rfl (by (try simp only [List.map_toArray,List.map_cons,List.map_nil]);first|done|rfl|(simp only [List.length_drop,List.length_take];rfl)) ?_;(with_reducible refine (htree_After.calls _ _ l0 (⟨#[]⟩:ByteArray) 5 t223 t224 _ ?side1 ?side2 A62.out).mono ?_);(case side1=>exact cc (Kd.C_below HR0.out HB.out));(case side2=>exact HC0.out);rintro e w70 ⟨v225,rfl,ho0,hb⟩;refine ⟨_,rfl,?_⟩;have n0_:=am (Kd.R_lower ho0 (bz HB));have n1_:=bst HB hb;clear HB;have HO226:=n0_;have HB:=n1_;clear n0_ n1_;(try clear hb);(try clear hb2);(try clear hk);(try clear hi);(try clear ho0)))
    go_ret
    exact ⟨by first|rfl|(simp [errW_none,errW_some]<;>rfl)|(simp [*,errW_none,errW_some]<;>rfl),bb HB⟩
 ·replace c4:=Bool.eq_false_iff.mpr c4
  subst c4
  have H1:(some false)=some r:=by rw [if_neg (show ¬ (false=true) by decide)] at H;exact H
  clear H;have H:=H1;clear H1;obtain rfl:=Option.some.inj H
  go_enter Try.func3,Try.ntmps3
  go_wp2_with (first|((with_reducible refine gate_callee (f:=7) rfl ?_);refine goesL_ (some 16) rfl rfl Try.func7 (by kernel_rfl) rfl #[] rfl (by (try simp only [List.map_toArray,List.map_cons,List.map_nil]);first|done|rfl|(simp only [List.length_drop,List.length_take];rfl)) ?_;(with_reducible refine (l_12_alive.calls k  false _ A3.out).mono ?_);rintro e w71 ⟨rfl,hb⟩;refine ⟨_,rfl,?_⟩;have n0_:=bst HB hb;clear HB;have HB:=n0_;clear n0_;(try clear hb);(try clear hb2);(try clear hk);(try clear hi)))
  go_ret
  exact ⟨by first|rfl|(simp [errW_none,errW_some]<;>rfl)|(simp [*,errW_none,errW_some]<;>rfl),bb HB⟩
end Go.Proofs.Yteglhbfhibfodaa.Pr
end
section
namespace Go.Proofs.Yteglhbfhibfodaa.Ht
open Go.RowKit Go.Proofs.YteglhbfhibfodaaW.PrintWords Go.Proofs.YteglhbfhibfodaaW.PrintMore Go.Proofs.Yteglhbfhibfodaa.Pr Go.Proofs.Yteglhbfhibfodaa.Od Go.Proofs.Yteglhbfhibfodaa.Cr Go.Proofs.Yteglhbfhibfodaa.Lf
set_option linter.unusedVariables false
set_option linter.unusedSimpArgs false
theorem after_rises {d : List (List Int)} (h : Dir d) (x7 : List E) (e7 : x7 = entsD d) : ∀ (n i : Nat), i + n = (entsD d).length + 1 → 1 ≤ i → Ev (fun k => l_12_HtreeAfter.l1 k d x7 (entsD d) (i : Int)) true := by
  have hlen := entsD_len h.byte
  have hend : Ev (fun k => (r_11_Same.f k (entsD d) x7).bind fun t246 => (some t246)) true := by
    rw [e7]
    refine Ev.bind (same_ev _ (by omega)) ?_
    exact Ev.now _
  have hfin : ∀ (i : Nat), (entsD d).length ≤ i → Ev (fun k => l_12_HtreeAfter.l1 k d x7 (entsD d) (i : Int)) true := by
    intro i hi
    refine Ev.succ ?_
    simp only [l_12_HtreeAfter.l1, if_neg (show ¬((i : Int) < ((entsD d).length : Int)) by omega), f_after h.b ⟨#[]⟩ (by decide) 0, after0 h 0, bs, show (0 : Int).toNat = 0 from rfl, List.take_zero, if_true, List.length_nil, show (((0 : Nat) : Int) = 0) = True from eq_true rfl]
    exact hend
  intro n
  induction n with
  | zero => intro i hi h1; exact hfin i (by omega)
  | succ n ih =>
    intro i hi h1
    by_cases hil : i < (entsD d).length
    · refine Ev.succ ?_
      have hw : wrap64 ((i : Int) - 1) = ((i - 1 : Nat) : Int) := by rw [w64 (by omega) (by omega)]; omega
      have hok := entsD_ok h.byte
      have hs1 := okE_size (hok _ (List.getElem_mem (show i - 1 < (entsD d).length by omega)))
      have hs2 := okE_size (hok _ (List.getElem_mem hil))
      simp only [l_12_HtreeAfter.l1, if_pos (show ((i : Int) < ((entsD d).length : Int)) by omega), hw, if_pos (show (0 : Int) ≤ ((i - 1 : Nat) : Int) by omega), if_pos (show ((i - 1 : Nat) : Int) < ((entsD d).length : Int) by omega), if_pos (show (0 : Int) ≤ (i : Int) by omega), rdT_get hil, rdT_get (show i - 1 < (entsD d).length by omega), w64 (show -9223372036854775808 ≤ (i : Int) + 1 by omega) (by omega)]
      refine Ev.bind (below_ev _ _ (by omega) (by omega)) ?_
      have hlt : ltE (entsD d)[i - 1] (entsD d)[i] = true := List.pairwise_iff_getElem.1 (entsD_rises h.byte) (i - 1) i (by omega) hil (by omega)
      rw [hlt]
      simp only [if_true]
      exact ih (i + 1) (by omega) (by omega)
    · exact hfin i (by omega)
def Seen (P : List E) (nm : ByteArray) : Prop := (P = [] ∧ nm = ⟨#[]⟩) ∨ ∃ P' z, P = P' ++ [z] ∧ nm = z.f0
theorem seen_after {d : List (List Int)} (h : Dir d) {P Q : List E} (he : entsD d = P ++ Q) {nm : ByteArray} (hs : Seen P nm) (n : Int) : nm.size < 512 ∧ afterP d nm n = (Q.take n.toNat, 0) := by
  rcases hs with ⟨rfl, rfl⟩ | ⟨P', z, rfl, rfl⟩
  · exact ⟨by decide, by rw [after0 h, he]; rfl⟩
  · have he : entsD d = P' ++ z :: Q := by rw [he]; simp
    have := okE_size (entsD_ok h.byte z (by rw [he]; simp))
    exact ⟨by omega, after_next h he n⟩
theorem after_loop {d : List (List Int)} (h : Dir d) (a1 : Int) : ∀ (m : Nat) (P Q : List E) (nm : ByteArray), Q.length ≤ m → entsD d = P ++ Q → Seen P nm → Ev (fun k => l_12_HtreeAfter.l0 k d a1 (entsD d) P nm) true := by
  have hlen := entsD_len h.byte
  have h7 := and7 a1
  obtain ⟨n, hn⟩ : ∃ n : Nat, wrap64 (1 + bits .and .i64 a1 7) = ((n + 1 : Nat) : Int) := ⟨(bits .and .i64 a1 7).toNat, by rw [w64 (by omega) (by omega)]; omega⟩
  intro m
  induction m with
  | zero =>
    intro P Q nm hQ he hs
    obtain rfl := List.eq_nil_of_length_eq_zero (Nat.le_zero.1 hQ)
    obtain ⟨hz, ha⟩ := seen_after h he hs ((n + 1 : Nat) : Int)
    refine Ev.succ ?_
    simp only [l_12_HtreeAfter.l0, hn, f_after h.b nm hz, ha, bs, if_true, List.take_nil, List.length_nil]
    refine Ev.succ ?_
    simp only [l_12_HtreeAfter.j1, if_neg (show ¬ (decide (((0 : Nat) : Int) > ((n + 1 : Nat) : Int)) = true) by rw [decide_eq_true_iff]; omega), List.length_nil, show (((0 : Nat) : Int) = 0) = True from eq_true rfl, if_true]
    rw [show P = entsD d by rw [he, List.append_nil]]
    exact after_rises h _ rfl ((entsD d).length) 1 (by omega) (by omega)
  | succ m ih =>
    intro P Q nm hQ he hs
    obtain ⟨hz, ha⟩ := seen_after h he hs ((n + 1 : Nat) : Int)
    rw [Int.toNat_natCast] at ha
    refine Ev.succ ?_
    simp only [l_12_HtreeAfter.l0, hn, f_after h.b nm hz, ha, bs, if_true]
    refine Ev.succ ?_
    have htl : (Q.take (n + 1)).length ≤ n + 1 := by rw [List.length_take]; omega
    simp only [l_12_HtreeAfter.j1, if_neg (show ¬ (decide (((Q.take (n + 1)).length : Int) > ((n + 1 : Nat) : Int)) = true) by rw [decide_eq_true_iff]; omega)]
    by_cases hq0 : Q = []
    · subst hq0
      simp only [List.take_nil, List.length_nil, show (((0 : Nat) : Int) = 0) = True from eq_true rfl, if_true]
      rw [show P = entsD d by rw [he, List.append_nil]]
      exact after_rises h _ rfl ((entsD d).length) 1 (by omega) (by omega)
    · have hql : 0 < Q.length := List.length_pos_iff.2 hq0
      obtain ⟨T, hT⟩ : ∃ T, Q.take (n + 1) = T := ⟨_, rfl⟩
      have hTl : 0 < T.length := by rw [← hT, List.length_take]; omega
      have hPQ : P.length + Q.length = (entsD d).length := by rw [he, List.length_append]
      have hTQ : T.length ≤ Q.length := by rw [← hT, List.length_take]; omega
      rw [hT]
      have hw : wrap64 ((T.length : Int) - 1) = ((T.length - 1 : Nat) : Int) := by rw [w64 (by omega) (by omega)]; omega
      simp only [if_neg (show ¬ ((T.length : Int) = 0) by omega), if_pos (show P.length + T.length < 5864062014805 by omega), bs, hw, if_pos (show (0 : Int) ≤ ((T.length - 1 : Nat) : Int) by omega), if_pos (show ((T.length - 1 : Nat) : Int) < (T.length : Int) by omega), List.length_append, if_neg (show ¬ (((P.length + T.length : Nat) : Int) > ((entsD d).length : Int)) by omega), rdT_get (show T.length - 1 < T.length by omega)]
      refine ih (P ++ T) (Q.drop (n + 1)) _ (by rw [List.length_drop]; omega) (by rw [he, List.append_assoc, ← hT, List.take_append_drop]) (.inr ⟨P ++ T.take (T.length - 1), T[T.length - 1], ?_, rfl⟩)
      rw [List.append_assoc, ← List.take_succ_eq_append_getElem (show T.length - 1 < T.length by omega), List.take_of_length_le (by omega)]
theorem HtreeAfter (l : List (List Int)) (a : Int) (hl : Blocks l) : ∃ k, l_12_HtreeAfter.f k l a = some true := by
  refine Ev.rounds ?_
  have hb := dirB_of hl.1 hl.2
  unfold l_12_HtreeAfter.f
  refine Ev.bind alive_ev ?_
  simp only [if_true, f_check hb, bs]
  by_cases hc : checkP l = 0
  · have hd : Dir l := ⟨hl.1, check_ok.1 hc⟩
    have hlen := entsD_len hd.byte
    simp only [if_pos hc, f_after hb ⟨#[]⟩ (by decide) 5000, after0 hd, bs, if_true, show (5000 : Int).toNat = 5000 from rfl, List.take_of_length_le (show (entsD l).length ≤ 5000 by omega)]
    exact after_loop hd a _ [] (entsD l) _ (Nat.le_refl _) rfl (.inl ⟨rfl, rfl⟩)
  · have hn : readP l = none := by
      cases e : readP l with
      | none => rfl
      | some p => exact absurd (check_ok.2 ⟨p.1, p.2, e⟩) hc
    have ha : afterP l ⟨#[]⟩ 5 = ([], 13) := by unfold afterP; rw [hn]
    simp only [if_neg hc, f_after hb ⟨#[]⟩ (by decide) 5, ha, bs, if_true, List.length_nil]
    exact Ev.now _
end Go.Proofs.Yteglhbfhibfodaa.Ht
end
section
namespace Go.Proofs.Yteglhbfhibfodaa.htreeAfter
open Go.ChangeShapes Go.WideShapes Go.ChangeAt Go.RowKit Go.Proofs.YteglhbfhibfodaaW.PrintWords Go.Proofs.Yteglhbfhibfodaa.Pr Go.Proofs.Yteglhbfhibfodaa.Op Go.Joins
open Go.ChangeMaps (open_string shut_string)
set_option linter.unusedVariables false
theorem own : ownKnob Try.prog.godebug = none := by kernel_rfl
theorem laidOut : laidOutB Try.prog = true := by kernel_rfl
set_option maxRecDepth 100000 in
theorem contract (H : Type) (enc : TypeId × Value → H) (W : World) (base : Nat) (args : Array Value) (ds gs : List (DataW H)) (before : List MemPlace)
    (hval : ∀ (j : Nat) t v, Try.f3.params[j]? = some t → args[j]? = some v → Value.okWide Try.prog W .any base t v)
    (hW : DataW.Whole enc Try.prog Try.f3.params.toList Rows.htreeAfterSpec.vars false W args.toList ds gs before)
    (hsz : (DataW.weightsEach Try.prog (Try.f3.params.toList ++ Rows.htreeAfterSpec.plain.varTypes Try.prog) (ds ++ gs)).all (· ≤ reachBytes) = true) :
    Calls Try.prog 3 args W fun e W' => ∃ v, e = .returned v ∧ Rows.htreeAfterSpec.post enc Try.prog Try.f3 false true false false W args v W' := by
  have hW' := hW
  obtain ⟨p, q, hA0, hV, rfl, hfz, hnd⟩ := hW
  have hA : DataW.TrodAll enc Try.prog W 0 (fun _ => true) true Try.f3.params.toList args.toList ds p := hA0
  rw [Try.params3] at hA hval hsz
  obtain ⟨v0, vs0, d0, ds0, p0, q0, hargs, rfl, rfl, h0, r0⟩ := trodAll_cons hA
  obtain ⟨v1, vs1, d1, ds1, p1, q1, rfl, rfl, rfl, h1, r1⟩ := trodAll_cons r0
  obtain ⟨rfl, rfl, rfl⟩ := trodAll_nil r1
  obtain rfl : args = #[v0, v1] := by cases args; simp_all
  obtain ⟨rfl, rfl⟩ := trodVars_none hV
  have lt0 : ∀ x ∈ p0, x.block < W.heap.size := by obtain ⟨m, hm⟩ := h0; exact DataW.trod_lt m _ _ _ hm
  have k0 := h0
  obtain ⟨A0, l0, c0, rfl, hc0, hr0, hs0⟩ := arg_slice Try.underlying22 Ht.oRows (hval 0 22 v0 rfl rfl) h0 hsz (j := 0) (t := 22) rfl rfl
  have lt1 : ∀ x ∈ p1, x.block < W.heap.size := by obtain ⟨m, hm⟩ := h1; exact DataW.trod_lt m _ _ _ hm
  have k1 := h1
  obtain ⟨a1, rfl, rfl, rfl, w1⟩ := open_int Try.underlying3 (hval 1 3 v1 rfl rfl) h1
  have b1 := bounds_i64 w1
  clear hA0
  obtain ⟨k, hk⟩ := Ht.HtreeAfter l0 a1 hs0
  refine (l_12_HtreeAfter.calls k A0 c0 l0 a1 true W hr0 hc0 hk).mono fun e W' ⟨he, bel⟩ => ?_
  subst he
  exact ⟨_, rfl, _, _, _, [], _, [], hW', trodAll_mk1 (shut_bool Try.underlying4 _), (trodAll_cons_mk (Below.trod laidOut (by kernel_rfl) (of_decide_eq_true (by kernel_rfl)) k0 bel lt0) (trodAll_cons_mk (Below.trod laidOut (by kernel_rfl) (of_decide_eq_true (by kernel_rfl)) k1 bel lt1) trodAll_mk0)), rfl, bel.frame _, fun h => by cases h⟩
set_option maxRecDepth 100000 in
theorem lifted (os : Os) (started : os.Started) (H : Type) (enc : TypeId × Value → H) :
    ReturnsInHanded {} Try.checked os 3 .any (Rows.htreeAfterSpec.pre6 enc Try.prog Try.f3 Rows.htreeAfterRow.domain false) (Rows.htreeAfterSpec.post enc Try.prog Try.f3 false true false false) := by
  refine returnsInHanded_of_change_sized (C := Try.checked) own started (by kernel_rfl) Try.func3
    (ChangeSpec.witness6 (enc := enc) (C := Try.checked) false ⟨#[], #[.slice none 0 0, .int .i64 0], []⟩ 8 (by kernel_rfl) (by kernel_rfl) (by kernel_rfl) (by kernel_rfl)) ?_
  intro W base args ds gs before hval hW _ hsz _
  exact contract H enc W base args ds gs before hval hW hsz
theorem over : Rows.htreeAfterRow.holds Try.pinned (OpenSpec.ofChange Rows.htreeAfterSpec) :=
  OpenClaim.holds_of_wide 3 Try.f3 rfl rfl rfl rfl rfl rfl rfl ⟨rfl, rfl, rfl, rfl, rfl⟩ rfl rfl rfl rfl rfl (by kernel_rfl) Try.func3 (by kernel_rfl)
    (of_decide_eq_true (by kernel_rfl)) (by unfold Func.isWrapper; first | (rw [if_pos (by decide +kernel)]; kernel_rfl) | (rw [if_neg (by decide +kernel)]; exact ⟨rfl, rfl⟩))
    (fun os started H enc _ => lifted os started H enc)
theorem proved : Rows.HtreeAfterSaid := over
end Go.Proofs.Yteglhbfhibfodaa.htreeAfter
namespace Go.Proofs.Yteglhbfhibfodaa
theorem htreeAfter_holds : Rows.HtreeAfterSaid := htreeAfter.proved
end Go.Proofs.Yteglhbfhibfodaa
end
