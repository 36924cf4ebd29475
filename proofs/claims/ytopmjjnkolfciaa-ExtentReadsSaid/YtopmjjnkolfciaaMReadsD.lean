/- MReads: this session's texts for the one law, put together (part 4 of 6): what its program computes, function by function, and that this answers true; the row stands at the end of the last part. Conditions: those that each theorem names; the last theorem has none. -/
import Derived.WalkKit
import Derived.ProofKit
import Derived.OpenShut
import Derived.ShutString
import Derived.ChangeOld
import Derived.Below
import Derived.SizedLaws
import Derived.ChangeSlices
import Derived.Lib.SmallJoins
import Derived.Deep.Slices
import Derived.Test.YtopmjjnkolfciaaMReadsC
section
namespace Go.Proofs.Ytopmjjnkolfciaa.Pr
open Go.RowKit Go.Proofs.YtopmjjnkolfciaaW.PrintWords Go.Proofs.YtopmjjnkolfciaaW.PrintLast Go.Proofs.YtopmjjnkolfciaaW.PrintMore
attribute [local go_sem] max2_int min2_int max_two min_two max_three min_three max_four min_four
attribute [local go_sem] Go.Proofs.Ytopmjjnkolfciaa.Hl.str_geq Go.Proofs.Ytopmjjnkolfciaa.Hl.str_gtr Go.Proofs.Ytopmjjnkolfciaa.Hl.str_leq
set_option linter.unusedVariables false
set_option linter.unusedSimpArgs false
mutual
def r_10_Store.j0:Nat→List (S24)→List Int→Int→Bool→Option (List Int×(List (List Int))×Int)
 | 0,_,_,_,_=>none
 | k+1,x0,x1,x7,x26=>if x26=true then (some (([]:List Int),([]:List (List Int)),1)) else (if x7=0 then ((r_10_list.f k x0 0).bind fun t417=>((r_10_filled.f k t417 60).bind fun t420=>(some (t420,([]:List (List Int)),0)))) else (r_10_Store.l0 k x0 x1 x7 (([(x7) % 256,0,1,0]:List Int)) ([]:List (List Int)) 0))
def r_10_Store.l0:Nat→List (S24)→List Int→Int→List Int→List (List Int)→Int→Option (List Int×(List (List Int))×Int)
 | 0,_,_,_,_,_,_=>none
 | k+1,x0,x1,x7,x8,x9,x10=>if x10 < x7 then (if 0≤x10 then (if x10 < (x1.length:Int) then ((r_01_Bytes.f k (IntKind.u64.wrap (rd x1 x10)) 4).bind fun t430=>(if x8.length+t430.length < 140737488355328 then (if 0≤(wrap64 (x10*20)) then (if (wrap64 (x10*20))≤(mn (x0.length:Int) (wrap64 ((wrap64 (x10+1))*20))) then (if (mn (x0.length:Int) (wrap64 ((wrap64 (x10+1))*20)))≤(x0.length:Int) then ((r_10_list.f k ((x0.take ((mn (x0.length:Int) (wrap64 ((wrap64 (x10+1))*20))):Int).toNat).drop ((wrap64 (x10*20)):Int).toNat) 0).bind fun t440=>((r_10_filled.f k t440 252).bind fun t443=>((r_01_Sum.f k t443).bind fun t446=>((r_01_Bytes.f k (IntKind.u64.wrap (t446)) 4).bind fun t447=>(if t443.length+t447.length < 140737488355328 then (if x9.length < 5864062014805 then (r_10_Store.l0 k x0 x1 x7 (x8++t430) (x9++[(t443++t447)]) (wrap64 (x10+1))) else (none)) else (none)))))) else (none)) else (none)) else (none)) else (none))) else (none)) else (none)) else ((r_10_filled.f k x8 60).bind fun t426=>(some (t426,x9,0)))
end
def r_10_Store.f (k:Nat) (l0:List (S24)) (l1:List Int):Option (List Int×(List (List Int))×Int):=(r_10_Need.f k l0).bind fun t415=>(if t415 < 0 then (r_10_Store.j0 k l0 l1 t415 true) else (if (l1.length:Int)=t415 then ((r_10_numbers.f k l1).bind fun t416=>(r_10_Store.j0 k l0 l1 t415 (!t416))) else (r_10_Store.j0 k l0 l1 t415 true)))
set_option maxHeartbeats 8000000 in
set_option maxRecDepth 100000 in
theorem r_10_Store.calls (k:Nat) (A0:Option Addr) (c0:Nat) (l0:List (S24)) (A1:Option Addr) (c1:Nat) (l1:List Int) (r1:List Int) (r2:List (List Int)) (r3:Int) (w:World) (hr0:Kd.C k24 w A0 l0.length l0) (hc0:l0.length≤c0) (hr1:Kd.C (Kd.int .i64) w A1 l1.length l1) (hc1:l1.length≤c1) (h:r_10_Store.f k l0 l1=some (r1,r2,r3)) :
  Calls Try.prog 28 #[.slice A0 l0.length c0,.slice A1 l1.length c1] w fun e w'=>∃ v0_ v1_:Value,e=.returned (.tuple #[v0_,v1_,.int .i64 r3])∧Kd.R (Kd.int .u8) 5 w' w.heap.size (fun _=>True) v0_ r1∧Kd.S (Kd.slice 5 (Kd.int .u8)) 46 w' w.heap.size (fun k_=>some k_≠(v0_:Value).ownBlock) v1_ r2∧Below w.heap.size w w':=by
 have HR0:=am hr0
 have HC0:=am hc0
 clear hr0 hc0
 have HR1:=am hr1
 have HC1:=am hc1
 clear hr1 hc1
 have HB:=am (Below.refl w.heap.size w)
 have H:((r_10_Need.f k l0).bind fun t415=>(if t415 < 0 then (r_10_Store.j0 k l0 l1 t415 true) else (if (l1.length:Int)=t415 then ((r_10_numbers.f k l1).bind fun t416=>(r_10_Store.j0 k l0 l1 t415 (!t416))) else (r_10_Store.j0 k l0 l1 t415 true))))=some (r1,r2,r3):=h
 clear h
 replace H:=Option.bind_eq_some_iff.mp H
 obtain ⟨t415,A30,H⟩:=H
 replace H:(if t415 < 0 then (r_10_Store.j0 k l0 l1 t415 true) else (if (l1.length:Int)=t415 then ((r_10_numbers.f k l1).bind fun t416=>(r_10_Store.j0 k l0 l1 t415 (!t416))) else (r_10_Store.j0 k l0 l1 t415 true)))=some (r1,r2,r3):=H
 have A3:=am A30
 clear A30
 have HC4:=am H
 clear H
 go_enter Try.func28,Try.ntmps28
 go_upto_region 2 with (first|((with_reducible refine gate_callee (f:=20) rfl ?_);refine goesL_ (some 13) rfl rfl Try.func20 (by kernel_rfl) rfl #[.slice A0 l0.length c0] rfl (by (try simp only [List.map_toArray,List.map_cons,List.map_nil]);first|done|rfl|(simp only [List.length_drop,List.length_take];rfl)) ?_;(with_reducible refine (r_10_Need.calls k _ _ l0 t415 _ ?side1 ?side2 A3.out).mono ?_);(case side1=>exact cc HR0.out);(case side2=>exact HC0.out);rintro e w5 ⟨rfl,hb⟩;refine ⟨_,rfl,?_⟩;have n0_:=bst HB hb;clear HB;have HB:=n0_;clear n0_;(try clear hb);(try clear hb2);(try clear hk);(try clear hi)))
 (try simp only [Act.put,List.setIfInBounds_toArray,List.set_cons_zero,List.set_cons_succ])
 go_cut [26] (fun v26 wc=>∃ (kq:Nat) (x26_3:Bool),v26=.bool x26_3∧Aside0 (r_10_Store.j0 kq l0 l1 t415 x26_3=some (r1,r2,r3))∧Aside0 (kq≤k)∧Aside0 (Below w.heap.size w wc))
 case first =>
  have H:=HC4.out
  clear HC4
  by_cases c6:t415 < 0
  ·rw [if_pos c6] at H
   have c6b0:decide (t415 < 0)=true:=decide_eq_true c6
   clear c6
   (first|rw [c6b0]|(simp only [i64_w,i32_w];rw [c6b0])|skip)
   have H':=am H
   clear H;go_wp2
   go_meet
   case rel=>exact ⟨_,(true),(by first|rfl|(simp;done)|(simp [*];done)),H',⟨by first|omega|exact Nat.le_refl _⟩,⟨bb HB⟩⟩
  ·rw [if_neg c6] at H
   have c6b0:decide (t415 < 0)=false:=decide_eq_false c6
   clear c6
   (first|rw [c6b0]|(simp only [i64_w,i32_w];rw [c6b0])|skip)
   by_cases c7:(l1.length:Int)=t415
   ·rw [if_pos c7] at H
    have c7b0:((l1.length:Int)==t415)=true:=beq_iff_eq.mpr c7
    have c7b1:((l1.length:Int) != t415)=false:=bne_eq_false_iff_eq.mpr c7
    clear c7
    replace H:=Option.bind_eq_some_iff.mp H
    obtain ⟨t416,A80,H⟩:=H
    replace H:(r_10_Store.j0 k l0 l1 t415 (!t416))=some (r1,r2,r3):=H
    have A8:=am A80
    clear A80
    have H':=am H
    clear H
    go_wp2_with (first|(go_at_call 54;(with_reducible refine (r_10_numbers.calls k _ _ l1 t416 _ ?side1 ?side2 A8.out).mono ?_);(case side1=>exact cc (Kd.C_below HR1.out HB.out));(case side2=>exact HC1.out);rintro e w' ⟨rfl,⟨nd,rfl⟩⟩))
    go_meet
    case rel=>exact ⟨_,(!t416),(by first|rfl|(simp;done)|(simp [*];done)),H',⟨by first|omega|exact Nat.le_refl _⟩,⟨bb HB⟩⟩
   ·rw [if_neg c7] at H
    have c7b0:((l1.length:Int)==t415)=false:=beq_eq_false_iff_ne.mpr c7
    have c7b1:((l1.length:Int) != t415)=true:=bne_iff_ne.mpr c7
    have H':=am H
    clear H;go_wp2
    go_meet
    case rel=>exact ⟨_,(true),(by first|rfl|(simp;done)|(simp [*];done)),H',⟨by first|omega|exact Nat.le_refl _⟩,⟨bb HB⟩⟩
 case rest =>
  clear HC4
  try clear c1
  try clear c2
  try clear p2
  try clear c6
  try clear c6b0
  try clear c7
  try clear c7b0
  try clear c7b1
  obtain ⟨kq,x26_3,rfl,HA,HJ3,HB⟩:=hcut
  cases kq with
  | zero=>exact absurd HA.out (by intro h_;cases h_)
  | succ kj3 =>
   have H:=HA.out
   clear HA
   simp only [r_10_Store.j0] at H
   by_cases c9:x26_3=true
   ·subst c9
    have H1:(some (([]:List Int),([]:List (List Int)),1))=some (r1,r2,r3):=by rw [if_pos rfl] at H;exact H
    clear H;have H:=H1;clear H1
    simp only [Option.some.injEq,Prod.mk.injEq] at H
    obtain ⟨rfl,rfl,rfl⟩:=H
    go_wp2
    go_ret3
    exact ⟨_,_,by first|rfl|(simp [errW_none,errW_some]<;>rfl)|(simp [*,errW_none,errW_some]<;>rfl),by first|exact Kd.R_nil _ _ _ _ _|exact Kd.N_nil _ _ _ _ _|exact Kd.V_nil _ _ _ _ _|exact Kd.Q_nil _ _ _ _ _|exact Kd.S_nil _ _ _ _ _,by first|exact Kd.S_nil _ _ _ _ _|exact Kd.N_nil _ _ _ _ _|exact Kd.V_nil _ _ _ _ _|exact Kd.Q_nil _ _ _ _ _|exact Kd.R_nil _ _ _ _ _,bb HB⟩
   ·replace c9:=Bool.eq_false_iff.mpr c9
    subst c9
    have H1:(if t415=0 then ((r_10_list.f kj3 l0 0).bind fun t417=>((r_10_filled.f kj3 t417 60).bind fun t420=>(some (t420,([]:List (List Int)),0)))) else (r_10_Store.l0 kj3 l0 l1 t415 (([(t415) % 256,0,1,0]:List Int)) ([]:List (List Int)) 0))=some (r1,r2,r3):=by rw [if_neg (show ¬ (false=true) by decide)] at H;exact H
    clear H;have H:=H1;clear H1
    by_cases c10:t415=0
    ·rw [if_pos c10] at H
     have c10b0:(t415==0)=true:=beq_iff_eq.mpr c10
     have c10b1:(t415 != 0)=false:=bne_eq_false_iff_eq.mpr c10
     clear c10
     replace H:=Option.bind_eq_some_iff.mp H
     obtain ⟨t417,A110,H⟩:=H
     replace H:((r_10_filled.f kj3 t417 60).bind fun t420=>(some (t420,([]:List (List Int)),0)))=some (r1,r2,r3):=H
     have A11:=am A110
     clear A110
     replace H:=Option.bind_eq_some_iff.mp H
     obtain ⟨t420,A120,H⟩:=H
     replace H:(some (t420,([]:List (List Int)),0))=some (r1,r2,r3):=H
     have A12:=am A120
     clear A120
     simp only [Option.some.injEq,Prod.mk.injEq] at H
     obtain ⟨rfl,rfl,rfl⟩:=H
     go_wp2_with (first|((with_reducible refine gate_callee (f:=56) rfl ?_);refine goesL_ (some 30) rfl rfl Try.func56 (by kernel_rfl) rfl #[.slice A0 l0.length c0,.int .u8 0] rfl (by (try simp only [List.map_toArray,List.map_cons,List.map_nil]);first|done|rfl|(simp only [List.length_drop,List.length_take];rfl)) ?_;(with_reducible refine (r_10_list.calls kj3 _ _ l0 0 t417 _ ?side1 ?side2 A11.out).mono ?_);(case side1=>exact cc (Kd.C_below HR0.out HB.out));(case side2=>exact HC0.out);rintro e w13 ⟨v418,rfl,ho0,hb⟩;refine ⟨_,rfl,?_⟩;have n0_:=am (Kd.R_lower ho0 (bz HB));have n1_:=bst HB hb;clear HB;have HO419:=n0_;have HB:=n1_;clear n0_ n1_;(try clear hb);(try clear hb2);(try clear hk);(try clear hi);(try clear ho0);obtain ⟨Ao14,co14,eo14⟩:=Kd.R_slice HO419.out;subst eo14)|((with_reducible refine gate_callee (f:=55) rfl ?_);refine goesL_ (some 31) rfl rfl Try.func55 (by kernel_rfl) rfl #[.slice Ao14 t417.length co14,.int .i64 60] rfl (by (try simp only [List.map_toArray,List.map_cons,List.map_nil]);first|done|rfl|(simp only [List.length_drop,List.length_take];rfl)) ?_;(with_reducible refine (r_10_filled.calls kj3 (fun k_=>some k_=(.slice Ao14 t417.length co14:Value).ownBlock) (.slice Ao14 t417.length co14) t417 60 t420 w _ ?side1 ?side2 A12.out).mono ?_);(case side1=>repeat (first|(with_reducible first|exact HB.out|apply below_alloc|apply pw_below_drewN|apply below_drew1)|exact HB.out));(case side2=>exact Kd.R_tight rfl HO419.out);rintro e w15 ⟨v421,rfl,ho0,hb,hkp⟩;refine ⟨_,rfl,?_⟩;have n0_:=am (Kd.R_mono (ok':=fun k_=>True) ho0 (fun k_ hk_=>trivial));have n1_:=am (hb);clear HB;clear HO419;have HO422:=n0_;have HB:=n1_;clear n0_ n1_;(try clear hb);(try clear hkp);(try clear ho0)))
     go_ret3
     exact ⟨_,_,by first|rfl|(simp [errW_none,errW_some]<;>rfl)|(simp [*,errW_none,errW_some]<;>rfl),by (with_reducible repeat (first|apply Kd.R_alloc|apply Kd.R_drewN|apply Kd.R_drew));exact HO422.out,by first|exact Kd.S_nil _ _ _ _ _|exact Kd.N_nil _ _ _ _ _|exact Kd.V_nil _ _ _ _ _|exact Kd.Q_nil _ _ _ _ _|exact Kd.R_nil _ _ _ _ _,bb HB⟩
    ·rw [if_neg c10] at H
     have c10b0:(t415==0)=false:=beq_eq_false_iff_ne.mpr c10
     have c10b1:(t415 != 0)=true:=bne_iff_ne.mpr c10
     obtain ⟨y423,hy423⟩:∃ y_:List Int,y_=(([(t415) % 256,0,1,0]:List Int)):=⟨_,rfl⟩
     replace H:(r_10_Store.l0 kj3 l0 l1 t415 y423 ([]:List (List Int)) 0)=some (r1,r2,r3):=by first|(rw [hy423];with_reducible exact H)|(have H2_:=(Option.bind_some _ _).symm.trans H;rw [hy423];with_reducible exact H2_)|(have H2_:=(Option.bind_some _ _).symm.trans H;with_reducible exact H2_)|with_reducible exact H|(rw [hy423];exact H)|exact H
     have Ny423:=am hy423
     clear hy423
     have H':=am H
     clear H
     go_wp2_with (first|((with_reducible refine gate_dst (N:=34) rfl ?_);(try (refine gate_guard (by rfl) ?_;dsimp only));refine Kd.R_lit (Kd.int .u8) _ 5 ?hg (N:=34) ?hd (xs:=([(t415) % 256,0,1,0]:List Int)) (inner:=[.int .u8 ((t415) % 256),.int .u8 0,.int .u8 1,.int .u8 0]) (ok:=fun _=>True) (okp:=fun _=>True) ?hr ?hp (fun _ hk=>hk) trivial (Below.refl _ _) (Nat.le_refl _) (by simp) ?_;(case hd=>rfl);(case hg=>rfl);(case hr=>first|(go_simp;done)|(go_simp;rfl));(case hp=>exact (Reps.one (show Kd.M (Kd.int .u8) _ _ _ ((t415) % 256) [.int .u8 ((t415) % 256)] from rfl) (Reps.one (show Kd.M (Kd.int .u8) _ _ _ 0 [.int .u8 0] from rfl) (Reps.one (show Kd.M (Kd.int .u8) _ _ _ 1 [.int .u8 1] from rfl) (Reps.one (show Kd.M (Kd.int .u8) _ _ _ 0 [.int .u8 0] from rfl) (Reps.none _ _))))));intro v424 w16 ho17 hb hg_ hnew_;clear hg_ hnew_;(first|rw [← Ny423.out] at ho17|(simp only [Int.reduceToNat] at ho17;rw [← Ny423.out] at ho17));have n0_:=am (Kd.R_lower ho17 (bz HB));have n1_:=bst HB hb;clear HB;have HO425:=n0_;have HB:=n1_;clear n0_ n1_;clear hb ho17))
     go_loopg [8,9,10] kj3 (fun kq v8 v9 v10 w'=>∃ (x8_2:List Int) (x9_2:List (List Int)) (x10_2:Int),v10=.int .i64 x10_2∧Aside0 (r_10_Store.l0 kq l0 l1 t415 x8_2 x9_2 x10_2=some (r1,r2,r3))∧Aside0 (kq≤kj3)∧Aside0 (Kd.R (Kd.int .u8) 5 w' w.heap.size (fun _=>True) v8 x8_2)∧Aside0 (Kd.S (Kd.slice 5 (Kd.int .u8)) 46 w' w.heap.size (fun k_=>some k_≠(v8:Value).ownBlock) v9 x9_2)∧Aside0 (Below w.heap.size w w'))
     case atStart=>exact ⟨(y423),(([]:List (List Int))),(0),(by first|rfl|(simp;done)|(simp [*];done)),H',⟨Nat.le_refl _⟩,⟨by (with_reducible repeat (first|apply Kd.R_alloc|apply Kd.R_drewN|apply Kd.R_drew));exact HO425.out⟩,⟨by first|exact Kd.S_nil _ _ _ _ _|exact Kd.N_nil _ _ _ _ _|exact Kd.V_nil _ _ _ _ _|exact Kd.Q_nil _ _ _ _ _|exact Kd.R_nil _ _ _ _ _⟩,⟨bb HB⟩⟩
     case round =>
      clear H'
      try clear c1
      try clear c2
      try clear p2
      try clear c5
      try clear c6
      try clear c6b0
      try clear c7
      try clear c7b0
      try clear c7b1
      try clear c9
      try clear c10
      try clear c10b0
      try clear c10b1
      try clear p2
      obtain ⟨x8_2,x9_2,x10_2,rfl,HA,HK2,HO_8,HO_9,HB⟩:=hrel
      cases gk with
      | zero=>exact absurd HA.out (by intro h_;cases h_)
      | succ k2 =>
       have H:=HA.out
       clear HA
       simp only [r_10_Store.l0] at H
       by_cases c18:x10_2 < t415
       ·rw [if_pos c18] at H
        have c18b0:decide (x10_2 < t415)=true:=decide_eq_true c18
        clear c18
        by_cases c19:0≤x10_2
        ·rw [if_pos c19] at H
         have c19b0:decide (0≤x10_2)=true:=decide_eq_true c19
         clear c19
         by_cases c20:x10_2 < (l1.length:Int)
         ·rw [if_pos c20] at H
          have c20b0:decide (x10_2 < (l1.length:Int))=true:=decide_eq_true c20
          clear c20
          replace H:=Option.bind_eq_some_iff.mp H
          obtain ⟨t430,A210,H⟩:=H
          replace H:(if x8_2.length+t430.length < 140737488355328 then (if 0≤(wrap64 (x10_2*20)) then (if (wrap64 (x10_2*20))≤(mn (l0.length:Int) (wrap64 ((wrap64 (x10_2+1))*20))) then (if (mn (l0.length:Int) (wrap64 ((wrap64 (x10_2+1))*20)))≤(l0.length:Int) then ((r_10_list.f k2 ((l0.take ((mn (l0.length:Int) (wrap64 ((wrap64 (x10_2+1))*20))):Int).toNat).drop ((wrap64 (x10_2*20)):Int).toNat) 0).bind fun t440=>((r_10_filled.f k2 t440 252).bind fun t443=>((r_01_Sum.f k2 t443).bind fun t446=>((r_01_Bytes.f k2 (IntKind.u64.wrap (t446)) 4).bind fun t447=>(if t443.length+t447.length < 140737488355328 then (if x9_2.length < 5864062014805 then (r_10_Store.l0 k2 l0 l1 t415 (x8_2++t430) (x9_2++[(t443++t447)]) (wrap64 (x10_2+1))) else (none)) else (none)))))) else (none)) else (none)) else (none)) else (none))=some (r1,r2,r3):=H
          have A21:=am A210
          clear A210
          by_cases c22:x8_2.length+t430.length < 140737488355328
          ·rw [if_pos c22] at H
           have LMc22:=am c22
           clear c22
           obtain ⟨y433,hy433⟩:∃ y_:List Int,y_=(x8_2++t430):=⟨_,rfl⟩
           replace H:(if 0≤(wrap64 (x10_2*20)) then (if (wrap64 (x10_2*20))≤(mn (l0.length:Int) (wrap64 ((wrap64 (x10_2+1))*20))) then (if (mn (l0.length:Int) (wrap64 ((wrap64 (x10_2+1))*20)))≤(l0.length:Int) then ((r_10_list.f k2 ((l0.take ((mn (l0.length:Int) (wrap64 ((wrap64 (x10_2+1))*20))):Int).toNat).drop ((wrap64 (x10_2*20)):Int).toNat) 0).bind fun t440=>((r_10_filled.f k2 t440 252).bind fun t443=>((r_01_Sum.f k2 t443).bind fun t446=>((r_01_Bytes.f k2 (IntKind.u64.wrap (t446)) 4).bind fun t447=>(if t443.length+t447.length < 140737488355328 then (if x9_2.length < 5864062014805 then (r_10_Store.l0 k2 l0 l1 t415 y433 (x9_2++[(t443++t447)]) (wrap64 (x10_2+1))) else (none)) else (none)))))) else (none)) else (none)) else (none))=some (r1,r2,r3):=by first|(rw [hy433];with_reducible exact H)|(have H2_:=(Option.bind_some _ _).symm.trans H;rw [hy433];with_reducible exact H2_)|(have H2_:=(Option.bind_some _ _).symm.trans H;with_reducible exact H2_)|with_reducible exact H|(rw [hy433];exact H)|exact H
           have Ny433:=am hy433
           clear hy433
           obtain ⟨ji23,hji23⟩:∃ j_:Int,(mn (l0.length:Int) (wrap64 ((wrap64 (x10_2+1))*20)))=j_:=⟨_,rfl⟩
           replace H:(if 0≤(wrap64 (x10_2*20)) then (if (wrap64 (x10_2*20))≤(ji23) then (if (ji23)≤(l0.length:Int) then ((r_10_list.f k2 ((l0.take ((ji23):Int).toNat).drop ((wrap64 (x10_2*20)):Int).toNat) 0).bind fun t440=>((r_10_filled.f k2 t440 252).bind fun t443=>((r_01_Sum.f k2 t443).bind fun t446=>((r_01_Bytes.f k2 (IntKind.u64.wrap (t446)) 4).bind fun t447=>(if t443.length+t447.length < 140737488355328 then (if x9_2.length < 5864062014805 then (r_10_Store.l0 k2 l0 l1 t415 y433 (x9_2++[(t443++t447)]) (wrap64 (x10_2+1))) else (none)) else (none)))))) else (none)) else (none)) else (none))=some (r1,r2,r3):=by first|(rw [hji23] at H;exact H)|(simp only [hji23] at H ⊢;exact H)
           (try rw [hji23] at A21)
           have hji23_:(if (wrap64 ((wrap64 (x10_2+1))*20)) < (l0.length:Int) then (wrap64 ((wrap64 (x10_2+1))*20)) else (l0.length:Int))=ji23:=hji23
           obtain ⟨ji24,hji24⟩:∃ j_:Int,(wrap64 (x10_2*20))=j_:=⟨_,rfl⟩
           replace H:(if 0≤(ji24) then (if (ji24)≤(ji23) then (if (ji23)≤(l0.length:Int) then ((r_10_list.f k2 ((l0.take ((ji23):Int).toNat).drop ((ji24):Int).toNat) 0).bind fun t440=>((r_10_filled.f k2 t440 252).bind fun t443=>((r_01_Sum.f k2 t443).bind fun t446=>((r_01_Bytes.f k2 (IntKind.u64.wrap (t446)) 4).bind fun t447=>(if t443.length+t447.length < 140737488355328 then (if x9_2.length < 5864062014805 then (r_10_Store.l0 k2 l0 l1 t415 y433 (x9_2++[(t443++t447)]) (wrap64 (x10_2+1))) else (none)) else (none)))))) else (none)) else (none)) else (none))=some (r1,r2,r3):=by first|(rw [hji24] at H;exact H)|(simp only [hji24] at H ⊢;exact H)
           (try rw [hji24] at A21)
           have hji24w:(IntKind.i64.wrap (x10_2*20))=ji24:=(i64_w _).trans hji24
           (try rw [hji24] at c10b0)
           (try rw [hji24] at c10b1)
           (try rw [hji24] at c18b0)
           (try rw [hji24] at c19b0)
           (try rw [hji24] at c20b0)
           by_cases c25:0≤(ji24)
           ·rw [if_pos c25] at H
            have c25b0:=eq_true c25
            have c25b1:decide (0≤(ji24))=true:=decide_eq_true c25
            clear c25
            by_cases c26:(ji24)≤(ji23)
            ·rw [if_pos c26] at H
             have c26b0:=eq_true c26
             have c26b1:decide ((ji24)≤(ji23))=true:=decide_eq_true c26
             clear c26
             by_cases c27:(ji23)≤(l0.length:Int)
             ·rw [if_pos c27] at H
              have c27b0:=eq_true c27
              have c27b1:decide ((ji23)≤(l0.length:Int))=true:=decide_eq_true c27
              clear c27
              obtain ⟨y436,hy436⟩:∃ y_:List (S24),y_=((l0.take ((ji23):Int).toNat).drop ((ji24):Int).toNat):=⟨_,rfl⟩
              replace H:((r_10_list.f k2 y436 0).bind fun t440=>((r_10_filled.f k2 t440 252).bind fun t443=>((r_01_Sum.f k2 t443).bind fun t446=>((r_01_Bytes.f k2 (IntKind.u64.wrap (t446)) 4).bind fun t447=>(if t443.length+t447.length < 140737488355328 then (if x9_2.length < 5864062014805 then (r_10_Store.l0 k2 l0 l1 t415 y433 (x9_2++[(t443++t447)]) (wrap64 (x10_2+1))) else (none)) else (none))))))=some (r1,r2,r3):=by first|(rw [hy436];with_reducible exact H)|(have H2_:=(Option.bind_some _ _).symm.trans H;rw [hy436];with_reducible exact H2_)|(have H2_:=(Option.bind_some _ _).symm.trans H;with_reducible exact H2_)|with_reducible exact H|(rw [hy436];exact H)|exact H
              have Ny436:=am hy436
              clear hy436
              replace H:=Option.bind_eq_some_iff.mp H
              obtain ⟨t440,A280,H⟩:=H
              replace H:((r_10_filled.f k2 t440 252).bind fun t443=>((r_01_Sum.f k2 t443).bind fun t446=>((r_01_Bytes.f k2 (IntKind.u64.wrap (t446)) 4).bind fun t447=>(if t443.length+t447.length < 140737488355328 then (if x9_2.length < 5864062014805 then (r_10_Store.l0 k2 l0 l1 t415 y433 (x9_2++[(t443++t447)]) (wrap64 (x10_2+1))) else (none)) else (none)))))=some (r1,r2,r3):=H
              have A28:=am A280
              clear A280
              replace H:=Option.bind_eq_some_iff.mp H
              obtain ⟨t443,A290,H⟩:=H
              replace H:((r_01_Sum.f k2 t443).bind fun t446=>((r_01_Bytes.f k2 (IntKind.u64.wrap (t446)) 4).bind fun t447=>(if t443.length+t447.length < 140737488355328 then (if x9_2.length < 5864062014805 then (r_10_Store.l0 k2 l0 l1 t415 y433 (x9_2++[(t443++t447)]) (wrap64 (x10_2+1))) else (none)) else (none))))=some (r1,r2,r3):=H
              have A29:=am A290
              clear A290
              replace H:=Option.bind_eq_some_iff.mp H
              obtain ⟨t446,A300,H⟩:=H
              replace H:((r_01_Bytes.f k2 (IntKind.u64.wrap (t446)) 4).bind fun t447=>(if t443.length+t447.length < 140737488355328 then (if x9_2.length < 5864062014805 then (r_10_Store.l0 k2 l0 l1 t415 y433 (x9_2++[(t443++t447)]) (wrap64 (x10_2+1))) else (none)) else (none)))=some (r1,r2,r3):=H
              have A30:=am A300
              clear A300
              replace H:=Option.bind_eq_some_iff.mp H
              obtain ⟨t447,A310,H⟩:=H
              replace H:(if t443.length+t447.length < 140737488355328 then (if x9_2.length < 5864062014805 then (r_10_Store.l0 k2 l0 l1 t415 y433 (x9_2++[(t443++t447)]) (wrap64 (x10_2+1))) else (none)) else (none))=some (r1,r2,r3):=H
              have A31:=am A310
              clear A310
              by_cases c32:t443.length+t447.length < 140737488355328
              ·rw [if_pos c32] at H
               have LMc32:=am c32
               clear c32
               obtain ⟨y450,hy450⟩:∃ y_:List Int,y_=(t443++t447):=⟨_,rfl⟩
               replace H:(if x9_2.length < 5864062014805 then (r_10_Store.l0 k2 l0 l1 t415 y433 (x9_2++[y450]) (wrap64 (x10_2+1))) else (none))=some (r1,r2,r3):=by first|(rw [hy450];with_reducible exact H)|(have H2_:=(Option.bind_some _ _).symm.trans H;rw [hy450];with_reducible exact H2_)|(have H2_:=(Option.bind_some _ _).symm.trans H;with_reducible exact H2_)|with_reducible exact H|(rw [hy450];exact H)|exact H
               have Ny450:=am hy450
               clear hy450
               by_cases c33:x9_2.length < 5864062014805
               ·rw [if_pos c33] at H
                have LMc33:=am c33
                clear c33
                obtain ⟨y453,hy453⟩:∃ y_:List (List Int),y_=(x9_2++[y450]):=⟨_,rfl⟩
                replace H:(r_10_Store.l0 k2 l0 l1 t415 y433 y453 (wrap64 (x10_2+1)))=some (r1,r2,r3):=by first|(rw [hy453];with_reducible exact H)|(have H2_:=(Option.bind_some _ _).symm.trans H;rw [hy453];with_reducible exact H2_)|(have H2_:=(Option.bind_some _ _).symm.trans H;with_reducible exact H2_)|with_reducible exact H|(rw [hy453];exact H)|exact H
                have Ny453:=am hy453
                clear hy453
                have H':=am H
                clear H
                have p429:0≤(x10_2:Int):=od
                have q429:x10_2 < (l1.length:Int):=od
                obtain ⟨ad429,e429,hx429_0⟩:=Kd.at_int HR1.out x10_2 p429 q429
                cases e429
                replace hx429_0:=hB HB hx429_0
                replace p429:=eq_true p429;replace q429:=eq_true q429
                go_wp2_with (first|((with_reducible refine gate_callee (f:=57) rfl ?_);refine goesL_ (some 46) rfl rfl Try.func57 (by kernel_rfl) rfl #[.int .u64 (IntKind.u64.wrap (rd l1 x10_2)),.int .i64 4] rfl (by (try simp only [List.map_toArray,List.map_cons,List.map_nil]);first|done|rfl|(simp only [List.length_drop,List.length_take];rfl)) ?_;(with_reducible refine (r_01_Bytes.calls k2 (IntKind.u64.wrap (rd l1 x10_2)) 4 t430 _ A21.out).mono ?_);rintro e w34 ⟨v431,rfl,ho0,hb⟩;refine ⟨_,rfl,?_⟩;have n0_:=am (Kd.R_elder' (rR HO_8) (Kd.R_base ho0) hb);have n1_:=am (Kd.S_elder' (rS HO_9) (Kd.R_base ho0) hb);have n2_:=am (Kd.R_lower (Kd.R_new' ho0 (Kd.R_lt (rR HO_8))) (bz HB));have n3_:=bst HB hb;clear HO_8;clear HO_9;clear HB;have HO_8:=n0_;have HO_9:=n1_;have HO432:=n2_;have HB:=n3_;clear n0_ n1_ n2_ n3_;(try clear hb);(try clear hb2);(try clear hk);(try clear hi);(try clear ho0);obtain ⟨Ao36,co36,eo36⟩:=Kd.R_slice HO432.out;subst eo36)|((with_reducible refine gate_builtin (b:=.append) (xs:=#[.tmp 40,.tmp 46]) rfl ?_);(try (refine gate_guard (by rfl) ?_;dsimp only));at_builtin;refine Kd.R_append_rows (Kd.int .u8) (w0:=w) w.heap.size rfl (.tmp 40) (.tmp 46) 46 5 (.int .u8 0) 1 rfl Try.underlying46 info5 rfl (by decide) (by omega) u8 x8_2 t430 _ _ _ (fun k_=>some k_≠(.slice Ao36 t430.length co36:Value).ownBlock) (fun _=>False) rfl rfl ?aO ?aR (fun _ _ h=>h) (fun _ h=>h.elim) ?aF ?aB ?aS ?aL ?_;(case aR=>exact cc (Kd.R_reads' HO432.out).2.2);(case aB=>exact (bb HB));(case aF=>exact (fun k_ hk=>Kd.fresh' (Kd.R_lt (rR HO432)) k_ hk));(case aO=>exact (by (with_reducible repeat (first|apply Kd.R_alloc|apply Kd.R_drewN|apply Kd.R_drew));exact Kd.R_mono HO_8.out (fun _ hk=>hk.2)));(case aS=>exact (bz HB));(case aL=>have:=LMc22.out;omega);intro v434 w35 ho hb hg hat;rw [← Ny433.out] at ho;have n0_:=am (Kd.S_after (ok:=(fun k_=>some k_≠(.slice Ao36 t430.length co36:Value).ownBlock)) (by (with_reducible repeat (first|apply Kd.S_alloc|apply Kd.S_drewN|apply Kd.S_drew));exact Kd.S_mono HO_9.out (fun _ hk=>⟨hk.2,hk.1⟩)) hg hat);have n1_:=am (Kd.R_after (ok:=(fun _=>True)) (rR HO432) hg hat);have n2_:=am (hb);have n3_:=am (ho);clear HO_9;clear HO432;clear HB;clear HO_8;have HO_9:=n0_;have HO432:=n1_;have HB:=n2_;have HO435:=n3_;clear n0_ n1_ n2_ n3_;clear ho hb hg hat;have q37:((ji23):Int)≤((l0.length:Int):Int):=od;obtain ⟨i037,hi037,_,hsz37,_⟩:=info_parts info24;have hroom37:l0.length≤c0:=HC0.out;have hC37:Kd.C k24 _ A0 l0.length l0:=HR0.out;have ql37:((ji24):Int)≤((ji23):Int):=od;have q037:(0:Int)≤((ji24):Int):=od;have hcut37:=cut_mid (P:=Try.prog) 22 24 .i64 .i64 Try.underlying22 hi037 4 hsz37 A0 l0.length c0 (ji24) (ji23) q037 ql37 q37 hroom37;have hr37:=Kd.C_mid (lo:=((ji24):Int).toNat) (hi:=((ji23):Int).toNat) (c:=c0) hC37 (by omega) (by omega) hroom37;obtain ⟨A37,hA37⟩:∃ A1,A1=(if c0=((ji24):Int).toNat then A0 else (A0:Option Addr).map (·.add (((ji24):Int).toNat*4))):=⟨_,rfl⟩;obtain ⟨c37,hc37⟩:∃ c1,c1=c0 - ((ji24):Int).toNat:=⟨_,rfl⟩;have hy37:y436.length=((ji23):Int).toNat - ((ji24):Int).toNat:=(by rw [Ny436.out,List.length_drop,List.length_take]<;>omega);rw [show ((l0).take ((ji23):Int).toNat).drop ((ji24):Int).toNat=y436 from Ny436.out.symm] at hr37;replace hr37:Kd.C k24 _ A37 y436.length y436:=(by rw [hA37];exact hr37);rw [← hy37,← hA37,← hc37] at hcut37;have HR439:=am hr37;have HC439:=am (show y436.length≤c37 from by rw [hy37,hc37];exact Nat.sub_le_sub_right (Nat.le_trans (by omega) hroom37) _);clear hr37 hC37 hroom37 hi037 hsz37 hc37;have KY37:=am hy37;have KA37:=am hA37;clear hy37 hA37;replace q37:=eq_true q37)|((with_reducible refine gate_callee (f:=56) rfl ?_);refine goesL_ (some 58) rfl rfl Try.func56 (by kernel_rfl) rfl #[.slice A37 y436.length c37,.int .u8 0] rfl (by (try simp only [List.map_toArray,List.map_cons,List.map_nil]);first|done|rfl|(simp only [List.length_drop,List.length_take];rfl)) ?_;(with_reducible refine (r_10_list.calls k2 _ _ y436 0 t440 _ ?side1 ?side2 A28.out).mono ?_);(case side1=>exact cc (Kd.C_below HR439.out HB.out));(case side2=>exact HC439.out);rintro e w38 ⟨v441,rfl,ho0,hb⟩;refine ⟨_,rfl,?_⟩;have n0_:=am (Kd.S_elder' (rS HO_9) (Kd.R_base ho0) hb);have n1_:=am (Kd.R_elder' (rR HO432) (Kd.R_base ho0) hb);have n2_:=am (Kd.R_elder' (rR HO435) (Kd.R_base ho0) hb);have n3_:=am (Kd.R_lower (Kd.R_new' (Kd.R_new' ho0 (Kd.R_lt (rR HO432))) (Kd.R_lt (rR HO435))) (bz HB));have n4_:=bst HB hb;clear HO_9;clear HO432;clear HO435;clear HB;have HO_9:=n0_;have HO432:=n1_;have HO435:=n2_;have HO442:=n3_;have HB:=n4_;clear n0_ n1_ n2_ n3_ n4_;(try clear hb);(try clear hb2);(try clear hk);(try clear hi);(try clear ho0);obtain ⟨Ao39,co39,eo39⟩:=Kd.R_slice HO442.out;subst eo39)|((with_reducible refine gate_callee (f:=55) rfl ?_);refine goesL_ (some 59) rfl rfl Try.func55 (by kernel_rfl) rfl #[.slice Ao39 t440.length co39,.int .i64 252] rfl (by (try simp only [List.map_toArray,List.map_cons,List.map_nil]);first|done|rfl|(simp only [List.length_drop,List.length_take];rfl)) ?_;(with_reducible refine (r_10_filled.calls k2 (fun k_=>some k_=(.slice Ao39 t440.length co39:Value).ownBlock) (.slice Ao39 t440.length co39) t440 252 t443 w _ ?side1 ?side2 A29.out).mono ?_);(case side1=>repeat (first|(with_reducible first|exact HB.out|apply below_alloc|apply pw_below_drewN|apply below_drew1)|exact HB.out));(case side2=>exact Kd.R_tight rfl HO442.out);rintro e w40 ⟨v444,rfl,ho0,hb,hkp⟩;refine ⟨_,rfl,?_⟩;have n0_:=am (Kd.S_mono (ok':=fun k_=>some k_≠(.slice Ao36 t430.length co36:Value).ownBlock∧some k_≠(v434:Value).ownBlock∧some k_≠(v444:Value).ownBlock) (Kd.S_keptB (HO_9.out) hkp (fun k_ hk_ hs_=>(hk_.2) hs_)) (fun k_ hk_=>⟨hk_.1.1.1,hk_.1.1.2,fun e_=>Or.elim (ho0.1 k_ e_.symm) (fun hs_=>hk_.2.1 hs_) (fun hn_=>Nat.not_le.2 hk_.2.2 hn_)⟩));have n1_:=am (Kd.R_mono (ok':=fun k_=>some k_≠(v434:Value).ownBlock∧some k_≠(v444:Value).ownBlock) (Kd.R_keptB (HO432.out) hkp (fun k_ hk_ hs_=>(hk_.2) hs_)) (fun k_ hk_=>⟨hk_.1.1.2,fun e_=>Or.elim (ho0.1 k_ e_.symm) (fun hs_=>hk_.2.1 hs_) (fun hn_=>Nat.not_le.2 hk_.2.2 hn_)⟩));have n2_:=am (Kd.R_mono (ok':=fun k_=>some k_≠(.slice Ao36 t430.length co36:Value).ownBlock∧some k_≠(v444:Value).ownBlock) (Kd.R_keptB (HO435.out) hkp (fun k_ hk_ hs_=>(hk_.2) hs_)) (fun k_ hk_=>⟨hk_.1.1,fun e_=>Or.elim (ho0.1 k_ e_.symm) (fun hs_=>hk_.2.1 hs_) (fun hn_=>Nat.not_le.2 hk_.2.2 hn_)⟩));have n3_:=am (Kd.R_mono (ok':=fun k_=>some k_≠(.slice Ao36 t430.length co36:Value).ownBlock∧some k_≠(v434:Value).ownBlock) ho0 (fun k_ hk_=>⟨Or.elim hk_ (fun hs_=>fun e_=>(((HO432.out).1 k_ e_.symm).2) hs_) (fun hn_=>(Kd.fresh' (Kd.R_lt (rR HO432)) k_ hn_)),Or.elim hk_ (fun hs_=>fun e_=>(((HO435.out).1 k_ e_.symm).2) hs_) (fun hn_=>(Kd.fresh' (Kd.R_lt (rR HO435)) k_ hn_))⟩));have n4_:=am (hb);clear HO_9;clear HO432;clear HO435;clear HB;clear HO442;have HO_9:=n0_;have HO432:=n1_;have HO435:=n2_;have HO445:=n3_;have HB:=n4_;clear n0_ n1_ n2_ n3_ n4_;(try clear hb);(try clear hkp);(try clear ho0);obtain ⟨Ao41,co41,eo41⟩:=Kd.R_slice HO445.out;subst eo41)|((with_reducible refine gate_callee (f:=58) rfl ?_);refine goesL_ (some 63) rfl rfl Try.func58 (by kernel_rfl) rfl #[.slice Ao41 t443.length co41] rfl (by (try simp only [List.map_toArray,List.map_cons,List.map_nil]);first|done|rfl|(simp only [List.length_drop,List.length_take];rfl)) ?_;(with_reducible refine (r_01_Sum.calls k2 _ _ t443 t446 _ ?side1 ?side2 A30.out).mono ?_);(case side1=>exact cc (Kd.R_reads' HO445.out).2.2);(case side2=>exact (Kd.R_reads' HO445.out).2.1);rintro e w' ⟨rfl,⟨nd,rfl⟩⟩;refine ⟨_,rfl,?_⟩)|((with_reducible refine gate_callee (f:=57) rfl ?_);refine goesL_ (some 65) rfl rfl Try.func57 (by kernel_rfl) rfl #[.int .u64 (IntKind.u64.wrap (t446)),.int .i64 4] rfl (by (try simp only [List.map_toArray,List.map_cons,List.map_nil]);first|done|rfl|(simp only [List.length_drop,List.length_take];rfl)) ?_;(with_reducible refine (r_01_Bytes.calls k2 (IntKind.u64.wrap (t446)) 4 t447 _ A31.out).mono ?_);rintro e w42 ⟨v448,rfl,ho0,hb⟩;refine ⟨_,rfl,?_⟩;have n0_:=am (Kd.S_elder' (rS HO_9) (Kd.R_base ho0) hb);have n1_:=am (Kd.R_elder' (rR HO432) (Kd.R_base ho0) hb);have n2_:=am (Kd.R_elder' (rR HO435) (Kd.R_base ho0) hb);have n3_:=am (Kd.R_elder' (rR HO445) (Kd.R_base ho0) hb);have n4_:=am (Kd.R_lower (Kd.R_new' (Kd.R_new' (Kd.R_new' ho0 (Kd.R_lt (rR HO432))) (Kd.R_lt (rR HO435))) (Kd.R_lt (rR HO445))) (bz HB));have n5_:=bst HB hb;clear HO_9;clear HO432;clear HO435;clear HO445;clear HB;have HO_9:=n0_;have HO432:=n1_;have HO435:=n2_;have HO445:=n3_;have HO449:=n4_;have HB:=n5_;clear n0_ n1_ n2_ n3_ n4_ n5_;(try clear hb);(try clear hb2);(try clear hk);(try clear hi);(try clear ho0);obtain ⟨Ao44,co44,eo44⟩:=Kd.R_slice HO449.out;subst eo44)|((with_reducible refine gate_builtin (b:=.append) (xs:=#[.tmp 61,.tmp 65]) rfl ?_);(try (refine gate_guard (by rfl) ?_;dsimp only));at_builtin;refine Kd.R_append_rows (Kd.int .u8) (w0:=w) w.heap.size rfl (.tmp 61) (.tmp 65) 46 5 (.int .u8 0) 1 rfl Try.underlying46 info5 rfl (by decide) (by omega) (.slice Ao41 t443.length co41) t443 t447 _ _ _ (fun k_=>some k_≠(.slice Ao36 t430.length co36:Value).ownBlock∧some k_≠(v434:Value).ownBlock∧some k_≠(.slice Ao44 t447.length co44:Value).ownBlock) (fun _=>False) rfl rfl ?aO ?aR (fun _ _ h=>h) (fun _ h=>h.elim) ?aF ?aB ?aS ?aL ?_;(case aR=>exact cc (Kd.R_reads' HO449.out).2.2);(case aB=>exact (bb HB));(case aF=>exact (fun k_ hk=>⟨Kd.fresh' (Kd.R_lt (rR HO432)) k_ hk,Kd.fresh' (Kd.R_lt (rR HO435)) k_ hk,Kd.fresh' (Kd.R_lt (rR HO449)) k_ hk⟩));(case aO=>exact (by (with_reducible repeat (first|apply Kd.R_alloc|apply Kd.R_drewN|apply Kd.R_drew));exact Kd.R_mono HO445.out (fun _ hk=>⟨hk.1.1,⟨hk.1.2,hk.2⟩⟩)));(case aS=>exact (bz HB));(case aL=>have:=LMc32.out;omega);intro v451 w43 ho hb hg hat;rw [← Ny450.out] at ho;have n0_:=am (Kd.S_after (ok:=(fun k_=>some k_≠(.slice Ao36 t430.length co36:Value).ownBlock∧some k_≠(v434:Value).ownBlock∧some k_≠(.slice Ao44 t447.length co44:Value).ownBlock)) (by (with_reducible repeat (first|apply Kd.S_alloc|apply Kd.S_drewN|apply Kd.S_drew));exact Kd.S_mono HO_9.out (fun _ hk=>⟨⟨hk.1.1,⟨hk.1.2.1,hk.2⟩⟩,hk.1.2.2⟩)) hg hat);have n1_:=am (Kd.R_after (ok:=(fun k_=>some k_≠(v434:Value).ownBlock∧some k_≠(.slice Ao44 t447.length co44:Value).ownBlock)) (by (with_reducible repeat (first|apply Kd.R_alloc|apply Kd.R_drewN|apply Kd.R_drew));exact Kd.R_mono HO432.out (fun _ hk=>⟨⟨hk.1.1,hk.2⟩,hk.1.2⟩)) hg hat);have n2_:=am (Kd.R_after (ok:=(fun k_=>some k_≠(.slice Ao36 t430.length co36:Value).ownBlock∧some k_≠(.slice Ao44 t447.length co44:Value).ownBlock)) (by (with_reducible repeat (first|apply Kd.R_alloc|apply Kd.R_drewN|apply Kd.R_drew));exact Kd.R_mono HO435.out (fun _ hk=>⟨⟨hk.1.1,hk.2⟩,hk.1.2⟩)) hg hat);have n3_:=am (Kd.R_after (ok:=(fun k_=>some k_≠(.slice Ao36 t430.length co36:Value).ownBlock∧some k_≠(v434:Value).ownBlock)) (by (with_reducible repeat (first|apply Kd.R_alloc|apply Kd.R_drewN|apply Kd.R_drew));exact Kd.R_mono HO449.out (fun _ hk=>⟨⟨hk.1.1.2,hk.1.2⟩,hk.2⟩)) hg hat);have n4_:=am (hb);have n5_:=am (ho);clear HO_9;clear HO432;clear HO435;clear HO449;clear HB;clear HO445;have HO_9:=n0_;have HO432:=n1_;have HO435:=n2_;have HO449:=n3_;have HB:=n4_;have HO452:=n5_;clear n0_ n1_ n2_ n3_ n4_ n5_;clear ho hb hg hat;obtain ⟨Ao46,co46,eo46⟩:=Kd.R_slice HO452.out;subst eo46)|((with_reducible refine gate_builtin (b:=.append) (xs:=#[.tmp 60,.tmp 67]) rfl ?_);(try (refine gate_guard (by rfl) ?_;dsimp only));at_builtin;refine Kd.S_append (Kd.slice 5 (Kd.int .u8)) (w0:=w) w.heap.size rfl (.tmp 60) (.tmp 67) 47 46 (.slice none 0 0) 24 rfl Try.underlying47 info46 rfl (by decide) (by omega) u9 x9_2 y450 [.slice Ao46 y450.length co46] (fun k_=>some k_≠(.slice Ao36 t430.length co36:Value).ownBlock∧some k_≠(v434:Value).ownBlock∧some k_≠(.slice Ao44 t447.length co44:Value).ownBlock) (fun k_=>some k_=(.slice Ao46 y450.length co46:Value).ownBlock) rfl rfl ?aP (fun k_ hk_=>((Kd.R_mono (ok':=fun k_=>((fun k_=>some k_≠(.slice Ao36 t430.length co36:Value).ownBlock∧some k_≠(v434:Value).ownBlock∧some k_≠(.slice Ao44 t447.length co44:Value).ownBlock)) k_∧some k_≠(u9:Value).ownBlock) (Kd.R_apart' (HO452.out) (Kd.S_typed HO_9.out) (by decide)) (fun k_ hk=>⟨⟨hk.1.1,⟨hk.1.2.1,hk.1.2.2⟩⟩,hk.2⟩))).1 k_ hk_.symm) ?aF ?aO ?aB ?aS ?aL ?_;(case aP=>exact Kd.M_row (Kd.R_mono (Kd.R_tight rfl (Kd.R_mono (ok':=fun k_=>((fun k_=>some k_≠(.slice Ao36 t430.length co36:Value).ownBlock∧some k_≠(v434:Value).ownBlock∧some k_≠(.slice Ao44 t447.length co44:Value).ownBlock)) k_∧some k_≠(u9:Value).ownBlock) (Kd.R_apart' (HO452.out) (Kd.S_typed HO_9.out) (by decide)) (fun k_ hk=>⟨⟨hk.1.1,⟨hk.1.2.1,hk.1.2.2⟩⟩,hk.2⟩))) (fun _ h_=>h_)));(case aB=>exact (bb HB));(case aF=>exact (fun k_ hk=>⟨Kd.fresh' (Kd.R_lt (rR HO432)) k_ hk,Kd.fresh' (Kd.R_lt (rR HO435)) k_ hk,Kd.fresh' (Kd.R_lt (rR HO449)) k_ hk⟩));(case aO=>exact (by (with_reducible repeat (first|apply Kd.S_alloc|apply Kd.S_drewN|apply Kd.S_drew));exact Kd.S_mono HO_9.out (fun k_ hk=>⟨⟨hk.1.1,⟨hk.1.2.1,hk.1.2.2⟩⟩,fun e_=>hk.2 e_⟩)));(case aS=>exact (bz HB));(case aL=>have:=LMc33.out;omega);intro v454 w45 ho hb hg hat;rw [← Ny453.out] at ho;have n0_:=am (Kd.R_over' (rR HO432) (Kd.S_typed (rS HO_9)) (by decide) hg);have n1_:=am (Kd.R_over' (rR HO435) (Kd.S_typed (rS HO_9)) (by decide) hg);have n2_:=am (Kd.R_over' (rR HO449) (Kd.S_typed (rS HO_9)) (by decide) hg);have n3_:=am (hb);have n4_:=am (ho);clear HO432;clear HO435;clear HO449;clear HB;clear HO_9;clear HO452;have HO432:=n0_;have HO435:=n1_;have HO449:=n2_;have HB:=n3_;have HO455:=n4_;clear n0_ n1_ n2_ n3_ n4_;clear ho hb hg hat))
                go_roundg k2
                case measure=>have:=HJ3.out;have:=HK2.out;omega
                case rel=>exact ⟨(y433),(y453),(wrap64 (x10_2+1)),(by first|rfl|(simp;done)|(simp [*];done)),H',⟨by have:=HJ3.out;have:=HK2.out;omega⟩,⟨by (with_reducible repeat (first|apply Kd.R_alloc|apply Kd.R_drewN|apply Kd.R_drew));exact Kd.R_mono HO435.out (fun _ hk=>trivial)⟩,⟨by (with_reducible repeat (first|apply Kd.S_alloc|apply Kd.S_drewN|apply Kd.S_drew));exact Kd.S_mono HO455.out (fun _ hk=>hk.2.1)⟩,⟨bb HB⟩⟩
               ·rw [if_neg c33] at H
                exact absurd H (by simp)
              ·rw [if_neg c32] at H
               exact absurd H (by simp)
             ·rw [if_neg c27] at H
              exact absurd H (by simp)
            ·rw [if_neg c26] at H
             exact absurd H (by simp)
           ·rw [if_neg c25] at H
            exact absurd H (by simp)
          ·rw [if_neg c22] at H
           exact absurd H (by simp)
         ·rw [if_neg c20] at H
          exact absurd H (by simp)
        ·rw [if_neg c19] at H
         exact absurd H (by simp)
       ·rw [if_neg c18] at H
        have c18b0:decide (x10_2 < t415)=false:=decide_eq_false c18
        clear c18
        replace H:=Option.bind_eq_some_iff.mp H
        obtain ⟨t426,A470,H⟩:=H
        replace H:(some (t426,x9_2,0))=some (r1,r2,r3):=H
        have A47:=am A470
        clear A470
        simp only [Option.some.injEq,Prod.mk.injEq] at H
        obtain ⟨rfl,rfl,rfl⟩:=H
        obtain ⟨Ao48,co48,eo48⟩:=Kd.R_slice HO_8.out
        subst eo48
        go_wp2_with (first|((with_reducible refine gate_callee (f:=55) rfl ?_);refine goesL_ (some 70) rfl rfl Try.func55 (by kernel_rfl) rfl #[.slice Ao48 x8_2.length co48,.int .i64 60] rfl (by (try simp only [List.map_toArray,List.map_cons,List.map_nil]);first|done|rfl|(simp only [List.length_drop,List.length_take];rfl)) ?_;(with_reducible refine (r_10_filled.calls k2 (fun k_=>some k_=(.slice Ao48 x8_2.length co48:Value).ownBlock) (.slice Ao48 x8_2.length co48) x8_2 60 t426 w _ ?side1 ?side2 A47.out).mono ?_);(case side1=>repeat (first|(with_reducible first|exact HB.out|apply below_alloc|apply pw_below_drewN|apply below_drew1)|exact HB.out));(case side2=>exact Kd.R_tight rfl HO_8.out);rintro e w49 ⟨v427,rfl,ho0,hb,hkp⟩;refine ⟨_,rfl,?_⟩;have n0_:=am (Kd.S_mono (ok':=fun k_=>some k_≠(v427:Value).ownBlock) (Kd.S_keptB (HO_9.out) hkp (fun k_ hk_ hs_=>(hk_) hs_)) (fun k_ hk_=>fun e_=>Or.elim (ho0.1 k_ e_.symm) (fun hs_=>hk_.2.1 hs_) (fun hn_=>Nat.not_le.2 hk_.2.2 hn_)));have n1_:=am (Kd.R_mono (ok':=fun k_=>True) ho0 (fun k_ hk_=>trivial));have n2_:=am (hb);clear HO_9;clear HB;clear HO_8;have HO_9:=n0_;have HO428:=n1_;have HB:=n2_;clear n0_ n1_ n2_;(try clear hb);(try clear hkp);(try clear ho0)))
        go_ret3
        exact ⟨_,_,by first|rfl|(simp [errW_none,errW_some]<;>rfl)|(simp [*,errW_none,errW_some]<;>rfl),by (with_reducible repeat (first|apply Kd.R_alloc|apply Kd.R_drewN|apply Kd.R_drew));exact HO428.out,by (with_reducible repeat (first|apply Kd.S_alloc|apply Kd.S_drewN|apply Kd.S_drew));exact HO_9.out,bb HB⟩
def r_10_extents.l0:Nat→List Int→Int→Int→List (S24)→Int→Option ((List (S24)))
 | 0,_,_,_,_,_=>none
 | k+1,x0,x1,x2,x7,x8=>if x8 < x2 then ((r_01_At.f k x0 (wrap64 (x1+(wrap64 (12*x8)))) 4).bind fun t557=>((r_01_At.f k x0 (wrap64 ((wrap64 (x1+(wrap64 (12*x8))))+4)) 4).bind fun t558=>((r_01_At.f k x0 (wrap64 ((wrap64 (x1+(wrap64 (12*x8))))+8)) 2).bind fun t559=>(if 0≤(wrap64 ((wrap64 (x1+(wrap64 (12*x8))))+10)) then (if (wrap64 ((wrap64 (x1+(wrap64 (12*x8))))+10)) < (x0.length:Int) then (if x7.length < 4398046511104 then (r_10_extents.l0 k x0 x1 x2 (x7++[(⟨t557,t558,t559,((rd x0 (wrap64 ((wrap64 (x1+(wrap64 (12*x8))))+10)))==1)⟩:S24)]) (wrap64 (x8+1))) else (none)) else (none)) else (none))))) else (some x7)
def r_10_extents.f (k:Nat) (l0:List Int) (a1:Int) (a2:Int):Option ((List (S24))):=r_10_extents.l0 k l0 a1 a2 ([]:List (S24)) 0
def r_10_extents.T6:Bool×List (List Nat×List Nat):=(true,[([],[]),([],[]),([],[]),([1,2],[1,2]),([],[]),([],[]),([5],[5]),([4,6,3],[4,6]),([],[]),([],[]),([9],[9]),([8,10,7],[8,10]),([],[]),([],[]),([13],[13]),([12,14],[12,14]),([15],[15]),([16],[16]),([3,7,11,17],[3,7,11,17]),([18],[18]),([0,19,11],[0,19]),([20,20,0,1,2,3,4,5,6,7,8,9,10,11,12,13,14,15,16,17,18,19,20],[0,20])])
def r_10_extents.B6:List Nat:=[0,0,0,6,0,0,32,126,0,0,512,2046,0,0,8192,28672,61440,126976,262142,524286,1048575,2097151]
theorem r_10_extents.tab6:rtab .any (opsOf Try.f63 6)=r_10_extents.T6:=by kernel_rfl
theorem r_10_extents.bits6:waitsOk r_10_extents.T6.2 r_10_extents.B6=true:=by kernel_rfl
set_option maxHeartbeats 8000000 in
set_option maxRecDepth 100000 in
theorem r_10_extents.calls (k:Nat) (A0:Option Addr) (c0:Nat) (l0:List Int) (a1:Int) (a2:Int) (r:List (S24)) (w:World) (hr0:Kd.C (Kd.int .u8) w A0 l0.length l0) (hc0:l0.length≤c0) (h:r_10_extents.f k l0 a1 a2=some r) :
  Calls Try.prog 63 #[.slice A0 l0.length c0,.int .i64 a1,.int .i64 a2] w fun e w'=>∃ v0_:Value,e=.returned (v0_)∧Kd.R k24 24 w' w.heap.size (fun _=>True) v0_ r∧Below w.heap.size w w':=by
 have hu24:=Try.underlying24
 have HR0:=am hr0
 have HC0:=am hc0
 clear hr0 hc0
 have HB:=am (Below.refl w.heap.size w)
 have H:(r_10_extents.l0 k l0 a1 a2 ([]:List (S24)) 0)=some r:=h
 clear h
 have H':=am H
 clear H
 go_enter Try.func63,Try.ntmps63
 go_wp2
 go_loopg [7,8] k (fun kq v7 v8 w'=>∃ (x7_1:List (S24)) (x8_1:Int),v8=.int .i64 x8_1∧Aside0 (r_10_extents.l0 kq l0 a1 a2 x7_1 x8_1=some r)∧Aside0 (kq≤k)∧Aside0 (Kd.R k24 24 w' w.heap.size (fun _=>True) v7 x7_1)∧Aside0 (Below w.heap.size w w'))
 case atStart=>exact ⟨(([]:List (S24))),(0),(by first|rfl|(simp;done)|(simp [*];done)),H',⟨Nat.le_refl _⟩,⟨by first|exact Kd.R_nil _ _ _ _ _|exact Kd.N_nil _ _ _ _ _|exact Kd.V_nil _ _ _ _ _|exact Kd.Q_nil _ _ _ _ _|exact Kd.S_nil _ _ _ _ _⟩,⟨bb HB⟩⟩
 case round =>
  clear H'
  try clear p2
  obtain ⟨x7_1,x8_1,rfl,HA,HK1,HO_7,HB⟩:=hrel
  cases gk with
  | zero=>exact absurd HA.out (by intro h_;cases h_)
  | succ k1 =>
   have H:=HA.out
   clear HA
   simp only [r_10_extents.l0] at H
   by_cases c4:x8_1 < a2
   ·rw [if_pos c4] at H
    have c4b0:decide (x8_1 < a2)=true:=decide_eq_true c4
    clear c4
    replace H:=Option.bind_eq_some_iff.mp H
    obtain ⟨t557,A50,H⟩:=H
    replace H:((r_01_At.f k1 l0 (wrap64 ((wrap64 (a1+(wrap64 (12*x8_1))))+4)) 4).bind fun t558=>((r_01_At.f k1 l0 (wrap64 ((wrap64 (a1+(wrap64 (12*x8_1))))+8)) 2).bind fun t559=>(if 0≤(wrap64 ((wrap64 (a1+(wrap64 (12*x8_1))))+10)) then (if (wrap64 ((wrap64 (a1+(wrap64 (12*x8_1))))+10)) < (l0.length:Int) then (if x7_1.length < 4398046511104 then (r_10_extents.l0 k1 l0 a1 a2 (x7_1++[(⟨t557,t558,t559,((rd l0 (wrap64 ((wrap64 (a1+(wrap64 (12*x8_1))))+10)))==1)⟩:S24)]) (wrap64 (x8_1+1))) else (none)) else (none)) else (none))))=some r:=H
    have A5:=am A50
    clear A50
    replace H:=Option.bind_eq_some_iff.mp H
    obtain ⟨t558,A60,H⟩:=H
    replace H:((r_01_At.f k1 l0 (wrap64 ((wrap64 (a1+(wrap64 (12*x8_1))))+8)) 2).bind fun t559=>(if 0≤(wrap64 ((wrap64 (a1+(wrap64 (12*x8_1))))+10)) then (if (wrap64 ((wrap64 (a1+(wrap64 (12*x8_1))))+10)) < (l0.length:Int) then (if x7_1.length < 4398046511104 then (r_10_extents.l0 k1 l0 a1 a2 (x7_1++[(⟨t557,t558,t559,((rd l0 (wrap64 ((wrap64 (a1+(wrap64 (12*x8_1))))+10)))==1)⟩:S24)]) (wrap64 (x8_1+1))) else (none)) else (none)) else (none)))=some r:=H
    have A6:=am A60
    clear A60
    replace H:=Option.bind_eq_some_iff.mp H
    obtain ⟨t559,A70,H⟩:=H
    replace H:(if 0≤(wrap64 ((wrap64 (a1+(wrap64 (12*x8_1))))+10)) then (if (wrap64 ((wrap64 (a1+(wrap64 (12*x8_1))))+10)) < (l0.length:Int) then (if x7_1.length < 4398046511104 then (r_10_extents.l0 k1 l0 a1 a2 (x7_1++[(⟨t557,t558,t559,((rd l0 (wrap64 ((wrap64 (a1+(wrap64 (12*x8_1))))+10)))==1)⟩:S24)]) (wrap64 (x8_1+1))) else (none)) else (none)) else (none))=some r:=H
    have A7:=am A70
    clear A70
    obtain ⟨ji8,hji8⟩:∃ j_:Int,(wrap64 ((wrap64 (a1+(wrap64 (12*x8_1))))+10))=j_:=⟨_,rfl⟩
    replace H:(if 0≤(ji8) then (if (ji8) < (l0.length:Int) then (if x7_1.length < 4398046511104 then (r_10_extents.l0 k1 l0 a1 a2 (x7_1++[(⟨t557,t558,t559,((rd l0 (ji8))==1)⟩:S24)]) (wrap64 (x8_1+1))) else (none)) else (none)) else (none))=some r:=by first|(rw [hji8] at H;exact H)|(simp only [hji8] at H ⊢;exact H)
    (try rw [hji8] at A5)
    (try rw [hji8] at A6)
    (try rw [hji8] at A7)
    have hji8w:(IntKind.i64.wrap ((wrap64 (a1+(wrap64 (12*x8_1))))+10))=ji8:=(i64_w _).trans hji8
    (try rw [hji8] at c4b0)
    by_cases c9:0≤(ji8)
    ·rw [if_pos c9] at H
     have c9b0:decide (0≤(ji8))=true:=decide_eq_true c9
     clear c9
     by_cases c10:(ji8) < (l0.length:Int)
     ·rw [if_pos c10] at H
      have c10b0:decide ((ji8) < (l0.length:Int))=true:=decide_eq_true c10
      clear c10
      by_cases c11:x7_1.length < 4398046511104
      ·rw [if_pos c11] at H
       have LMc11:=am c11
       clear c11
       obtain ⟨y561,hy561⟩:∃ y_:List (S24),y_=(x7_1++[(⟨t557,t558,t559,((rd l0 (ji8))==1)⟩:S24)]):=⟨_,rfl⟩
       replace H:(r_10_extents.l0 k1 l0 a1 a2 y561 (wrap64 (x8_1+1)))=some r:=by first|(rw [hy561];with_reducible exact H)|(have H2_:=(Option.bind_some _ _).symm.trans H;rw [hy561];with_reducible exact H2_)|(have H2_:=(Option.bind_some _ _).symm.trans H;with_reducible exact H2_)|with_reducible exact H|(rw [hy561];exact H)|exact H
       have Ny561:=am hy561
       clear hy561
       have H':=am H
       clear H
       try go_wp2
       have n0_:=am (Kd.R_drew HO_7.out)
       have n1_:=am (below_drew1 HB.out)
       clear HO_7;clear HB;have HO_7:=n0_;have HB:=n1_;clear n0_ n1_
       have p560:0≤((ji8):Int):=od
       have q560:(ji8) < (l0.length:Int):=od
       obtain ⟨ad560,e560,hx560_0⟩:=Kd.at_int HR0.out (ji8) p560 q560
       have hw560_0:=hx560_0
       cases e560
       replace hx560_0:=hB HB hx560_0
       replace p560:=eq_true p560;replace q560:=eq_true q560
       refine start_ (n:=22) (S:=fun w'=>w'.cell? (ad560.add ((ji8)).toNat)=some (.int .u8 (rd l0 (ji8)))) (ds:=[]) _ (by kernel_rfl) rfl rfl ((hB HB hw560_0)) (fun hHeld=>?_);refine with_tabW r_10_extents.tab6 r_10_extents.bits6 (fun HT_ HW_=>?_)
       generalize wr.drew=w12 at HO_7 HB hx560_0 hHeld ⊢
       refine pS 0 19 HT_ ?_;refine pS 1 20 HT_ ?_;refine pS 2 21 HT_ ?_;refine pS 4 23 HT_ ?_;refine pS 5 24 HT_ ?_;refine pS 6 25 HT_ ?_;refine pS 8 27 HT_ ?_;refine pS 9 28 HT_ ?_;refine pS 10 29 HT_ ?_;refine pS 12 31 HT_ ?_;refine pS 13 32 HT_ ?_;refine pS 14 33 HT_ ?_;refine pS 15 34 HT_ ?_;refine tS 16 35 HT_ HW_ hHeld ?_ (hy:=by intro w' s0;go_simp;with_reducible rfl);refine pS 17 36 HT_ ?_
       refine oS 3 (some 22) HT_ (fun K hK=>?_)
       refine gS Try.func64 #[.slice (some ad560) l0.length c0,.int .i64 (wrap64 (a1+(wrap64 (12*x8_1)))),.int .i64 4] ?_
       with_reducible refine (r_01_At.calls k1 _ _ l0 (wrap64 (a1+(wrap64 (12*x8_1)))) 4 t557 _ ?side1 ?side2 A5.out).mono ?_
       (case side1=>exact cc (Kd.C_below HR0.out HB.out))
       (case side2=>exact HC0.out)
       rintro e w' ⟨rfl,⟨nd,rfl⟩⟩
       refine ⟨_,rfl,?_⟩
       refine hK.out _ _ ((hB HB hw560_0)) (fun hHeld=>?_)
       clear hK K;refine norm_ (a':=?_) ?_ ?_;rotate_left
       ·show Act.put _ (some 22) _=_
        simp only [Act.put,sIb,sC0,sCs,i64_w,i32_w];rfl
       refine oS 7 (some 26) HT_ (fun K hK=>?_)
       refine gS Try.func64 #[.slice (some ad560) l0.length c0,.int .i64 (wrap64 ((wrap64 (a1+(wrap64 (12*x8_1))))+4)),.int .i64 4] ?_
       with_reducible refine (r_01_At.calls k1 _ _ l0 (wrap64 ((wrap64 (a1+(wrap64 (12*x8_1))))+4)) 4 t558 _ ?side1 ?side2 A6.out).mono ?_
       (case side1=>repeat (first|exact (Kd.C_below HR0.out (bb HB))|(with_reducible refine Kd.C_alloc ?_ _)|(with_reducible refine Kd.C_drewN ?_ _)|(with_reducible refine Kd.C_drew ?_)))
       (case side2=>exact HC0.out)
       rintro e w' ⟨rfl,⟨nd,rfl⟩⟩
       refine ⟨_,rfl,?_⟩
       refine hK.out _ _ ((hB HB hw560_0)) (fun hHeld=>?_)
       clear hK K;refine norm_ (a':=?_) ?_ ?_;rotate_left
       ·show Act.put _ (some 26) _=_
        simp only [Act.put,sIb,sC0,sCs,i64_w,i32_w];rfl
       refine oS 11 (some 30) HT_ (fun K hK=>?_)
       refine gS Try.func64 #[.slice (some ad560) l0.length c0,.int .i64 (wrap64 ((wrap64 (a1+(wrap64 (12*x8_1))))+8)),.int .i64 2] ?_
       with_reducible refine (r_01_At.calls k1 _ _ l0 (wrap64 ((wrap64 (a1+(wrap64 (12*x8_1))))+8)) 2 t559 _ ?side1 ?side2 A7.out).mono ?_
       (case side1=>repeat (first|exact (Kd.C_below HR0.out (bb HB))|(with_reducible refine Kd.C_alloc ?_ _)|(with_reducible refine Kd.C_drewN ?_ _)|(with_reducible refine Kd.C_drew ?_)))
       (case side2=>exact HC0.out)
       rintro e w' ⟨rfl,⟨nd,rfl⟩⟩
       refine ⟨_,rfl,?_⟩
       refine hK.out _ _ ((hB HB hw560_0)) (fun hHeld=>?_)
       clear hK K;refine norm_ (a':=?_) ?_ ?_;rotate_left
       ·show Act.put _ (some 30) _=_
        simp only [Act.put,sIb,sC0,sCs,i64_w,i32_w];rfl
       refine pS 18 37 HT_ ?_
       refine oS 19 (some 38) HT_ (fun K hK=>?_)
       refine value_ (w1:=?_) (v:=?_) (by rfl) rfl ?_ ?_
       rotate_left 2
       ·go_simp
        constructor;(rfl);(rfl)
       refine hK.out _ _ ((World.cell?_alloc_lt _ _ _ (World.block_lt_of_cell? _ _ ((hB HB hw560_0)))).trans ((hB HB hw560_0))) (fun hHeld=>?_)
       clear hK K;refine norm_ (a':=?_) ?_ ?_;rotate_left
       ·show Act.put _ (some 38) _=_
        simp only [Act.put,sIb,sC0,sCs,i64_w,i32_w];rfl
       refine oS 20 (some 39) HT_ (fun K hK=>?_)
       refine Kd.R_append_step k24 (w0:=w) w.heap.size (by rfl) (.tmp 19) (.tmp 38) 22 24 (.agg #[(.int .i64 0),(.int .i64 0),(.int .i64 0),(.bool false)]) 32 rfl Try.underlying22 info24 rfl (by decide) (by omega) u7 x7_1 (⟨t557,t558,t559,((rd l0 (ji8))==1)⟩:S24) [.int .i64 t557,.int .i64 t558,.int .i64 t559,.bool ((rd l0 (ji8))==1)] (fun _=>True) (fun _=>False) rfl rfl ?aP (fun _ hk=>hk.elim) ?aF ?aO ?aB ?aS ?aL ?_
       (case aP=>exact k24_mkM _ _ _ (⟨t557,t558,t559,((rd l0 (ji8))==1)⟩:S24))
       (case aB=>exact (bb HB))
       (case aF=>exact (fun _ _=>trivial))
       (case aO=>exact (rR HO_7))
       (case aS=>exact (bz HB))
       (case aL=>have:=LMc11.out;omega)
       intro v562 w13 ho hb hg hat
       rw [← Ny561.out] at ho
       have n0_:=am (hb)
       have n1_:=am (ho)
       clear HB;clear HO_7;have HB:=n0_;have HO563:=n1_;clear n0_ n1_;clear ho hb hg hat
       refine hK.out _ _ ((hB HB hw560_0)) (fun hHeld=>?_)
       clear hK K;refine norm_ (a':=?_) ?_ ?_;rotate_left
       ·show Act.put _ (some 39) _=_
        simp only [Act.put,sIb,sC0,sCs,i64_w,i32_w];rfl
       refine pS 21 7 HT_ ?_
       refine done_ (done_of HT_.out (by kernel_rfl)) ?_
       try go_wp2
       go_roundg k1
       case measure=>have:=HK1.out;omega
       case rel=>exact ⟨(y561),(wrap64 (x8_1+1)),(by first|rfl|(simp;done)|(simp [*];done)),H',⟨by have:=HK1.out;omega⟩,⟨by (with_reducible repeat (first|apply Kd.R_alloc|apply Kd.R_drewN|apply Kd.R_drew));exact HO563.out⟩,⟨bb HB⟩⟩
      ·rw [if_neg c11] at H
       exact absurd H (by simp)
     ·rw [if_neg c10] at H
      exact absurd H (by simp)
    ·rw [if_neg c9] at H
     exact absurd H (by simp)
   ·rw [if_neg c4] at H
    have c4b0:decide (x8_1 < a2)=false:=decide_eq_false c4
    clear c4;obtain rfl:=Option.some.inj H;go_wp2;go_ret
    exact ⟨_,by first|rfl|(simp [errW_none,errW_some]<;>rfl)|(simp [*,errW_none,errW_some]<;>rfl),by (with_reducible repeat (first|apply Kd.R_alloc|apply Kd.R_drewN|apply Kd.R_drew));exact HO_7.out,bb HB⟩
mutual
def r_10_Root.j0:Nat→List Int→Int→Bool→Option ((List (S24))×List Int×Int)
 | 0,_,_,_=>none
 | k+1,x0,x5,x27=>if x27=true then ((r_10_extents.f k x0 4 x5).bind fun t566=>((r_10_Store.f k t566 ([]:List Int)).bind fun bt569=>(if bt569.2.2=0 then (if (strOfNums bt569.1).toList=(strOfNums x0).toList then (some (t566,([]:List Int),0)) else (some (([]:List (S24)),([]:List Int),13))) else (some (([]:List (S24)),([]:List Int),13))))) else (if x5 < 1 then (r_10_Root.j1 k x0 x5 true) else (r_10_Root.j1 k x0 x5 (decide (x5 > 3))))
def r_10_Root.j1:Nat→List Int→Int→Bool→Option ((List (S24))×List Int×Int)
 | 0,_,_,_=>none
 | k+1,x0,x5,x52=>if x52=true then (some (([]:List (S24)),([]:List Int),13)) else (r_10_Root.l0 k x0 x5 ([]:List Int) (([(x5) % 256,0,1,0]:List Int)) 0)
def r_10_Root.l0:Nat→List Int→Int→List Int→List Int→Int→Option ((List (S24))×List Int×Int)
 | 0,_,_,_,_,_=>none
 | k+1,x0,x5,x10,x11,x12=>if x12 < x5 then ((r_01_At.f k x0 (wrap64 (4+(wrap64 (4*x12)))) 4).bind fun t579=>(if x10.length < 17592186044416 then ((some (x10++[t579]:List Int)).bind fun y580=>(if 0≤x12 then (if x12 < (y580.length:Int) then ((r_01_Bytes.f k (IntKind.u64.wrap (rd y580 x12)) 4).bind fun t584=>(if x11.length+t584.length < 140737488355328 then (r_10_Root.l0 k x0 x5 y580 (x11++t584) (wrap64 (x12+1))) else (none))) else (none)) else (none))) else (none))) else ((r_10_numbers.f k x10).bind fun t590=>(if t590=true then ((r_10_filled.f k x11 60).bind fun t591=>(if (strOfNums t591).toList=(strOfNums x0).toList then (some (([]:List (S24)),x10,0)) else (some (([]:List (S24)),([]:List Int),13)))) else (some (([]:List (S24)),([]:List Int),13))))
end
def r_10_Root.f (k:Nat) (l0:List Int):Option ((List (S24))×List Int×Int):=if (l0.length:Int)=60 then (if 0 < (l0.length:Int) then (if 2 < (l0.length:Int) then (if (rd l0 2)=0 then (r_10_Root.j0 k l0 (wrap64 (rd l0 0)) (decide ((wrap64 (rd l0 0))≤4))) else (r_10_Root.j0 k l0 (wrap64 (rd l0 0)) false)) else (none)) else (none)) else (some (([]:List (S24)),([]:List Int),13))
def r_10_Root.T19:Bool×List (List Nat×List Nat):=(true,[([],[]),([0],[0]),([1],[1]),([2,1],[2]),([3],[3]),([4,3,3],[3,4]),([5,3],[3,5]),([3],[3]),([7,3],[3,7]),([6,8,3],[3,6,8]),([3,9],[3,9])])
def r_10_Root.B19:List Nat:=[0,1,3,7,15,31,63,15,143,511,1023]
theorem r_10_Root.tab19:rtab .any (opsOf Try.f32 19)=r_10_Root.T19:=by kernel_rfl
theorem r_10_Root.bits19:waitsOk r_10_Root.T19.2 r_10_Root.B19=true:=by kernel_rfl
set_option maxHeartbeats 8000000 in
set_option maxRecDepth 100000 in
theorem r_10_Root.calls (k:Nat) (A0:Option Addr) (c0:Nat) (l0:List Int) (r1:List (S24)) (r2:List Int) (r3:Int) (w:World) (hr0:Kd.C (Kd.int .u8) w A0 l0.length l0) (hc0:l0.length≤c0) (h:r_10_Root.f k l0=some (r1,r2,r3)) :
  Calls Try.prog 32 #[.slice A0 l0.length c0] w fun e w'=>∃ v0_ v1_:Value,e=.returned (.tuple #[v0_,v1_,.int .i64 r3])∧Kd.R k24 24 w' w.heap.size (fun _=>True) v0_ r1∧Kd.R (Kd.int .i64) 3 w' w.heap.size (fun _=>True) v1_ r2∧Below w.heap.size w w':=by
 have HR0:=am hr0
 have HC0:=am hc0
 clear hr0 hc0
 have HB:=am (Below.refl w.heap.size w)
 have H:(if (l0.length:Int)=60 then (if 0 < (l0.length:Int) then (if 2 < (l0.length:Int) then (if (rd l0 2)=0 then (r_10_Root.j0 k l0 (wrap64 (rd l0 0)) (decide ((wrap64 (rd l0 0))≤4))) else (r_10_Root.j0 k l0 (wrap64 (rd l0 0)) false)) else (none)) else (none)) else (some (([]:List (S24)),([]:List Int),13)))=some (r1,r2,r3):=h
 clear h
 by_cases c2:(l0.length:Int)=60
 ·rw [if_pos c2] at H
  have c2b0:((l0.length:Int)==60)=true:=beq_iff_eq.mpr c2
  have c2b1:((l0.length:Int) != 60)=false:=bne_eq_false_iff_eq.mpr c2
  clear c2
  by_cases c3:0 < (l0.length:Int)
  ·rw [if_pos c3] at H
   have c3b0:decide (0 < (l0.length:Int))=true:=decide_eq_true c3
   have c3b1:decide (0 < l0.length)=true:=decide_eq_true (by omega)
   clear c3
   have HC4:=am H
   clear H
   have p564:0≤(0:Int):=(by omega)
   have q564:0 < (l0.length:Int):=od
   obtain ⟨ad564,e564,hx564_0⟩:=Kd.at_int HR0.out 0 p564 q564
   cases e564
   have qi564:(0 < l0.length)=True:=eq_true (by omega)
   (try rw [show ((0:Int)).toNat=0 from rfl] at hx564_0)
   (try rw [Addr.add_zero'] at hx564_0)
   replace p564:=eq_true p564;replace q564:=eq_true q564
   go_enter Try.func32,Try.ntmps32
   go_upto_region 4 with (fail)
   go_cut [27] (fun v27 wc=>∃ (kq:Nat) (x27_3:Bool),v27=.bool x27_3∧Aside0 (r_10_Root.j0 kq l0 (wrap64 (rd l0 0)) x27_3=some (r1,r2,r3))∧Aside0 (kq≤k)∧Aside0 (Below w.heap.size w wc))
   case first =>
    have H:=HC4.out
    clear HC4
    by_cases c5:2 < (l0.length:Int)
    ·rw [if_pos c5] at H
     have c5b0:decide (2 < (l0.length:Int))=true:=decide_eq_true c5
     have c5b1:decide (2 < l0.length)=true:=decide_eq_true (by omega)
     clear c5
     (first|rw [c5b0]|(simp only [i64_w,i32_w];rw [c5b0])|skip)
     by_cases c6:(rd l0 2)=0
     ·rw [if_pos c6] at H
      have c6b0:((rd l0 2)==0)=true:=beq_iff_eq.mpr c6
      have c6b1:((rd l0 2) != 0)=false:=bne_eq_false_iff_eq.mpr c6
      clear c6
      have H':=am H
      clear H
      have p565:0≤(2:Int):=(by omega)
      have q565:2 < (l0.length:Int):=od
      obtain ⟨ad565,e565,hx565_0⟩:=Kd.at_int HR0.out 2 p565 q565
      obtain rfl:ad564=ad565:=(by injection e565)
      (try simp only [show (2:Int).toNat=2 from rfl,Nat.reduceMul,Nat.reduceEqDiff,Go.Addr.add,↓reduceIte] at hx565_0)
      have qi565:(2 < l0.length)=True:=eq_true (by omega)
      (try rw [show ((2:Int)).toNat=2 from rfl] at hx565_0)
      replace hx565_0:=hB HB hx565_0
      replace p565:=eq_true p565;replace q565:=eq_true q565;go_wp2
      go_meet
      case rel=>exact ⟨_,(decide ((wrap64 (rd l0 0))≤4)),(by first|rfl|(simp;done)|(simp [*];done)),H',⟨by first|omega|exact Nat.le_refl _⟩,⟨bb HB⟩⟩
     ·rw [if_neg c6] at H
      have c6b0:((rd l0 2)==0)=false:=beq_eq_false_iff_ne.mpr c6
      have c6b1:((rd l0 2) != 0)=true:=bne_iff_ne.mpr c6
      have H':=am H
      clear H
      have p565:0≤(2:Int):=(by omega)
      have q565:2 < (l0.length:Int):=od
      obtain ⟨ad565,e565,hx565_0⟩:=Kd.at_int HR0.out 2 p565 q565
      obtain rfl:ad564=ad565:=(by injection e565)
      (try simp only [show (2:Int).toNat=2 from rfl,Nat.reduceMul,Nat.reduceEqDiff,Go.Addr.add,↓reduceIte] at hx565_0)
      have qi565:(2 < l0.length)=True:=eq_true (by omega)
      (try rw [show ((2:Int)).toNat=2 from rfl] at hx565_0)
      replace hx565_0:=hB HB hx565_0
      replace p565:=eq_true p565;replace q565:=eq_true q565;go_wp2
      go_meet
      case rel=>exact ⟨_,(false),(by first|rfl|(simp;done)|(simp [*];done)),H',⟨by first|omega|exact Nat.le_refl _⟩,⟨bb HB⟩⟩
    ·rw [if_neg c5] at H
     exact absurd H (by simp)
   case rest =>
    clear HC4
    try clear c2
    try clear c2b0
    try clear c2b1
    try clear p2
    try clear c3
    try clear c3b0
    try clear c3b1
    try clear c5
    try clear c5b0
    try clear c5b1
    try clear p5
    try clear q5
    try clear hx5
    try clear qi5
    try clear c6
    try clear c6b0
    try clear c6b1
    try clear p6
    try clear hx564_0
    try clear hx565_0
    try clear p564
    try clear p565
    try clear q564
    try clear q565
    obtain ⟨kq,x27_3,rfl,HA,HJ3,HB⟩:=hcut
    cases kq with
    | zero=>exact absurd HA.out (by intro h_;cases h_)
    | succ kj3 =>
     have H:=HA.out
     clear HA
     simp only [r_10_Root.j0] at H
     by_cases c7:x27_3=true
     ·subst c7
      have H1:((r_10_extents.f kj3 l0 4 (wrap64 (rd l0 0))).bind fun t566=>((r_10_Store.f kj3 t566 ([]:List Int)).bind fun bt569=>(if bt569.2.2=0 then (if (strOfNums bt569.1).toList=(strOfNums l0).toList then (some (t566,([]:List Int),0)) else (some (([]:List (S24)),([]:List Int),13))) else (some (([]:List (S24)),([]:List Int),13)))))=some (r1,r2,r3):=by rw [if_pos rfl] at H;exact H
      clear H;have H:=H1;clear H1
      replace H:=Option.bind_eq_some_iff.mp H
      obtain ⟨t566,A80,H⟩:=H
      replace H:((r_10_Store.f kj3 t566 ([]:List Int)).bind fun bt569=>(if bt569.2.2=0 then (if (strOfNums bt569.1).toList=(strOfNums l0).toList then (some (t566,([]:List Int),0)) else (some (([]:List (S24)),([]:List Int),13))) else (some (([]:List (S24)),([]:List Int),13))))=some (r1,r2,r3):=H
      have A8:=am A80
      clear A80
      replace H:=Option.bind_eq_some_iff.mp H
      obtain ⟨⟨t569,t570,t571⟩,A90,H⟩:=H
      replace H:(if t571=0 then (if (strOfNums t569).toList=(strOfNums l0).toList then (some (t566,([]:List Int),0)) else (some (([]:List (S24)),([]:List Int),13))) else (some (([]:List (S24)),([]:List Int),13)))=some (r1,r2,r3):=H
      have A9:=am A90
      clear A90
      by_cases c10:t571=0
      ·rw [if_pos c10] at H
       have c10b0:(t571==0)=true:=beq_iff_eq.mpr c10
       have c10b1:(t571 != 0)=false:=bne_eq_false_iff_eq.mpr c10
       clear c10
       by_cases c11:(strOfNums t569).toList=(strOfNums l0).toList
       ·rw [if_pos c11] at H
        have c11b0:((strOfNums t569).toList==(strOfNums l0).toList)=true:=beq_iff_eq.mpr c11
        have c11b1:((strOfNums t569).toList != (strOfNums l0).toList)=false:=bne_eq_false_iff_eq.mpr c11
        clear c11
        simp only [Option.some.injEq,Prod.mk.injEq] at H
        obtain ⟨rfl,rfl,rfl⟩:=H
        go_wp2_with (first|((with_reducible refine gate_callee (f:=63) rfl ?_);refine goesL_ (some 30) rfl rfl Try.func63 (by kernel_rfl) rfl #[.slice (some ad564) l0.length c0,.int .i64 4,.int .i64 (wrap64 (rd l0 0))] rfl (by (try simp only [List.map_toArray,List.map_cons,List.map_nil]);first|done|rfl|(simp only [List.length_drop,List.length_take];rfl)) ?_;(with_reducible refine (r_10_extents.calls kj3 _ _ l0 4 (wrap64 (rd l0 0)) t566 _ ?side1 ?side2 A8.out).mono ?_);(case side1=>exact cc (Kd.C_below HR0.out HB.out));(case side2=>exact HC0.out);rintro e w12 ⟨v567,rfl,ho0,hb⟩;refine ⟨_,rfl,?_⟩;have n0_:=am (Kd.R_lower ho0 (bz HB));have n1_:=bst HB hb;clear HB;have HO568:=n0_;have HB:=n1_;clear n0_ n1_;(try clear hb);(try clear hb2);(try clear hk);(try clear hi);(try clear ho0);obtain ⟨Ao13,co13,eo13⟩:=Kd.R_slice HO568.out;subst eo13)|((with_reducible refine gate_callee (f:=28) rfl ?_);refine goesL_ (some 33) rfl rfl Try.func28 (by kernel_rfl) rfl #[.slice Ao13 t566.length co13,.slice none 0 0] rfl (by (try simp only [List.map_toArray,List.map_cons,List.map_nil]);first|done|rfl|(simp only [List.length_drop,List.length_take];rfl)) ?_;(refine (r_10_Store.calls kj3 _ _ t566 _ _ ([]:List Int) t569 t570 t571 _ ?side1 ?side2 ?side3 ?side4 A9.out).mono ?_);(case side1=>exact cc (Kd.R_reads' HO568.out).2.2);(case side2=>exact (Kd.R_reads' HO568.out).2.1);(case side3=>exact Kd.C_nil _ _);(case side4=>exact Nat.le_refl _);rintro e w14 ⟨v572,v574,rfl,ho0,ho1,hb⟩;refine ⟨_,rfl,?_⟩;have n0_:=am (Kd.R_below (rR HO568) hb);have n1_:=am (Kd.R_lower ho0 (bz HB));have n2_:=am (Kd.S_lower ho1 (bz HB));have n3_:=bst HB hb;clear HO568;clear HB;have HO568:=n0_;have HO573:=n1_;have HO575:=n2_;have HB:=n3_;clear n0_ n1_ n2_ n3_;(try clear hb);(try clear hb2);(try clear hk);(try clear hi);(try clear ho0);(try clear ho1);have hcv15:=own_string (P:=Try.prog) Try.underlying46 Try.underlying5 Try.underlying9 (Kd.own_of_R HO573.out);have hcv16:=Kd.C_string (P:=Try.prog) (A:=(some ad564)) (c:=c0) Try.underlying46 Try.underlying5 Try.underlying9 (Kd.C_below HR0.out HB.out)))
        go_ret3
        exact ⟨_,_,by first|rfl|(simp [errW_none,errW_some]<;>rfl)|(simp [*,errW_none,errW_some]<;>rfl),by (with_reducible repeat (first|apply Kd.R_alloc|apply Kd.R_drewN|apply Kd.R_drew));exact HO568.out,by first|exact Kd.R_nil _ _ _ _ _|exact Kd.N_nil _ _ _ _ _|exact Kd.V_nil _ _ _ _ _|exact Kd.Q_nil _ _ _ _ _|exact Kd.S_nil _ _ _ _ _,bb HB⟩
       ·rw [if_neg c11] at H
        have c11b0:((strOfNums t569).toList==(strOfNums l0).toList)=false:=beq_eq_false_iff_ne.mpr c11
        have c11b1:((strOfNums t569).toList != (strOfNums l0).toList)=true:=bne_iff_ne.mpr c11
        simp only [Option.some.injEq,Prod.mk.injEq] at H
        obtain ⟨rfl,rfl,rfl⟩:=H
        go_wp2_with (first|((with_reducible refine gate_callee (f:=63) rfl ?_);refine goesL_ (some 30) rfl rfl Try.func63 (by kernel_rfl) rfl #[.slice (some ad564) l0.length c0,.int .i64 4,.int .i64 (wrap64 (rd l0 0))] rfl (by (try simp only [List.map_toArray,List.map_cons,List.map_nil]);first|done|rfl|(simp only [List.length_drop,List.length_take];rfl)) ?_;(with_reducible refine (r_10_extents.calls kj3 _ _ l0 4 (wrap64 (rd l0 0)) t566 _ ?side1 ?side2 A8.out).mono ?_);(case side1=>exact cc (Kd.C_below HR0.out HB.out));(case side2=>exact HC0.out);rintro e w17 ⟨v567,rfl,ho0,hb⟩;refine ⟨_,rfl,?_⟩;have n0_:=am (Kd.R_lower ho0 (bz HB));have n1_:=bst HB hb;clear HB;have HO568:=n0_;have HB:=n1_;clear n0_ n1_;(try clear hb);(try clear hb2);(try clear hk);(try clear hi);(try clear ho0);obtain ⟨Ao18,co18,eo18⟩:=Kd.R_slice HO568.out;subst eo18)|((with_reducible refine gate_callee (f:=28) rfl ?_);refine goesL_ (some 33) rfl rfl Try.func28 (by kernel_rfl) rfl #[.slice Ao18 t566.length co18,.slice none 0 0] rfl (by (try simp only [List.map_toArray,List.map_cons,List.map_nil]);first|done|rfl|(simp only [List.length_drop,List.length_take];rfl)) ?_;(refine (r_10_Store.calls kj3 _ _ t566 _ _ ([]:List Int) t569 t570 t571 _ ?side1 ?side2 ?side3 ?side4 A9.out).mono ?_);(case side1=>exact cc (Kd.R_reads' HO568.out).2.2);(case side2=>exact (Kd.R_reads' HO568.out).2.1);(case side3=>exact Kd.C_nil _ _);(case side4=>exact Nat.le_refl _);rintro e w19 ⟨v572,v574,rfl,ho0,ho1,hb⟩;refine ⟨_,rfl,?_⟩;have n0_:=am (Kd.R_below (rR HO568) hb);have n1_:=am (Kd.R_lower ho0 (bz HB));have n2_:=am (Kd.S_lower ho1 (bz HB));have n3_:=bst HB hb;clear HO568;clear HB;have HO568:=n0_;have HO573:=n1_;have HO575:=n2_;have HB:=n3_;clear n0_ n1_ n2_ n3_;(try clear hb);(try clear hb2);(try clear hk);(try clear hi);(try clear ho0);(try clear ho1);have hcv20:=own_string (P:=Try.prog) Try.underlying46 Try.underlying5 Try.underlying9 (Kd.own_of_R HO573.out);have hcv21:=Kd.C_string (P:=Try.prog) (A:=(some ad564)) (c:=c0) Try.underlying46 Try.underlying5 Try.underlying9 (Kd.C_below HR0.out HB.out)))
        go_ret3
        exact ⟨_,_,by first|rfl|(simp [errW_none,errW_some]<;>rfl)|(simp [*,errW_none,errW_some]<;>rfl),by first|exact Kd.R_nil _ _ _ _ _|exact Kd.N_nil _ _ _ _ _|exact Kd.V_nil _ _ _ _ _|exact Kd.Q_nil _ _ _ _ _|exact Kd.S_nil _ _ _ _ _,by first|exact Kd.R_nil _ _ _ _ _|exact Kd.N_nil _ _ _ _ _|exact Kd.V_nil _ _ _ _ _|exact Kd.Q_nil _ _ _ _ _|exact Kd.S_nil _ _ _ _ _,bb HB⟩
      ·rw [if_neg c10] at H
       have c10b0:(t571==0)=false:=beq_eq_false_iff_ne.mpr c10
       have c10b1:(t571 != 0)=true:=bne_iff_ne.mpr c10
       simp only [Option.some.injEq,Prod.mk.injEq] at H
       obtain ⟨rfl,rfl,rfl⟩:=H
       go_wp2_with (first|((with_reducible refine gate_callee (f:=63) rfl ?_);refine goesL_ (some 30) rfl rfl Try.func63 (by kernel_rfl) rfl #[.slice (some ad564) l0.length c0,.int .i64 4,.int .i64 (wrap64 (rd l0 0))] rfl (by (try simp only [List.map_toArray,List.map_cons,List.map_nil]);first|done|rfl|(simp only [List.length_drop,List.length_take];rfl)) ?_;(with_reducible refine (r_10_extents.calls kj3 _ _ l0 4 (wrap64 (rd l0 0)) t566 _ ?side1 ?side2 A8.out).mono ?_);(case side1=>exact cc (Kd.C_below HR0.out HB.out));(case side2=>exact HC0.out);rintro e w22 ⟨v567,rfl,ho0,hb⟩;refine ⟨_,rfl,?_⟩;have n0_:=am (Kd.R_lower ho0 (bz HB));have n1_:=bst HB hb;clear HB;have HO568:=n0_;have HB:=n1_;clear n0_ n1_;(try clear hb);(try clear hb2);(try clear hk);(try clear hi);(try clear ho0);obtain ⟨Ao23,co23,eo23⟩:=Kd.R_slice HO568.out;subst eo23)|((with_reducible refine gate_callee (f:=28) rfl ?_);refine goesL_ (some 33) rfl rfl Try.func28 (by kernel_rfl) rfl #[.slice Ao23 t566.length co23,.slice none 0 0] rfl (by (try simp only [List.map_toArray,List.map_cons,List.map_nil]);first|done|rfl|(simp only [List.length_drop,List.length_take];rfl)) ?_;(refine (r_10_Store.calls kj3 _ _ t566 _ _ ([]:List Int) t569 t570 t571 _ ?side1 ?side2 ?side3 ?side4 A9.out).mono ?_);(case side1=>exact cc (Kd.R_reads' HO568.out).2.2);(case side2=>exact (Kd.R_reads' HO568.out).2.1);(case side3=>exact Kd.C_nil _ _);(case side4=>exact Nat.le_refl _);rintro e w24 ⟨v572,v574,rfl,ho0,ho1,hb⟩;refine ⟨_,rfl,?_⟩;have n0_:=am (Kd.R_below (rR HO568) hb);have n1_:=am (Kd.R_lower ho0 (bz HB));have n2_:=am (Kd.S_lower ho1 (bz HB));have n3_:=bst HB hb;clear HO568;clear HB;have HO568:=n0_;have HO573:=n1_;have HO575:=n2_;have HB:=n3_;clear n0_ n1_ n2_ n3_;(try clear hb);(try clear hb2);(try clear hk);(try clear hi);(try clear ho0);(try clear ho1)))
       go_ret3
       exact ⟨_,_,by first|rfl|(simp [errW_none,errW_some]<;>rfl)|(simp [*,errW_none,errW_some]<;>rfl),by first|exact Kd.R_nil _ _ _ _ _|exact Kd.N_nil _ _ _ _ _|exact Kd.V_nil _ _ _ _ _|exact Kd.Q_nil _ _ _ _ _|exact Kd.S_nil _ _ _ _ _,by first|exact Kd.R_nil _ _ _ _ _|exact Kd.N_nil _ _ _ _ _|exact Kd.V_nil _ _ _ _ _|exact Kd.Q_nil _ _ _ _ _|exact Kd.S_nil _ _ _ _ _,bb HB⟩
     ·replace c7:=Bool.eq_false_iff.mpr c7
      subst c7
      have H1:(if (wrap64 (rd l0 0)) < 1 then (r_10_Root.j1 kj3 l0 (wrap64 (rd l0 0)) true) else (r_10_Root.j1 kj3 l0 (wrap64 (rd l0 0)) (decide ((wrap64 (rd l0 0)) > 3))))=some (r1,r2,r3):=by rw [if_neg (show ¬ (false=true) by decide)] at H;exact H
      clear H;have H:=H1;clear H1
      have HC25:=am H
      clear H
      go_upto_region 10 with (fail)
      go_cut [52] (fun v52 wc=>∃ (kq:Nat) (x52_24:Bool),v52=.bool x52_24∧Aside0 (r_10_Root.j1 kq l0 (wrap64 (rd l0 0)) x52_24=some (r1,r2,r3))∧Aside0 (kq≤kj3)∧Aside0 (Below w.heap.size w wc))
      case first =>
       have H:=HC25.out
       clear HC25
       by_cases c26:(wrap64 (rd l0 0)) < 1
       ·rw [if_pos c26] at H
        have c26b0:decide ((wrap64 (rd l0 0)) < 1)=true:=decide_eq_true c26
        clear c26
        (first|rw [c26b0]|(simp only [i64_w,i32_w];rw [c26b0])|skip)
        have H':=am H
        clear H;go_wp2
        go_meet
        case rel=>exact ⟨_,(true),(by first|rfl|(simp;done)|(simp [*];done)),H',⟨by have:=HJ3.out;first|omega|exact Nat.le_refl _⟩,⟨bb HB⟩⟩
       ·rw [if_neg c26] at H
        have c26b0:decide ((wrap64 (rd l0 0)) < 1)=false:=decide_eq_false c26
        clear c26
        (first|rw [c26b0]|(simp only [i64_w,i32_w];rw [c26b0])|skip)
        have H':=am H
        clear H;go_wp2
        go_meet
        case rel=>exact ⟨_,(decide ((wrap64 (rd l0 0)) > 3)),(by first|rfl|(simp;done)|(simp [*];done)),H',⟨by have:=HJ3.out;first|omega|exact Nat.le_refl _⟩,⟨bb HB⟩⟩
      case rest =>
       clear HC25
       try clear c1
       try clear hcv1
       try clear c2
       try clear c2b0
       try clear c2b1
       try clear p2
       try clear hcv2
       try clear c3
       try clear c3b0
       try clear c3b1
       try clear c5
       try clear c5b0
       try clear c5b1
       try clear p5
       try clear q5
       try clear hx5
       try clear qi5
       try clear c6
       try clear c6b0
       try clear c6b1
       try clear p6
       try clear c7
       try clear c10
       try clear c10b0
       try clear c10b1
       try clear c11
       try clear c11b0
       try clear c11b1
       try clear hcv15
       try clear hcv16
       try clear hcv20
       try clear hcv21
       try clear c26
       try clear c26b0
       try clear hx564_0
       try clear hx565_0
       try clear p2
       try clear p5
       try clear p564
       try clear p565
       try clear p6
       try clear q5
       try clear q564
       try clear q565
       obtain ⟨kq,x52_24,rfl,HA,HJ24,HB⟩:=hcut
       cases kq with
       | zero=>exact absurd HA.out (by intro h_;cases h_)
       | succ kj24 =>
        have H:=HA.out
        clear HA
        simp only [r_10_Root.j1] at H
        by_cases c27:x52_24=true
        ·subst c27
         have H1:(some (([]:List (S24)),([]:List Int),13))=some (r1,r2,r3):=by rw [if_pos rfl] at H;exact H
         clear H;have H:=H1;clear H1
         simp only [Option.some.injEq,Prod.mk.injEq] at H
         obtain ⟨rfl,rfl,rfl⟩:=H
         go_wp2
         go_ret3
         exact ⟨_,_,by first|rfl|(simp [errW_none,errW_some]<;>rfl)|(simp [*,errW_none,errW_some]<;>rfl),by first|exact Kd.R_nil _ _ _ _ _|exact Kd.N_nil _ _ _ _ _|exact Kd.V_nil _ _ _ _ _|exact Kd.Q_nil _ _ _ _ _|exact Kd.S_nil _ _ _ _ _,by first|exact Kd.R_nil _ _ _ _ _|exact Kd.N_nil _ _ _ _ _|exact Kd.V_nil _ _ _ _ _|exact Kd.Q_nil _ _ _ _ _|exact Kd.S_nil _ _ _ _ _,bb HB⟩
        ·replace c27:=Bool.eq_false_iff.mpr c27
         subst c27
         have H1:(r_10_Root.l0 kj24 l0 (wrap64 (rd l0 0)) ([]:List Int) (([((wrap64 (rd l0 0))) % 256,0,1,0]:List Int)) 0)=some (r1,r2,r3):=by rw [if_neg (show ¬ (false=true) by decide)] at H;exact H
         clear H;have H:=H1;clear H1
         obtain ⟨y576,hy576⟩:∃ y_:List Int,y_=(([((wrap64 (rd l0 0))) % 256,0,1,0]:List Int)):=⟨_,rfl⟩
         replace H:(r_10_Root.l0 kj24 l0 (wrap64 (rd l0 0)) ([]:List Int) y576 0)=some (r1,r2,r3):=by first|(rw [hy576];with_reducible exact H)|(have H2_:=(Option.bind_some _ _).symm.trans H;rw [hy576];with_reducible exact H2_)|(have H2_:=(Option.bind_some _ _).symm.trans H;with_reducible exact H2_)|with_reducible exact H|(rw [hy576];exact H)|exact H
         have Ny576:=am hy576
         clear hy576
         have H':=am H
         clear H
         go_wp2_with (first|((with_reducible refine gate_dst (N:=55) rfl ?_);refine Kd.R_lit (Kd.int .u8) _ 5 ?hg (N:=55) ?hd (xs:=([((wrap64 (rd l0 0))) % 256,0,1,0]:List Int)) (inner:=[.int .u8 (((wrap64 (rd l0 0))) % 256),.int .u8 0,.int .u8 1,.int .u8 0]) (ok:=fun _=>True) (okp:=fun _=>True) ?hr ?hp (fun _ hk=>hk) trivial (Below.refl _ _) (Nat.le_refl _) (by simp) ?_;(case hd=>rfl);(case hg=>rfl);(case hr=>first|(go_simp;done)|(go_simp;rfl));(case hp=>exact (Reps.one (show Kd.M (Kd.int .u8) _ _ _ (((wrap64 (rd l0 0))) % 256) [.int .u8 (((wrap64 (rd l0 0))) % 256)] from rfl) (Reps.one (show Kd.M (Kd.int .u8) _ _ _ 0 [.int .u8 0] from rfl) (Reps.one (show Kd.M (Kd.int .u8) _ _ _ 1 [.int .u8 1] from rfl) (Reps.one (show Kd.M (Kd.int .u8) _ _ _ 0 [.int .u8 0] from rfl) (Reps.none _ _))))));intro v577 w28 ho29 hb hg_ hnew_;clear hg_ hnew_;(first|rw [← Ny576.out] at ho29|(simp only [Int.reduceToNat] at ho29;rw [← Ny576.out] at ho29));have n0_:=am (Kd.R_lower ho29 (bz HB));have n1_:=bst HB hb;clear HB;have HO578:=n0_;have HB:=n1_;clear n0_ n1_;clear hb ho29))
         go_loopg [10,11,12] kj24 (fun kq v10 v11 v12 w'=>∃ (x10_3:List Int) (x11_3:List Int) (x12_3:Int),v12=.int .i64 x12_3∧Aside0 (r_10_Root.l0 kq l0 (wrap64 (rd l0 0)) x10_3 x11_3 x12_3=some (r1,r2,r3))∧Aside0 (kq≤kj24)∧Aside0 (Kd.R (Kd.int .i64) 3 w' w.heap.size (fun _=>True) v10 x10_3)∧Aside0 (Kd.R (Kd.int .u8) 5 w' w.heap.size (fun _=>True) v11 x11_3)∧Aside0 (Below w.heap.size w w'))
         case atStart=>exact ⟨(([]:List Int)),(y576),(0),(by first|rfl|(simp;done)|(simp [*];done)),H',⟨Nat.le_refl _⟩,⟨by first|exact Kd.R_nil _ _ _ _ _|exact Kd.N_nil _ _ _ _ _|exact Kd.V_nil _ _ _ _ _|exact Kd.Q_nil _ _ _ _ _|exact Kd.S_nil _ _ _ _ _⟩,⟨by (with_reducible repeat (first|apply Kd.R_alloc|apply Kd.R_drewN|apply Kd.R_drew));exact HO578.out⟩,⟨bb HB⟩⟩
         case round =>
          clear H'
          try clear c1
          try clear hcv1
          try clear c2
          try clear c2b0
          try clear c2b1
          try clear p2
          try clear hcv2
          try clear c3
          try clear c3b0
          try clear c3b1
          try clear c5
          try clear c5b0
          try clear c5b1
          try clear p5
          try clear q5
          try clear hx5
          try clear qi5
          try clear c6
          try clear c6b0
          try clear c6b1
          try clear p6
          try clear c7
          try clear c10
          try clear c10b0
          try clear c10b1
          try clear c11
          try clear c11b0
          try clear c11b1
          try clear hcv15
          try clear hcv16
          try clear hcv20
          try clear hcv21
          try clear c26
          try clear c26b0
          try clear c27
          try clear c28
          try clear hx564_0
          try clear hx565_0
          try clear p2
          try clear p5
          try clear p564
          try clear p565
          try clear p6
          try clear q5
          try clear q564
          try clear q565
          obtain ⟨x10_3,x11_3,x12_3,rfl,HA,HK3,HO_10,HO_11,HB⟩:=hrel
          cases gk with
          | zero=>exact absurd HA.out (by intro h_;cases h_)
          | succ k3 =>
           have H:=HA.out
           clear HA
           simp only [r_10_Root.l0] at H
           by_cases c30:x12_3 < (wrap64 (rd l0 0))
           ·rw [if_pos c30] at H
            have c30b0:decide (x12_3 < (wrap64 (rd l0 0)))=true:=decide_eq_true c30
            clear c30
            replace H:=Option.bind_eq_some_iff.mp H
            obtain ⟨t579,A310,H⟩:=H
            replace H:(if x10_3.length < 17592186044416 then ((some (x10_3++[t579]:List Int)).bind fun y580=>(if 0≤x12_3 then (if x12_3 < (y580.length:Int) then ((r_01_Bytes.f k3 (IntKind.u64.wrap (rd y580 x12_3)) 4).bind fun t584=>(if x11_3.length+t584.length < 140737488355328 then (r_10_Root.l0 k3 l0 (wrap64 (rd l0 0)) y580 (x11_3++t584) (wrap64 (x12_3+1))) else (none))) else (none)) else (none))) else (none))=some (r1,r2,r3):=H
            have A31:=am A310
            clear A310
            by_cases c32:x10_3.length < 17592186044416
            ·rw [if_pos c32] at H
             have LMc32:=am c32
             clear c32
             obtain ⟨y580,hy580⟩:∃ y_:List Int,y_=(x10_3++[t579]):=⟨_,rfl⟩
             replace H:(if 0≤x12_3 then (if x12_3 < (y580.length:Int) then ((r_01_Bytes.f k3 (IntKind.u64.wrap (rd y580 x12_3)) 4).bind fun t584=>(if x11_3.length+t584.length < 140737488355328 then (r_10_Root.l0 k3 l0 (wrap64 (rd l0 0)) y580 (x11_3++t584) (wrap64 (x12_3+1))) else (none))) else (none)) else (none))=some (r1,r2,r3):=by first|(rw [hy580];with_reducible exact H)|(have H2_:=(Option.bind_some _ _).symm.trans H;rw [hy580];with_reducible exact H2_)|(have H2_:=(Option.bind_some _ _).symm.trans H;with_reducible exact H2_)|with_reducible exact H|(rw [hy580];exact H)|exact H
             have Ny580:=am hy580
             clear hy580
             by_cases c33:0≤x12_3
             ·rw [if_pos c33] at H
              have c33b0:decide (0≤x12_3)=true:=decide_eq_true c33
              clear c33
              by_cases c34:x12_3 < (y580.length:Int)
              ·rw [if_pos c34] at H
               have c34b0:decide (x12_3 < (y580.length:Int))=true:=decide_eq_true c34
               clear c34
               replace H:=Option.bind_eq_some_iff.mp H
               obtain ⟨t584,A350,H⟩:=H
               replace H:(if x11_3.length+t584.length < 140737488355328 then (r_10_Root.l0 k3 l0 (wrap64 (rd l0 0)) y580 (x11_3++t584) (wrap64 (x12_3+1))) else (none))=some (r1,r2,r3):=H
               have A35:=am A350
               clear A350
               by_cases c36:x11_3.length+t584.length < 140737488355328
               ·rw [if_pos c36] at H
                have LMc36:=am c36
                clear c36
                obtain ⟨y587,hy587⟩:∃ y_:List Int,y_=(x11_3++t584):=⟨_,rfl⟩
                replace H:(r_10_Root.l0 k3 l0 (wrap64 (rd l0 0)) y580 y587 (wrap64 (x12_3+1)))=some (r1,r2,r3):=by first|(rw [hy587];with_reducible exact H)|(have H2_:=(Option.bind_some _ _).symm.trans H;rw [hy587];with_reducible exact H2_)|(have H2_:=(Option.bind_some _ _).symm.trans H;with_reducible exact H2_)|with_reducible exact H|(rw [hy587];exact H)|exact H
                have Ny587:=am hy587
                clear hy587
                have H':=am H
                clear H
                go_wp2_with (first|((with_reducible refine gate_callee (f:=64) rfl ?_);refine goesL_ (some 66) rfl rfl Try.func64 (by kernel_rfl) rfl #[.slice (some ad564) l0.length c0,.int .i64 (wrap64 (4+(wrap64 (4*x12_3)))),.int .i64 4] rfl (by (try simp only [List.map_toArray,List.map_cons,List.map_nil]);first|done|rfl|(simp only [List.length_drop,List.length_take];rfl)) ?_;(with_reducible refine (r_01_At.calls k3 _ _ l0 (wrap64 (4+(wrap64 (4*x12_3)))) 4 t579 _ ?side1 ?side2 A31.out).mono ?_);(case side1=>exact cc (Kd.C_below HR0.out HB.out));(case side2=>exact HC0.out);rintro e w' ⟨rfl,⟨nd,rfl⟩⟩;refine ⟨_,rfl,?_⟩)|((with_reducible refine gate_builtin (b:=.append) (xs:=#[.tmp 61,.tmp 67]) rfl ?_);at_builtin;refine Kd.R_append (Kd.int .i64) (w0:=w) w.heap.size rfl (.tmp 61) (.tmp 67) 45 3 (.int .i64 0) 8 rfl Try.underlying45 info3 rfl (by decide) (by omega) u10 x10_3 t579 [.int .i64 t579] (fun _=>True) (fun _=>False) rfl rfl ?aP (fun _ hk=>hk.elim) ?aF ?aO ?aB ?aS ?aL ?_;(case aP=>exact rfl);(case aB=>exact (bb HB));(case aF=>exact (fun _ _=>trivial));(case aO=>exact (rR HO_10));(case aS=>exact (bz HB));(case aL=>have:=LMc32.out;omega);intro v581 w37 ho hb hg hat;rw [← Ny580.out] at ho;have n0_:=am (Kd.R_over' (rR HO_11) (Kd.R_typed (rR HO_10)) (by decide) hg);have n1_:=am (hb);have n2_:=am (ho);clear HO_11;clear HB;clear HO_10;have HO_11:=n0_;have HB:=n1_;have HO582:=n2_;clear n0_ n1_ n2_;clear ho hb hg hat;obtain ⟨Ao38,co38,eo38⟩:=Kd.R_slice HO582.out;subst eo38;have p583:0≤(x12_3:Int):=od;have q583:x12_3 < (y580.length:Int):=od;obtain ⟨ad583,e583,hx583_0⟩:=Kd.at_int (Kd.R_reads' HO582.out).2.2 x12_3 p583 q583;cases e583;replace p583:=eq_true p583;replace q583:=eq_true q583)|((with_reducible refine gate_callee (f:=57) rfl ?_);refine goesL_ (some 75) rfl rfl Try.func57 (by kernel_rfl) rfl #[.int .u64 (IntKind.u64.wrap (rd y580 x12_3)),.int .i64 4] rfl (by (try simp only [List.map_toArray,List.map_cons,List.map_nil]);first|done|rfl|(simp only [List.length_drop,List.length_take];rfl)) ?_;(with_reducible refine (r_01_Bytes.calls k3 (IntKind.u64.wrap (rd y580 x12_3)) 4 t584 _ A35.out).mono ?_);rintro e w39 ⟨v585,rfl,ho0,hb⟩;refine ⟨_,rfl,?_⟩;have n0_:=am (Kd.R_elder' (rR HO_11) (Kd.R_base ho0) hb);have n1_:=am (Kd.R_below (rR HO582) hb);have n2_:=am (Kd.R_lower (Kd.R_new' ho0 (Kd.R_lt (rR HO_11))) (bz HB));have n3_:=bst HB hb;clear HO_11;clear HO582;clear HB;have HO_11:=n0_;have HO582:=n1_;have HO586:=n2_;have HB:=n3_;clear n0_ n1_ n2_ n3_;(try clear hb);(try clear hb2);(try clear hk);(try clear hi);(try clear ho0);obtain ⟨Ao41,co41,eo41⟩:=Kd.R_slice HO586.out;subst eo41)|((with_reducible refine gate_builtin (b:=.append) (xs:=#[.tmp 69,.tmp 75]) rfl ?_);at_builtin;refine Kd.R_append_rows (Kd.int .u8) (w0:=w) w.heap.size rfl (.tmp 69) (.tmp 75) 46 5 (.int .u8 0) 1 rfl Try.underlying46 info5 rfl (by decide) (by omega) u11 x11_3 t584 _ _ _ (fun k_=>some k_≠(.slice Ao41 t584.length co41:Value).ownBlock) (fun _=>False) rfl rfl ?aO ?aR (fun _ _ h=>h) (fun _ h=>h.elim) ?aF ?aB ?aS ?aL ?_;(case aR=>exact cc (Kd.R_reads' HO586.out).2.2);(case aB=>exact (bb HB));(case aF=>exact (fun k_ hk=>Kd.fresh' (Kd.R_lt (rR HO586)) k_ hk));(case aO=>exact (by (with_reducible repeat (first|apply Kd.R_alloc|apply Kd.R_drewN|apply Kd.R_drew));exact Kd.R_mono HO_11.out (fun _ hk=>hk.2)));(case aS=>exact (bz HB));(case aL=>have:=LMc36.out;omega);intro v588 w40 ho hb hg hat;rw [← Ny587.out] at ho;have n0_:=am (Kd.R_over' (rR HO582) (Kd.R_typed (rR HO_11)) (by decide) hg);have n1_:=am (Kd.R_after (ok:=(fun _=>True)) (rR HO586) hg hat);have n2_:=am (hb);have n3_:=am (ho);clear HO582;clear HO586;clear HB;clear HO_11;have HO582:=n0_;have HO586:=n1_;have HB:=n2_;have HO589:=n3_;clear n0_ n1_ n2_ n3_;clear ho hb hg hat))
                go_roundg k3
                case measure=>have:=HJ3.out;have:=HJ24.out;have:=HK3.out;omega
                case rel=>exact ⟨(y580),(y587),(wrap64 (x12_3+1)),(by first|rfl|(simp;done)|(simp [*];done)),H',⟨by have:=HJ3.out;have:=HJ24.out;have:=HK3.out;omega⟩,⟨by (with_reducible repeat (first|apply Kd.R_alloc|apply Kd.R_drewN|apply Kd.R_drew));exact HO582.out⟩,⟨by (with_reducible repeat (first|apply Kd.R_alloc|apply Kd.R_drewN|apply Kd.R_drew));exact Kd.R_mono HO589.out (fun _ hk=>trivial)⟩,⟨bb HB⟩⟩
               ·rw [if_neg c36] at H
                exact absurd H (by simp)
              ·rw [if_neg c34] at H
               exact absurd H (by simp)
             ·rw [if_neg c33] at H
              exact absurd H (by simp)
            ·rw [if_neg c32] at H
             exact absurd H (by simp)
           ·rw [if_neg c30] at H
            have c30b0:decide (x12_3 < (wrap64 (rd l0 0)))=false:=decide_eq_false c30
            clear c30
            replace H:=Option.bind_eq_some_iff.mp H
            obtain ⟨t590,A420,H⟩:=H
            replace H:(if t590=true then ((r_10_filled.f k3 x11_3 60).bind fun t591=>(if (strOfNums t591).toList=(strOfNums l0).toList then (some (([]:List (S24)),x10_3,0)) else (some (([]:List (S24)),([]:List Int),13)))) else (some (([]:List (S24)),([]:List Int),13)))=some (r1,r2,r3):=H
            have A42:=am A420
            clear A420
            by_cases c43:t590=true
            ·subst c43
             have H1:((r_10_filled.f k3 x11_3 60).bind fun t591=>(if (strOfNums t591).toList=(strOfNums l0).toList then (some (([]:List (S24)),x10_3,0)) else (some (([]:List (S24)),([]:List Int),13))))=some (r1,r2,r3):=by rw [if_pos rfl] at H;exact H
             clear H;have H:=H1;clear H1
             replace H:=Option.bind_eq_some_iff.mp H
             obtain ⟨t591,A440,H⟩:=H
             replace H:(if (strOfNums t591).toList=(strOfNums l0).toList then (some (([]:List (S24)),x10_3,0)) else (some (([]:List (S24)),([]:List Int),13)))=some (r1,r2,r3):=H
             have A44:=am A440
             clear A440
             by_cases c45:(strOfNums t591).toList=(strOfNums l0).toList
             ·rw [if_pos c45] at H
              have c45b0:((strOfNums t591).toList==(strOfNums l0).toList)=true:=beq_iff_eq.mpr c45
              have c45b1:((strOfNums t591).toList != (strOfNums l0).toList)=false:=bne_eq_false_iff_eq.mpr c45
              clear c45
              simp only [Option.some.injEq,Prod.mk.injEq] at H
              obtain ⟨rfl,rfl,rfl⟩:=H
              obtain ⟨Ao46,co46,eo46⟩:=Kd.R_slice HO_10.out
              subst eo46
              obtain ⟨Ao47,co47,eo47⟩:=Kd.R_slice HO_11.out
              subst eo47
              try go_wp2
              have n0_:=am (Kd.R_drew HO_10.out)
              have n1_:=am (Kd.R_drew HO_11.out)
              have n2_:=am (below_drew1 HB.out)
              clear HO_10;clear HO_11;clear HB;have HO_10:=n0_;have HO_11:=n1_;have HB:=n2_;clear n0_ n1_ n2_
              have hcvW51:∀ W_:World,(Kd.int .u8).C W_ (some ad564) l0.length l0→(convert 46 9 (.slice (some ad564) l0.length c0)).run Try.prog W_=.ok (.string (strOfNums l0)) W_:=fun W_ h_=>Kd.C_string (P:=Try.prog) (A:=(some ad564)) (c:=c0) Try.underlying46 Try.underlying5 Try.underlying9 h_
              refine start_ (n:=11) (S:=fun w'=>(convert 46 9 (.slice (some ad564) l0.length c0)).run Try.prog w'=.ok (.string (strOfNums l0)) w') (ds:=[]) _ (by kernel_rfl) rfl rfl (hcvW51 _ (by repeat (first|exact (Kd.C_below HR0.out HB.out)|(with_reducible refine Kd.C_alloc ?_ _)|(with_reducible refine Kd.C_drewN ?_ _)|(with_reducible refine Kd.C_drew ?_)))) (fun hHeld=>?_);refine with_tabW r_10_Root.tab19 r_10_Root.bits19 (fun HT_ HW_=>?_)
              generalize wr.drew=w48 at HO_10 HO_11 HB hHeld ⊢
              refine pS 0 77 HT_ ?_
              refine oS 1 (some 78) HT_ (fun K hK=>?_)
              refine gS Try.func54 #[.slice Ao46 x10_3.length co46] ?_
              with_reducible refine (r_10_numbers.calls k3 _ _ x10_3 true _ ?side1 ?side2 A42.out).mono ?_
              (case side1=>exact cc (Kd.R_reads' HO_10.out).2.2)
              (case side2=>exact (Kd.R_reads' HO_10.out).2.1)
              rintro e w' ⟨rfl,⟨nd,rfl⟩⟩
              refine ⟨_,rfl,?_⟩
              refine hK.out _ _ (hcvW51 _ (by repeat (first|exact (Kd.C_below HR0.out HB.out)|(with_reducible refine Kd.C_alloc ?_ _)|(with_reducible refine Kd.C_drewN ?_ _)|(with_reducible refine Kd.C_drew ?_)))) (fun hHeld=>?_)
              clear hK K;refine norm_ (a':=?_) ?_ ?_;rotate_left
              ·show Act.put _ (some 78) _=_
               simp only [Act.put,sIb,sC0,sCs,i64_w,i32_w];rfl
              refine pS 2 79 HT_ ?_;refine pS 3 80 HT_ ?_;refine pS 4 81 HT_ ?_;refine pS 7 84 HT_ ?_;refine tS 8 85 HT_ HW_ hHeld ?_ (hy:=by intro w' s0;go_simp;with_reducible rfl)
              refine oS 5 (some 82) HT_ (fun K hK=>?_)
              refine gS Try.func55 #[.slice Ao47 x11_3.length co47,.int .i64 60] ?_
              with_reducible refine (r_10_filled.calls k3 (fun k_=>some k_=(.slice Ao47 x11_3.length co47:Value).ownBlock) (.slice Ao47 x11_3.length co47) x11_3 60 t591 w _ ?side1 ?side2 A44.out).mono ?_
              (case side1=>repeat (first|(with_reducible first|exact HB.out|apply below_alloc|apply pw_below_drewN|apply below_drew1)|exact HB.out))
              (case side2=>exact Kd.R_tight rfl HO_11.out)
              rintro e w49 ⟨v592,rfl,ho0,hb,hkp⟩
              refine ⟨_,rfl,?_⟩
              have n0_:=am (Kd.R_mono (ok':=fun k_=>True) (Kd.R_keptB ((Kd.R_apart' HO_10.out (Kd.R_typed HO_11.out) (by decide))) hkp (fun k_ hk_ hs_=>(hk_.2) hs_)) (fun k_ hk_=>trivial))
              have n1_:=am (Kd.R_mono (ok':=fun k_=>True) ho0 (fun k_ hk_=>trivial))
              have n2_:=am (hb)
              clear HO_10;clear HB;clear HO_11;have HO_10:=n0_;have HO593:=n1_;have HB:=n2_;clear n0_ n1_ n2_
              (try clear hb)
              (try clear hkp)
              (try clear ho0)
              refine hK.out _ _ (hcvW51 _ (by repeat (first|exact (Kd.C_below HR0.out HB.out)|(with_reducible refine Kd.C_alloc ?_ _)|(with_reducible refine Kd.C_drewN ?_ _)|(with_reducible refine Kd.C_drew ?_)))) (fun hHeld=>?_)
              clear hK K;refine norm_ (a':=?_) ?_ ?_;rotate_left
              ·show Act.put _ (some 82) _=_
               simp only [Act.put,sIb,sC0,sCs,i64_w,i32_w];rfl
              refine oS 6 (some 83) HT_ (fun K hK=>?_)
              have hcv50:=own_string (P:=Try.prog) Try.underlying46 Try.underlying5 Try.underlying9 (Kd.own_of_R HO593.out)
              refine value_ (w1:=?_) (v:=?_) (by rfl) rfl ?_ ?_
              rotate_left 2
              ·go_simp
               constructor;(rfl);(rfl)
              clear hcv50
              refine hK.out _ _ (hcvW51 _ (by repeat (first|exact (Kd.C_below HR0.out HB.out)|(with_reducible refine Kd.C_alloc ?_ _)|(with_reducible refine Kd.C_drewN ?_ _)|(with_reducible refine Kd.C_drew ?_)))) (fun hHeld=>?_)
              clear hK K;refine norm_ (a':=?_) ?_ ?_;rotate_left
              ·show Act.put _ (some 83) _=_
               simp only [Act.put,sIb,sC0,sCs,i64_w,i32_w];rfl
              refine pS 9 86 HT_ ?_;refine pS 10 87 HT_ ?_
              refine done_ (done_of HT_.out (by kernel_rfl)) ?_
              try go_wp2
              go_ret3
              exact ⟨_,_,by first|rfl|(simp [errW_none,errW_some]<;>rfl)|(simp [*,errW_none,errW_some]<;>rfl),by first|exact Kd.R_nil _ _ _ _ _|exact Kd.N_nil _ _ _ _ _|exact Kd.V_nil _ _ _ _ _|exact Kd.Q_nil _ _ _ _ _|exact Kd.S_nil _ _ _ _ _,by (with_reducible repeat (first|apply Kd.R_alloc|apply Kd.R_drewN|apply Kd.R_drew));exact HO_10.out,bb HB⟩
             ·rw [if_neg c45] at H
              have c45b0:((strOfNums t591).toList==(strOfNums l0).toList)=false:=beq_eq_false_iff_ne.mpr c45
              have c45b1:((strOfNums t591).toList != (strOfNums l0).toList)=true:=bne_iff_ne.mpr c45
              simp only [Option.some.injEq,Prod.mk.injEq] at H
              obtain ⟨rfl,rfl,rfl⟩:=H
              obtain ⟨Ao53,co53,eo53⟩:=Kd.R_slice HO_10.out
              subst eo53
              obtain ⟨Ao54,co54,eo54⟩:=Kd.R_slice HO_11.out
              subst eo54
              try go_wp2
              have n0_:=am (Kd.R_drew HO_10.out)
              have n1_:=am (Kd.R_drew HO_11.out)
              have n2_:=am (below_drew1 HB.out)
              clear HO_10;clear HO_11;clear HB;have HO_10:=n0_;have HO_11:=n1_;have HB:=n2_;clear n0_ n1_ n2_
              have hcvW58:∀ W_:World,(Kd.int .u8).C W_ (some ad564) l0.length l0→(convert 46 9 (.slice (some ad564) l0.length c0)).run Try.prog W_=.ok (.string (strOfNums l0)) W_:=fun W_ h_=>Kd.C_string (P:=Try.prog) (A:=(some ad564)) (c:=c0) Try.underlying46 Try.underlying5 Try.underlying9 h_
              refine start_ (n:=11) (S:=fun w'=>(convert 46 9 (.slice (some ad564) l0.length c0)).run Try.prog w'=.ok (.string (strOfNums l0)) w') (ds:=[]) _ (by kernel_rfl) rfl rfl (hcvW58 _ (by repeat (first|exact (Kd.C_below HR0.out HB.out)|(with_reducible refine Kd.C_alloc ?_ _)|(with_reducible refine Kd.C_drewN ?_ _)|(with_reducible refine Kd.C_drew ?_)))) (fun hHeld=>?_);refine with_tabW r_10_Root.tab19 r_10_Root.bits19 (fun HT_ HW_=>?_)
              generalize wr.drew=w55 at HO_10 HO_11 HB hHeld ⊢
              refine pS 0 77 HT_ ?_
              refine oS 1 (some 78) HT_ (fun K hK=>?_)
              refine gS Try.func54 #[.slice Ao53 x10_3.length co53] ?_
              with_reducible refine (r_10_numbers.calls k3 _ _ x10_3 true _ ?side1 ?side2 A42.out).mono ?_
              (case side1=>exact cc (Kd.R_reads' HO_10.out).2.2)
              (case side2=>exact (Kd.R_reads' HO_10.out).2.1)
              rintro e w' ⟨rfl,⟨nd,rfl⟩⟩
              refine ⟨_,rfl,?_⟩
              refine hK.out _ _ (hcvW58 _ (by repeat (first|exact (Kd.C_below HR0.out HB.out)|(with_reducible refine Kd.C_alloc ?_ _)|(with_reducible refine Kd.C_drewN ?_ _)|(with_reducible refine Kd.C_drew ?_)))) (fun hHeld=>?_)
              clear hK K;refine norm_ (a':=?_) ?_ ?_;rotate_left
              ·show Act.put _ (some 78) _=_
               simp only [Act.put,sIb,sC0,sCs,i64_w,i32_w];rfl
              refine pS 2 79 HT_ ?_;refine pS 3 80 HT_ ?_;refine pS 4 81 HT_ ?_;refine pS 7 84 HT_ ?_;refine tS 8 85 HT_ HW_ hHeld ?_ (hy:=by intro w' s0;go_simp;with_reducible rfl)
              refine oS 5 (some 82) HT_ (fun K hK=>?_)
              refine gS Try.func55 #[.slice Ao54 x11_3.length co54,.int .i64 60] ?_
              with_reducible refine (r_10_filled.calls k3 (fun k_=>some k_=(.slice Ao54 x11_3.length co54:Value).ownBlock) (.slice Ao54 x11_3.length co54) x11_3 60 t591 w _ ?side1 ?side2 A44.out).mono ?_
              (case side1=>repeat (first|(with_reducible first|exact HB.out|apply below_alloc|apply pw_below_drewN|apply below_drew1)|exact HB.out))
              (case side2=>exact Kd.R_tight rfl HO_11.out)
              rintro e w56 ⟨v592,rfl,ho0,hb,hkp⟩
              refine ⟨_,rfl,?_⟩
              have n0_:=am (Kd.R_mono (ok':=fun k_=>True) (Kd.R_keptB ((Kd.R_apart' HO_10.out (Kd.R_typed HO_11.out) (by decide))) hkp (fun k_ hk_ hs_=>(hk_.2) hs_)) (fun k_ hk_=>trivial))
              have n1_:=am (Kd.R_mono (ok':=fun k_=>True) ho0 (fun k_ hk_=>trivial))
              have n2_:=am (hb)
              clear HO_10;clear HB;clear HO_11;have HO_10:=n0_;have HO593:=n1_;have HB:=n2_;clear n0_ n1_ n2_
              (try clear hb)
              (try clear hkp)
              (try clear ho0)
              refine hK.out _ _ (hcvW58 _ (by repeat (first|exact (Kd.C_below HR0.out HB.out)|(with_reducible refine Kd.C_alloc ?_ _)|(with_reducible refine Kd.C_drewN ?_ _)|(with_reducible refine Kd.C_drew ?_)))) (fun hHeld=>?_)
              clear hK K;refine norm_ (a':=?_) ?_ ?_;rotate_left
              ·show Act.put _ (some 82) _=_
               simp only [Act.put,sIb,sC0,sCs,i64_w,i32_w];rfl
              refine oS 6 (some 83) HT_ (fun K hK=>?_)
              have hcv57:=own_string (P:=Try.prog) Try.underlying46 Try.underlying5 Try.underlying9 (Kd.own_of_R HO593.out)
              refine value_ (w1:=?_) (v:=?_) (by rfl) rfl ?_ ?_
              rotate_left 2
              ·go_simp
               constructor;(rfl);(rfl)
              clear hcv57
              refine hK.out _ _ (hcvW58 _ (by repeat (first|exact (Kd.C_below HR0.out HB.out)|(with_reducible refine Kd.C_alloc ?_ _)|(with_reducible refine Kd.C_drewN ?_ _)|(with_reducible refine Kd.C_drew ?_)))) (fun hHeld=>?_)
              clear hK K;refine norm_ (a':=?_) ?_ ?_;rotate_left
              ·show Act.put _ (some 83) _=_
               simp only [Act.put,sIb,sC0,sCs,i64_w,i32_w];rfl
              refine pS 9 86 HT_ ?_;refine pS 10 87 HT_ ?_
              refine done_ (done_of HT_.out (by kernel_rfl)) ?_
              try go_wp2
              go_ret3
              exact ⟨_,_,by first|rfl|(simp [errW_none,errW_some]<;>rfl)|(simp [*,errW_none,errW_some]<;>rfl),by first|exact Kd.R_nil _ _ _ _ _|exact Kd.N_nil _ _ _ _ _|exact Kd.V_nil _ _ _ _ _|exact Kd.Q_nil _ _ _ _ _|exact Kd.S_nil _ _ _ _ _,by first|exact Kd.R_nil _ _ _ _ _|exact Kd.N_nil _ _ _ _ _|exact Kd.V_nil _ _ _ _ _|exact Kd.Q_nil _ _ _ _ _|exact Kd.S_nil _ _ _ _ _,bb HB⟩
            ·replace c43:=Bool.eq_false_iff.mpr c43
             subst c43
             have H1:(some (([]:List (S24)),([]:List Int),13))=some (r1,r2,r3):=by rw [if_neg (show ¬ (false=true) by decide)] at H;exact H
             clear H;have H:=H1;clear H1
             simp only [Option.some.injEq,Prod.mk.injEq] at H
             obtain ⟨rfl,rfl,rfl⟩:=H
             try go_wp2
             have n0_:=am (Kd.R_drew HO_10.out)
             have n1_:=am (Kd.R_drew HO_11.out)
             have n2_:=am (below_drew1 HB.out)
             clear HO_10;clear HO_11;clear HB;have HO_10:=n0_;have HO_11:=n1_;have HB:=n2_;clear n0_ n1_ n2_
             obtain ⟨Ao61,co61,eo61⟩:=Kd.R_slice HO_10.out
             (first|subst eo61|(injection eo61 with f1_ f2_ f3_;have f4_:=f1_.symm;have f5_:=f3_.symm;clear f1_ f2_ f3_;subst f4_;subst f5_))
             refine start_ (n:=11) (S:=fun w'=>True) (ds:=[]) _ (by kernel_rfl) rfl rfl trivial (fun hHeld=>?_);refine with_tabW r_10_Root.tab19 r_10_Root.bits19 (fun HT_ HW_=>?_)
             generalize wr.drew=w60 at HO_10 HO_11 HB hHeld ⊢
             refine pS 0 77 HT_ ?_
             refine oS 1 (some 78) HT_ (fun K hK=>?_)
             refine gS Try.func54 #[.slice Ao61 x10_3.length co61] ?_
             with_reducible refine (r_10_numbers.calls k3 _ _ x10_3 false _ ?side1 ?side2 A42.out).mono ?_
             (case side1=>exact cc (Kd.R_reads' HO_10.out).2.2)
             (case side2=>exact (Kd.R_reads' HO_10.out).2.1)
             rintro e w' ⟨rfl,⟨nd,rfl⟩⟩
             refine ⟨_,rfl,?_⟩
             refine hK.out _ _ trivial (fun hHeld=>?_)
             clear hK K;refine norm_ (a':=?_) ?_ ?_;rotate_left
             ·show Act.put _ (some 78) _=_
              simp only [Act.put,sIb,sC0,sCs,i64_w,i32_w];rfl
             refine pS 2 79 HT_ ?_;refine pS 3 80 HT_ ?_;refine uS 4 81 HT_ ?_;refine uS 5 82 HT_ ?_;refine uS 6 83 HT_ ?_;refine uS 7 84 HT_ ?_;refine uS 8 85 HT_ ?_;refine uS 9 86 HT_ ?_;refine pS 10 87 HT_ ?_
             refine done_ (done_of HT_.out (by kernel_rfl)) ?_
             try go_wp2
             go_ret3
             exact ⟨_,_,by first|rfl|(simp [errW_none,errW_some]<;>rfl)|(simp [*,errW_none,errW_some]<;>rfl),by first|exact Kd.R_nil _ _ _ _ _|exact Kd.N_nil _ _ _ _ _|exact Kd.V_nil _ _ _ _ _|exact Kd.Q_nil _ _ _ _ _|exact Kd.S_nil _ _ _ _ _,by first|exact Kd.R_nil _ _ _ _ _|exact Kd.N_nil _ _ _ _ _|exact Kd.V_nil _ _ _ _ _|exact Kd.Q_nil _ _ _ _ _|exact Kd.S_nil _ _ _ _ _,bb HB⟩
  ·rw [if_neg c3] at H
   exact absurd H (by simp)
 ·rw [if_neg c2] at H
  have c2b0:((l0.length:Int)==60)=false:=beq_eq_false_iff_ne.mpr c2
  have c2b1:((l0.length:Int) != 60)=true:=bne_iff_ne.mpr c2
  simp only [Option.some.injEq,Prod.mk.injEq] at H
  obtain ⟨rfl,rfl,rfl⟩:=H
  go_enter Try.func32,Try.ntmps32
  go_wp2
  go_ret3
  exact ⟨_,_,by first|rfl|(simp [errW_none,errW_some]<;>rfl)|(simp [*,errW_none,errW_some]<;>rfl),by first|exact Kd.R_nil _ _ _ _ _|exact Kd.N_nil _ _ _ _ _|exact Kd.V_nil _ _ _ _ _|exact Kd.Q_nil _ _ _ _ _|exact Kd.S_nil _ _ _ _ _,by first|exact Kd.R_nil _ _ _ _ _|exact Kd.N_nil _ _ _ _ _|exact Kd.V_nil _ _ _ _ _|exact Kd.Q_nil _ _ _ _ _|exact Kd.S_nil _ _ _ _ _,bb HB⟩
mutual
def r_10_Join.l0:Nat→List (List Int)→List (S24)→List Int→Int→Option ((List (S24))×Int)
 | 0,_,_,_,_=>none
 | k+1,x0,x4,x5,x6=>if x6 < (x0.length:Int) then (if 0≤x6 then (if ((rd_L5 x0 x6).length:Int)=256 then (if 0 < ((rd_L5 x0 x6).length:Int) then (if (rd (rd_L5 x0 x6) 0) > 20 then (some (([]:List (S24)),13)) else (if (x0.length:Int) > 3 then (some (([]:List (S24)),13)) else ((r_10_extents.f k (rd_L5 x0 x6) 4 (wrap64 (rd (rd_L5 x0 x6) 0))).bind fun t600=>(if x4.length+t600.length < 4398046511104 then (if x5.length < 17592186044416 then (r_10_Join.l0 k x0 (x4++t600) (x5++[wrap64 (x6+1)]) (wrap64 (x6+1))) else (none)) else (none))))) else (none)) else (some (([]:List (S24)),13))) else (none)) else ((r_10_Store.f k x4 x5).bind fun bt609=>(if bt609.2.2=0 then (if (x0.length:Int)=0 then (r_10_Join.j1 k x0 x4 bt609.2.1 true) else (r_10_Join.j1 k x0 x4 bt609.2.1 ((bt609.2.1.length:Int) != (x0.length:Int)))) else (r_10_Join.j1 k x0 x4 bt609.2.1 true)))
def r_10_Join.j1:Nat→List (List Int)→List (S24)→List (List Int)→Bool→Option ((List (S24))×Int)
 | 0,_,_,_,_=>none
 | k+1,x0,x4,x8,x76=>if x76=true then (some (([]:List (S24)),13)) else (r_10_Join.l1 k x0 x4 x8 0)
def r_10_Join.l1:Nat→List (List Int)→List (S24)→List (List Int)→Int→Option ((List (S24))×Int)
 | 0,_,_,_,_=>none
 | k+1,x0,x4,x8,x10=>if x10 < (x0.length:Int) then (if 0≤x10 then (if x10 < (x8.length:Int) then (if (strOfNums (rd_L5 x8 x10)).toList=(strOfNums (rd_L5 x0 x10)).toList then (r_10_Join.l1 k x0 x4 x8 (wrap64 (x10+1))) else (some (([]:List (S24)),13))) else (none)) else (none)) else (some (x4,0))
end
def r_10_Join.f (k:Nat) (l0:List (List Int)):Option ((List (S24))×Int):=r_10_Join.l0 k l0 ([]:List (S24)) ([]:List Int) 0
def r_10_Join.T8:Bool×List (List Nat×List Nat):=(true,[([],[]),([],[]),([],[]),([1,2],[1,2]),([3],[3]),([],[]),([],[]),([5,6],[5,6]),([7],[7]),([8],[8]),([9],[9]),([10],[10]),([4,11],[4,11]),([0,12,12],[0,12]),([13,13,0,1,2,3,4,5,6,7,8,9,10,11,12,13],[0,13])])
def r_10_Join.B8:List Nat:=[0,0,0,6,14,0,0,96,224,480,992,2016,4094,8191,16383]
theorem r_10_Join.tab8:rtab .any (opsOf Try.f33 8)=r_10_Join.T8:=by kernel_rfl
theorem r_10_Join.bits8:waitsOk r_10_Join.T8.2 r_10_Join.B8=true:=by kernel_rfl
def r_10_Join.T16:Bool×List (List Nat×List Nat):=(true,[([],[]),([],[]),([0,1],[0,1]),([2],[2]),([3],[3]),([],[]),([],[]),([5,6],[5,6]),([7],[7]),([8],[8]),([4,9],[4,9])])
def r_10_Join.B16:List Nat:=[0,0,3,7,15,0,0,96,224,480,1023]
theorem r_10_Join.tab16:rtab .any (opsOf Try.f33 16)=r_10_Join.T16:=by kernel_rfl
theorem r_10_Join.bits16:waitsOk r_10_Join.T16.2 r_10_Join.B16=true:=by kernel_rfl
set_option maxHeartbeats 8000000 in
set_option maxRecDepth 100000 in
theorem r_10_Join.calls (k:Nat) (A0:Option Addr) (c0:Nat) (l0:List (List Int)) (r1:List (S24)) (r2:Int) (w:World) (hr0:Kd.C (Kd.slice 5 (Kd.int .u8)) w A0 l0.length l0) (hc0:l0.length≤c0) (h:r_10_Join.f k l0=some (r1,r2)) :
  Calls Try.prog 33 #[.slice A0 l0.length c0] w fun e w'=>∃ v0_:Value,e=.returned (.tuple #[v0_,.int .i64 r2])∧Kd.R k24 24 w' w.heap.size (fun _=>True) v0_ r1∧Below w.heap.size w w':=by
 have HR0:=am hr0
 have HC0:=am hc0
 clear hr0 hc0
 have HB:=am (Below.refl w.heap.size w)
 have H:(r_10_Join.l0 k l0 ([]:List (S24)) ([]:List Int) 0)=some (r1,r2):=h
 clear h
 have H':=am H
 clear H
 go_enter Try.func33,Try.ntmps33
 go_wp2
 go_loopg [4,5,6] k (fun kq v4 v5 v6 w'=>∃ (x4_1:List (S24)) (x5_1:List Int) (x6_1:Int),v6=.int .i64 x6_1∧Aside0 (r_10_Join.l0 kq l0 x4_1 x5_1 x6_1=some (r1,r2))∧Aside0 (kq≤k)∧Aside0 (Kd.R k24 24 w' w.heap.size (fun _=>True) v4 x4_1)∧Aside0 (Kd.R (Kd.int .i64) 3 w' w.heap.size (fun _=>True) v5 x5_1)∧Aside0 (Below w.heap.size w w'))
 case atStart=>exact ⟨(([]:List (S24))),(([]:List Int)),(0),(by first|rfl|(simp;done)|(simp [*];done)),H',⟨Nat.le_refl _⟩,⟨by first|exact Kd.R_nil _ _ _ _ _|exact Kd.N_nil _ _ _ _ _|exact Kd.V_nil _ _ _ _ _|exact Kd.Q_nil _ _ _ _ _|exact Kd.S_nil _ _ _ _ _⟩,⟨by first|exact Kd.R_nil _ _ _ _ _|exact Kd.N_nil _ _ _ _ _|exact Kd.V_nil _ _ _ _ _|exact Kd.Q_nil _ _ _ _ _|exact Kd.S_nil _ _ _ _ _⟩,⟨bb HB⟩⟩
 case round =>
  clear H'
  obtain ⟨x4_1,x5_1,x6_1,rfl,HA,HK1,HO_4,HO_5,HB⟩:=hrel
  cases gk with
  | zero=>exact absurd HA.out (by intro h_;cases h_)
  | succ k1 =>
   have H:=HA.out
   clear HA
   simp only [r_10_Join.l0] at H
   by_cases c2:x6_1 < (l0.length:Int)
   ·rw [if_pos c2] at H
    have c2b0:decide (x6_1 < (l0.length:Int))=true:=decide_eq_true c2
    clear c2
    by_cases c3:0≤x6_1
    ·rw [if_pos c3] at H
     have c3b0:decide (0≤x6_1)=true:=decide_eq_true c3
     clear c3
     by_cases c4:((rd_L5 l0 x6_1).length:Int)=256
     ·rw [if_pos c4] at H
      have c4b0:(((rd_L5 l0 x6_1).length:Int)==256)=true:=beq_iff_eq.mpr c4
      have c4b1:(((rd_L5 l0 x6_1).length:Int) != 256)=false:=bne_eq_false_iff_eq.mpr c4
      clear c4
      by_cases c5:0 < ((rd_L5 l0 x6_1).length:Int)
      ·rw [if_pos c5] at H
       have c5b0:decide (0 < ((rd_L5 l0 x6_1).length:Int))=true:=decide_eq_true c5
       have c5b1:decide (0 < (rd_L5 l0 x6_1).length)=true:=decide_eq_true (by omega)
       clear c5
       by_cases c6:(rd (rd_L5 l0 x6_1) 0) > 20
       ·rw [if_pos c6] at H
        have c6b0:decide (20 < (rd (rd_L5 l0 x6_1) 0))=true:=decide_eq_true c6
        clear c6
        simp only [Option.some.injEq,Prod.mk.injEq] at H
        obtain ⟨rfl,rfl⟩:=H
        have p594:0≤(x6_1:Int):=od
        have q594:x6_1 < (l0.length:Int):=od
        obtain ⟨ad594,A594_0,c594_0,e594,hx594_0,hl594_0,hi594_0⟩:=at_L5 HR0.out x6_1 p594 q594
        cases e594
        replace hx594_0:=hB HB hx594_0
        have HR594_0:=am hi594_0
        have HC594_0:=am hl594_0
        clear hi594_0 hl594_0;replace p594:=eq_true p594;replace q594:=eq_true q594
        have p595:0≤(x6_1:Int):=od
        have q595:x6_1 < (l0.length:Int):=od
        obtain ⟨ad595,A595_0,c595_0,e595,hx595_0,hl595_0,hi595_0⟩:=at_L5 HR0.out x6_1 p595 q595
        obtain rfl:ad594=ad595:=(by injection e595)
        replace hx595_0:=hB HB hx595_0
        have HR595_0:=am hi595_0
        have HC595_0:=am hl595_0
        clear hi595_0 hl595_0;replace p595:=eq_true p595;replace q595:=eq_true q595
        have ea_:=Option.some.inj (hx594_0.symm.trans hx595_0)
        injection ea_ with ea_ en_ ec_
        subst ea_
        subst ec_
        clear en_
        have p596:0≤(0:Int):=(by omega)
        have q596:0 < ((rd_L5 l0 x6_1).length:Int):=od
        obtain ⟨ad596,e596,hx596_0⟩:=Kd.at_int HR595_0.out 0 p596 q596
        cases e596
        have qi596:(0 < (rd_L5 l0 x6_1).length)=True:=eq_true (by omega)
        (try rw [show ((0:Int)).toNat=0 from rfl] at hx596_0)
        (try rw [Addr.add_zero'] at hx596_0)
        replace hx596_0:=hB HB hx596_0
        replace p596:=eq_true p596;replace q596:=eq_true q596;go_wp2
        go_ret2
        exact ⟨_,by first|rfl|(simp [errW_none,errW_some]<;>rfl)|(simp [*,errW_none,errW_some]<;>rfl),by first|exact Kd.R_nil _ _ _ _ _|exact Kd.N_nil _ _ _ _ _|exact Kd.V_nil _ _ _ _ _|exact Kd.Q_nil _ _ _ _ _|exact Kd.S_nil _ _ _ _ _,bb HB⟩
       ·rw [if_neg c6] at H
        have c6b0:decide (20 < (rd (rd_L5 l0 x6_1) 0))=false:=decide_eq_false c6
        clear c6
        by_cases c7:(l0.length:Int) > 3
        ·rw [if_pos c7] at H
         have c7b0:decide (3 < (l0.length:Int))=true:=decide_eq_true c7
         have c7b1:decide (3 < l0.length)=true:=decide_eq_true (by omega)
         clear c7
         simp only [Option.some.injEq,Prod.mk.injEq] at H
         obtain ⟨rfl,rfl⟩:=H
         have p594:0≤(x6_1:Int):=od
         have q594:x6_1 < (l0.length:Int):=od
         obtain ⟨ad594,A594_0,c594_0,e594,hx594_0,hl594_0,hi594_0⟩:=at_L5 HR0.out x6_1 p594 q594
         cases e594
         replace hx594_0:=hB HB hx594_0
         have HR594_0:=am hi594_0
         have HC594_0:=am hl594_0
         clear hi594_0 hl594_0;replace p594:=eq_true p594;replace q594:=eq_true q594
         have p595:0≤(x6_1:Int):=od
         have q595:x6_1 < (l0.length:Int):=od
         obtain ⟨ad595,A595_0,c595_0,e595,hx595_0,hl595_0,hi595_0⟩:=at_L5 HR0.out x6_1 p595 q595
         obtain rfl:ad594=ad595:=(by injection e595)
         replace hx595_0:=hB HB hx595_0
         have HR595_0:=am hi595_0
         have HC595_0:=am hl595_0
         clear hi595_0 hl595_0;replace p595:=eq_true p595;replace q595:=eq_true q595
         have ea_:=Option.some.inj (hx594_0.symm.trans hx595_0)
         injection ea_ with ea_ en_ ec_
         subst ea_
         subst ec_
         clear en_
         have p596:0≤(0:Int):=(by omega)
         have q596:0 < ((rd_L5 l0 x6_1).length:Int):=od
         obtain ⟨ad596,e596,hx596_0⟩:=Kd.at_int HR595_0.out 0 p596 q596
         cases e596
         have qi596:(0 < (rd_L5 l0 x6_1).length)=True:=eq_true (by omega)
         (try rw [show ((0:Int)).toNat=0 from rfl] at hx596_0)
         (try rw [Addr.add_zero'] at hx596_0)
         replace hx596_0:=hB HB hx596_0
         replace p596:=eq_true p596;replace q596:=eq_true q596;go_wp2
         go_ret2
         exact ⟨_,by first|rfl|(simp [errW_none,errW_some]<;>rfl)|(simp [*,errW_none,errW_some]<;>rfl),by first|exact Kd.R_nil _ _ _ _ _|exact Kd.N_nil _ _ _ _ _|exact Kd.V_nil _ _ _ _ _|exact Kd.Q_nil _ _ _ _ _|exact Kd.S_nil _ _ _ _ _,bb HB⟩
        ·rw [if_neg c7] at H
         have c7b0:decide (3 < (l0.length:Int))=false:=decide_eq_false c7
         have c7b1:decide (3 < l0.length)=false:=decide_eq_false (by omega)
         clear c7
         replace H:=Option.bind_eq_some_iff.mp H
         obtain ⟨t600,A80,H⟩:=H
         replace H:(if x4_1.length+t600.length < 4398046511104 then (if x5_1.length < 17592186044416 then (r_10_Join.l0 k1 l0 (x4_1++t600) (x5_1++[wrap64 (x6_1+1)]) (wrap64 (x6_1+1))) else (none)) else (none))=some (r1,r2):=H
         have A8:=am A80
         clear A80
         by_cases c9:x4_1.length+t600.length < 4398046511104
         ·rw [if_pos c9] at H
          have LMc9:=am c9
          clear c9
          obtain ⟨y603,hy603⟩:∃ y_:List (S24),y_=(x4_1++t600):=⟨_,rfl⟩
          replace H:(if x5_1.length < 17592186044416 then (r_10_Join.l0 k1 l0 y603 (x5_1++[wrap64 (x6_1+1)]) (wrap64 (x6_1+1))) else (none))=some (r1,r2):=by first|(rw [hy603];with_reducible exact H)|(have H2_:=(Option.bind_some _ _).symm.trans H;rw [hy603];with_reducible exact H2_)|(have H2_:=(Option.bind_some _ _).symm.trans H;with_reducible exact H2_)|with_reducible exact H|(rw [hy603];exact H)|exact H
          have Ny603:=am hy603
          clear hy603
          by_cases c10:x5_1.length < 17592186044416
          ·rw [if_pos c10] at H
           have LMc10:=am c10
           clear c10
           obtain ⟨y606,hy606⟩:∃ y_:List Int,y_=(x5_1++[wrap64 (x6_1+1)]):=⟨_,rfl⟩
           replace H:(r_10_Join.l0 k1 l0 y603 y606 (wrap64 (x6_1+1)))=some (r1,r2):=by first|(rw [hy606];with_reducible exact H)|(have H2_:=(Option.bind_some _ _).symm.trans H;rw [hy606];with_reducible exact H2_)|(have H2_:=(Option.bind_some _ _).symm.trans H;with_reducible exact H2_)|with_reducible exact H|(rw [hy606];exact H)|exact H
           have Ny606:=am hy606
           clear hy606
           have H':=am H
           clear H
           have p594:0≤(x6_1:Int):=od
           have q594:x6_1 < (l0.length:Int):=od
           obtain ⟨ad594,A594_0,c594_0,e594,hx594_0,hl594_0,hi594_0⟩:=at_L5 HR0.out x6_1 p594 q594
           cases e594
           replace hx594_0:=hB HB hx594_0
           have HR594_0:=am hi594_0
           have HC594_0:=am hl594_0
           clear hi594_0 hl594_0;replace p594:=eq_true p594;replace q594:=eq_true q594
           have p595:0≤(x6_1:Int):=od
           have q595:x6_1 < (l0.length:Int):=od
           obtain ⟨ad595,A595_0,c595_0,e595,hx595_0,hl595_0,hi595_0⟩:=at_L5 HR0.out x6_1 p595 q595
           obtain rfl:ad594=ad595:=(by injection e595)
           replace hx595_0:=hB HB hx595_0
           have HR595_0:=am hi595_0
           have HC595_0:=am hl595_0
           clear hi595_0 hl595_0;replace p595:=eq_true p595;replace q595:=eq_true q595
           have ea_:=Option.some.inj (hx594_0.symm.trans hx595_0)
           injection ea_ with ea_ en_ ec_
           subst ea_
           subst ec_
           clear en_
           have p596:0≤(0:Int):=(by omega)
           have q596:0 < ((rd_L5 l0 x6_1).length:Int):=od
           obtain ⟨ad596,e596,hx596_0⟩:=Kd.at_int HR595_0.out 0 p596 q596
           cases e596
           have qi596:(0 < (rd_L5 l0 x6_1).length)=True:=eq_true (by omega)
           (try rw [show ((0:Int)).toNat=0 from rfl] at hx596_0)
           (try rw [Addr.add_zero'] at hx596_0)
           replace hx596_0:=hB HB hx596_0
           replace p596:=eq_true p596;replace q596:=eq_true q596
           try go_wp2
           have n0_:=am (Kd.R_drew HO_4.out)
           have n1_:=am (Kd.R_drew HO_5.out)
           have n2_:=am (below_drew1 HB.out)
           clear HO_4;clear HO_5;clear HB;have HO_4:=n0_;have HO_5:=n1_;have HB:=n2_;clear n0_ n1_ n2_
           have p597:0≤(x6_1:Int):=od
           have q597:x6_1 < (l0.length:Int):=od
           obtain ⟨ad597,A597_0,c597_0,e597,hx597_0,hl597_0,hi597_0⟩:=at_L5 HR0.out x6_1 p597 q597
           have hw597_0:=hx597_0
           obtain rfl:ad594=ad597:=(by injection e597)
           replace hx597_0:=hB HB hx597_0
           have HR597_0:=am hi597_0
           have HC597_0:=am hl597_0
           clear hi597_0 hl597_0;replace p597:=eq_true p597;replace q597:=eq_true q597
           have p598:0≤(x6_1:Int):=od
           have q598:x6_1 < (l0.length:Int):=od
           obtain ⟨ad598,A598_0,c598_0,e598,hx598_0,hl598_0,hi598_0⟩:=at_L5 HR0.out x6_1 p598 q598
           have hw598_0:=hx598_0
           obtain rfl:ad594=ad598:=(by injection e598)
           replace hx598_0:=hB HB hx598_0
           have HR598_0:=am hi598_0
           have HC598_0:=am hl598_0
           clear hi598_0 hl598_0;replace p598:=eq_true p598;replace q598:=eq_true q598
           have ea_:=Option.some.inj (hx597_0.symm.trans hx598_0)
           injection ea_ with ea_ en_ ec_
           subst ea_
           subst ec_
           clear en_
           have p599:0≤(0:Int):=(by omega)
           have q599:0 < ((rd_L5 l0 x6_1).length:Int):=od
           obtain ⟨ad599,e599,hx599_0⟩:=Kd.at_int HR598_0.out 0 p599 q599
           have hw599_0:=hx599_0
           (try rw [show ((0:Int)).toNat=0 from rfl] at hw599_0)
           (try rw [show 0*1=0 from rfl] at hw599_0)
           (try rw [Addr.add_zero'] at hw599_0)
           cases e599
           have qi599:(0 < (rd_L5 l0 x6_1).length)=True:=eq_true (by omega)
           (try rw [show ((0:Int)).toNat=0 from rfl] at hx599_0)
           (try rw [Addr.add_zero'] at hx599_0)
           replace hx599_0:=hB HB hx599_0
           replace p599:=eq_true p599;replace q599:=eq_true q599
           refine start_ (n:=15) (S:=fun w'=>w'.cell? (ad594.add (x6_1).toNat)=some (.slice (some ad599) (rd_L5 l0 x6_1).length c597_0)∧w'.cell? (ad594.add (x6_1).toNat)=some (.slice (some ad599) (rd_L5 l0 x6_1).length c597_0)∧w'.cell? ad599=some (.int .u8 (rd (rd_L5 l0 x6_1) 0))) (ds:=[]) _ (by kernel_rfl) rfl rfl ⟨(hB HB hw597_0),(hB HB hw598_0),(hB HB hw599_0)⟩ (fun hHeld=>?_);refine with_tabW r_10_Join.tab8 r_10_Join.bits8 (fun HT_ HW_=>?_)
           generalize wr.drew=w11 at HO_4 HO_5 HB HR597_0 HR598_0 hx597_0 hx598_0 hx599_0 hHeld ⊢
           refine pS 0 37 HT_ ?_;refine pS 1 38 HT_ ?_;refine pS 2 39 HT_ ?_;refine pS 3 40 HT_ ?_;refine pS 5 42 HT_ ?_;refine pS 6 43 HT_ ?_;refine pS 7 44 HT_ ?_;refine tS 4 41 HT_ HW_ hHeld ?_ (hy:=by rintro w' ⟨s0,s1,s2⟩;go_simp;with_reducible rfl);refine tS 8 45 HT_ HW_ hHeld ?_ (hy:=by rintro w' ⟨s0,s1,s2⟩;go_simp;with_reducible rfl);refine pS 9 46 HT_ ?_;refine tS 10 47 HT_ HW_ hHeld ?_ (hy:=by rintro w' ⟨s0,s1,s2⟩;go_simp;with_reducible rfl);refine pS 11 48 HT_ ?_
           refine oS 12 (some 49) HT_ (fun K hK=>?_)
           refine gS Try.func63 #[.slice (some ad599) (rd_L5 l0 x6_1).length c597_0,.int .i64 4,.int .i64 (wrap64 (rd (rd_L5 l0 x6_1) 0))] ?_
           with_reducible refine (r_10_extents.calls k1 _ _ (rd_L5 l0 x6_1) 4 (wrap64 (rd (rd_L5 l0 x6_1) 0)) t600 _ ?side1 ?side2 A8.out).mono ?_
           (case side1=>exact cc (Kd.C_below HR597_0.out HB.out))
           (case side2=>exact HC597_0.out)
           rintro e w12 ⟨v601,rfl,ho0,hb⟩
           refine ⟨_,rfl,?_⟩
           have n0_:=am (Kd.R_elder' (rR HO_4) (Kd.R_base ho0) hb)
           have n1_:=am (Kd.R_below (rR HO_5) hb)
           have n2_:=am (Kd.R_lower (Kd.R_new' ho0 (Kd.R_lt (rR HO_4))) (bz HB))
           have n3_:=bst HB hb
           clear HO_4;clear HO_5;clear HB;have HO_4:=n0_;have HO_5:=n1_;have HO602:=n2_;have HB:=n3_;clear n0_ n1_ n2_ n3_
           (try clear hb)
           (try clear hb2)
           (try clear hk)
           (try clear hi)
           (try clear ho0)
           obtain ⟨Ao14,co14,eo14⟩:=Kd.R_slice HO602.out
           (first|subst eo14|(injection eo14 with f1_ f2_ f3_;have f4_:=f1_.symm;have f5_:=f3_.symm;clear f1_ f2_ f3_;subst f4_;subst f5_))
           refine hK.out _ _ ⟨(hB HB hw597_0),(hB HB hw598_0),(hB HB hw599_0)⟩ (fun hHeld=>?_)
           clear hK K;refine norm_ (a':=?_) ?_ ?_;rotate_left
           ·show Act.put _ (some 49) _=_
            simp only [Act.put,sIb,sC0,sCs,i64_w,i32_w];rfl
           refine oS 13 (some 50) HT_ (fun K hK=>?_)
           refine Kd.R_append_rows_step k24 (w0:=w) w.heap.size (by rfl) (.tmp 37) (.tmp 49) 22 24 (.agg #[(.int .i64 0),(.int .i64 0),(.int .i64 0),(.bool false)]) 32 rfl Try.underlying22 info24 rfl (by decide) (by omega) u4 x4_1 t600 _ _ _ (fun k_=>some k_≠(.slice Ao14 t600.length co14:Value).ownBlock) (fun _=>False) rfl rfl ?aO ?aR (fun _ _ h=>h) (fun _ h=>h.elim) ?aF ?aB ?aS ?aL ?_
           (case aR=>exact cc (Kd.R_reads' HO602.out).2.2)
           (case aB=>exact (bb HB))
           (case aF=>exact (fun k_ hk=>Kd.fresh' (Kd.R_lt (rR HO602)) k_ hk))
           (case aO=>exact (by (with_reducible repeat (first|apply Kd.R_alloc|apply Kd.R_drewN|apply Kd.R_drew));exact Kd.R_mono HO_4.out (fun _ hk=>hk.2)))
           (case aS=>exact (bz HB))
           (case aL=>have:=LMc9.out;omega)
           intro v604 w13 ho hb hg hat
           rw [← Ny603.out] at ho
           have n0_:=am (Kd.R_over' (rR HO_5) (Kd.R_typed (rR HO_4)) (by decide) hg)
           have n1_:=am (Kd.R_after (ok:=(fun _=>True)) (rR HO602) hg hat)
           have n2_:=am (hb)
           have n3_:=am (ho)
           clear HO_5;clear HO602;clear HB;clear HO_4;have HO_5:=n0_;have HO602:=n1_;have HB:=n2_;have HO605:=n3_;clear n0_ n1_ n2_ n3_;clear ho hb hg hat
           refine hK.out _ _ ⟨(hB HB hw597_0),(hB HB hw598_0),(hB HB hw599_0)⟩ (fun hHeld=>?_)
           clear hK K;refine norm_ (a':=?_) ?_ ?_;rotate_left
           ·show Act.put _ (some 50) _=_
            simp only [Act.put,sIb,sC0,sCs,i64_w,i32_w];rfl
           refine pS 14 4 HT_ ?_
           refine done_ (done_of HT_.out (by kernel_rfl)) ?_
           try go_wp2_with (first|((with_reducible refine gate_builtin (b:=.append) (xs:=#[.tmp 51,.tmp 54]) rfl ?_);(try (refine gate_guard (by rfl) ?_;dsimp only));at_builtin;refine Kd.R_append (Kd.int .i64) (w0:=w) w.heap.size rfl (.tmp 51) (.tmp 54) 45 3 (.int .i64 0) 8 rfl Try.underlying45 info3 rfl (by decide) (by omega) u5 x5_1 (wrap64 (x6_1+1)) [.int .i64 (wrap64 (x6_1+1))] (fun _=>True) (fun _=>False) rfl rfl ?aP (fun _ hk=>hk.elim) ?aF ?aO ?aB ?aS ?aL ?_;(case aP=>exact rfl);(case aB=>exact (bb HB));(case aF=>exact (fun _ _=>trivial));(case aO=>exact (rR HO_5));(case aS=>exact (bz HB));(case aL=>have:=LMc10.out;omega);intro v607 w15 ho hb hg hat;rw [← Ny606.out] at ho;have n0_:=am (Kd.R_over' (rR HO602) (Kd.R_typed (rR HO_5)) (by decide) hg);have n1_:=am (Kd.R_over' (rR HO605) (Kd.R_typed (rR HO_5)) (by decide) hg);have n2_:=am (hb);have n3_:=am (ho);clear HO602;clear HO605;clear HB;clear HO_5;have HO602:=n0_;have HO605:=n1_;have HB:=n2_;have HO608:=n3_;clear n0_ n1_ n2_ n3_;clear ho hb hg hat))
           go_roundg k1
           case measure=>have:=HK1.out;omega
           case rel=>exact ⟨(y603),(y606),(wrap64 (x6_1+1)),(by first|rfl|(simp;done)|(simp [*];done)),H',⟨by have:=HK1.out;omega⟩,⟨by (with_reducible repeat (first|apply Kd.R_alloc|apply Kd.R_drewN|apply Kd.R_drew));exact Kd.R_mono HO605.out (fun _ hk=>trivial)⟩,⟨by (with_reducible repeat (first|apply Kd.R_alloc|apply Kd.R_drewN|apply Kd.R_drew));exact HO608.out⟩,⟨bb HB⟩⟩
          ·rw [if_neg c10] at H
           exact absurd H (by simp)
         ·rw [if_neg c9] at H
          exact absurd H (by simp)
      ·rw [if_neg c5] at H
       exact absurd H (by simp)
     ·rw [if_neg c4] at H
      have c4b0:(((rd_L5 l0 x6_1).length:Int)==256)=false:=beq_eq_false_iff_ne.mpr c4
      have c4b1:(((rd_L5 l0 x6_1).length:Int) != 256)=true:=bne_iff_ne.mpr c4
      simp only [Option.some.injEq,Prod.mk.injEq] at H
      obtain ⟨rfl,rfl⟩:=H
      have p594:0≤(x6_1:Int):=od
      have q594:x6_1 < (l0.length:Int):=od
      obtain ⟨ad594,A594_0,c594_0,e594,hx594_0,hl594_0,hi594_0⟩:=at_L5 HR0.out x6_1 p594 q594
      cases e594
      replace hx594_0:=hB HB hx594_0
      have HR594_0:=am hi594_0
      have HC594_0:=am hl594_0
      clear hi594_0 hl594_0;replace p594:=eq_true p594;replace q594:=eq_true q594;go_wp2
      go_ret2
      exact ⟨_,by first|rfl|(simp [errW_none,errW_some]<;>rfl)|(simp [*,errW_none,errW_some]<;>rfl),by first|exact Kd.R_nil _ _ _ _ _|exact Kd.N_nil _ _ _ _ _|exact Kd.V_nil _ _ _ _ _|exact Kd.Q_nil _ _ _ _ _|exact Kd.S_nil _ _ _ _ _,bb HB⟩
    ·rw [if_neg c3] at H
     exact absurd H (by simp)
   ·rw [if_neg c2] at H
    have c2b0:decide (x6_1 < (l0.length:Int))=false:=decide_eq_false c2
    clear c2
    replace H:=Option.bind_eq_some_iff.mp H
    obtain ⟨⟨t609,t610,t611⟩,A160,H⟩:=H
    replace H:(if t611=0 then (if (l0.length:Int)=0 then (r_10_Join.j1 k1 l0 x4_1 t610 true) else (r_10_Join.j1 k1 l0 x4_1 t610 ((t610.length:Int) != (l0.length:Int)))) else (r_10_Join.j1 k1 l0 x4_1 t610 true))=some (r1,r2):=H
    have A16:=am A160
    clear A160
    have HC17:=am H
    clear H
    obtain ⟨Ao18,co18,eo18⟩:=Kd.R_slice HO_4.out
    subst eo18
    obtain ⟨Ao19,co19,eo19⟩:=Kd.R_slice HO_5.out
    subst eo19
    go_upto_region 11 with (first|((with_reducible refine gate_callee (f:=28) rfl ?_);refine goesL_ (some 59) rfl rfl Try.func28 (by kernel_rfl) rfl #[.slice Ao18 x4_1.length co18,.slice Ao19 x5_1.length co19] rfl (by (try simp only [List.map_toArray,List.map_cons,List.map_nil]);first|done|rfl|(simp only [List.length_drop,List.length_take];rfl)) ?_;(with_reducible refine (r_10_Store.calls k1 _ _ x4_1 _ _ x5_1 t609 t610 t611 _ ?side1 ?side2 ?side3 ?side4 A16.out).mono ?_);(case side1=>exact cc (Kd.R_reads' HO_4.out).2.2);(case side2=>exact (Kd.R_reads' HO_4.out).2.1);(case side3=>exact cc (Kd.R_reads' HO_5.out).2.2);(case side4=>exact (Kd.R_reads' HO_5.out).2.1);rintro e w20 ⟨v612,v614,rfl,ho0,ho1,hb⟩;refine ⟨_,rfl,?_⟩;have n0_:=am (Kd.R_below (rR HO_4) hb);have n1_:=am (Kd.R_below (rR HO_5) hb);have n2_:=am (Kd.R_lower ho0 (bz HB));have n3_:=am (Kd.S_lower ho1 (bz HB));have n4_:=bst HB hb;clear HO_4;clear HO_5;clear HB;have HO_4:=n0_;have HO_5:=n1_;have HO613:=n2_;have HO615:=n3_;have HB:=n4_;clear n0_ n1_ n2_ n3_ n4_;(try clear hb);(try clear hb2);(try clear hk);(try clear hi);(try clear ho0);(try clear ho1)))
    (try simp only [Act.put,List.setIfInBounds_toArray,List.set_cons_zero,List.set_cons_succ])
    go_cut [76] (fun v76 wc=>∃ (kq:Nat) (x76_16:Bool),v76=.bool x76_16∧Aside0 (r_10_Join.j1 kq l0 x4_1 t610 x76_16=some (r1,r2))∧Aside0 (kq≤k1)∧Aside0 (Kd.R k24 24 wc w.heap.size (fun _=>True) (.slice Ao18 x4_1.length co18) x4_1)∧Aside0 (Kd.S (Kd.slice 5 (Kd.int .u8)) 46 wc w.heap.size (fun _=>True) v614 t610)∧Aside0 (Below w.heap.size w wc))
    case first =>
     have H:=HC17.out
     clear HC17
     by_cases c21:t611=0
     ·rw [if_pos c21] at H
      have c21b0:(t611==0)=true:=beq_iff_eq.mpr c21
      have c21b1:(t611 != 0)=false:=bne_eq_false_iff_eq.mpr c21
      clear c21
      (first|rw [c21b0]|(simp only [i64_w,i32_w];rw [c21b0])|skip)
      by_cases c22:(l0.length:Int)=0
      ·rw [if_pos c22] at H
       have c22b0:((l0.length:Int)==0)=true:=beq_iff_eq.mpr c22
       have c22b1:((l0.length:Int) != 0)=false:=bne_eq_false_iff_eq.mpr c22
       clear c22
       have H':=am H
       clear H;go_wp2
       go_meet
       case rel=>exact ⟨_,(true),(by first|rfl|(simp;done)|(simp [*];done)),H',⟨by have:=HK1.out;first|omega|exact Nat.le_refl _⟩,⟨by (with_reducible repeat (first|apply Kd.R_alloc|apply Kd.R_drewN|apply Kd.R_drew));exact HO_4.out⟩,⟨by (with_reducible repeat (first|apply Kd.S_alloc|apply Kd.S_drewN|apply Kd.S_drew));exact Kd.S_mono HO615.out (fun _ hk=>trivial)⟩,⟨bb HB⟩⟩
      ·rw [if_neg c22] at H
       have c22b0:((l0.length:Int)==0)=false:=beq_eq_false_iff_ne.mpr c22
       have c22b1:((l0.length:Int) != 0)=true:=bne_iff_ne.mpr c22
       have c22b2:¬ (l0=[]):=fun h_=>c22 (by rw [h_];rfl)
       have H':=am H
       clear H
       obtain ⟨Ao23,co23,eo23⟩:=Kd.S_slice HO615.out
       subst eo23
       go_wp2
       go_meet
       case rel=>exact ⟨_,(((t610.length:Int) != (l0.length:Int))),(by first|rfl|(simp;done)|(simp [*];done)),H',⟨by have:=HK1.out;first|omega|exact Nat.le_refl _⟩,⟨by (with_reducible repeat (first|apply Kd.R_alloc|apply Kd.R_drewN|apply Kd.R_drew));exact HO_4.out⟩,⟨by (with_reducible repeat (first|apply Kd.S_alloc|apply Kd.S_drewN|apply Kd.S_drew));exact Kd.S_mono HO615.out (fun _ hk=>trivial)⟩,⟨bb HB⟩⟩
     ·rw [if_neg c21] at H
      have c21b0:(t611==0)=false:=beq_eq_false_iff_ne.mpr c21
      have c21b1:(t611 != 0)=true:=bne_iff_ne.mpr c21
      (first|rw [c21b0]|(simp only [i64_w,i32_w];rw [c21b0])|skip)
      have H':=am H
      clear H;go_wp2
      go_meet
      case rel=>exact ⟨_,(true),(by first|rfl|(simp;done)|(simp [*];done)),H',⟨by have:=HK1.out;first|omega|exact Nat.le_refl _⟩,⟨by (with_reducible repeat (first|apply Kd.R_alloc|apply Kd.R_drewN|apply Kd.R_drew));exact HO_4.out⟩,⟨by (with_reducible repeat (first|apply Kd.S_alloc|apply Kd.S_drewN|apply Kd.S_drew));exact Kd.S_mono HO615.out (fun _ hk=>trivial)⟩,⟨bb HB⟩⟩
    case rest =>
     clear HC17
     try clear c1
     try clear c2
     try clear c2b0
     try clear p2
     try clear c3
     try clear c3b0
     try clear c4
     try clear c4b0
     try clear c4b1
     try clear c5
     try clear c5b0
     try clear c5b1
     try clear p5
     try clear q5
     try clear hx5
     try clear qi5
     try clear c6
     try clear c6b0
     try clear p6
     try clear c7
     try clear c7b0
     try clear c7b1
     try clear c9
     try clear c10
     try clear c21
     try clear c21b0
     try clear c21b1
     try clear c22
     try clear c22b0
     try clear c22b1
     try clear c22b2
     try clear hx594_0
     try clear hx595_0
     try clear hx596_0
     try clear hx597_0
     try clear hx598_0
     try clear hx599_0
     try clear p594
     try clear p595
     try clear p596
     try clear p597
     try clear p598
     try clear p599
     try clear q594
     try clear q595
     try clear q596
     try clear q597
     try clear q598
     try clear q599
     obtain ⟨kq,x76_16,rfl,HA,HJ16,HO_4,HO_8,HB⟩:=hcut
     cases kq with
     | zero=>exact absurd HA.out (by intro h_;cases h_)
     | succ kj16 =>
      have H:=HA.out
      clear HA
      simp only [r_10_Join.j1] at H
      by_cases c24:x76_16=true
      ·subst c24
       have H1:(some (([]:List (S24)),13))=some (r1,r2):=by rw [if_pos rfl] at H;exact H
       clear H;have H:=H1;clear H1
       simp only [Option.some.injEq,Prod.mk.injEq] at H
       obtain ⟨rfl,rfl⟩:=H
       go_wp2
       go_ret2
       exact ⟨_,by first|rfl|(simp [errW_none,errW_some]<;>rfl)|(simp [*,errW_none,errW_some]<;>rfl),by first|exact Kd.R_nil _ _ _ _ _|exact Kd.N_nil _ _ _ _ _|exact Kd.V_nil _ _ _ _ _|exact Kd.Q_nil _ _ _ _ _|exact Kd.S_nil _ _ _ _ _,bb HB⟩
      ·replace c24:=Bool.eq_false_iff.mpr c24
       subst c24
       have H1:(r_10_Join.l1 kj16 l0 x4_1 t610 0)=some (r1,r2):=by rw [if_neg (show ¬ (false=true) by decide)] at H;exact H
       clear H;have H:=H1;clear H1
       have H':=am H
       clear H;go_wp2
       go_loopg [10] kj16 (fun kq v10 w'=>∃ (x10_3:Int),v10=.int .i64 x10_3∧Aside0 (r_10_Join.l1 kq l0 x4_1 t610 x10_3=some (r1,r2))∧Aside0 (kq≤kj16)∧Aside0 (Kd.R k24 24 w' w.heap.size (fun _=>True) (.slice Ao18 x4_1.length co18) x4_1)∧Aside0 (Kd.S (Kd.slice 5 (Kd.int .u8)) 46 w' w.heap.size (fun _=>True) v614 t610)∧Aside0 (Below w.heap.size w w'))
       case atStart=>exact ⟨(0),(by first|rfl|(simp;done)|(simp [*];done)),H',⟨Nat.le_refl _⟩,⟨by (with_reducible repeat (first|apply Kd.R_alloc|apply Kd.R_drewN|apply Kd.R_drew));exact HO_4.out⟩,⟨by (with_reducible repeat (first|apply Kd.S_alloc|apply Kd.S_drewN|apply Kd.S_drew));exact HO_8.out⟩,⟨bb HB⟩⟩
       case round =>
        clear H'
        try clear c1
        try clear c2
        try clear c2b0
        try clear p2
        try clear c3
        try clear c3b0
        try clear c4
        try clear c4b0
        try clear c4b1
        try clear c5
        try clear c5b0
        try clear c5b1
        try clear p5
        try clear q5
        try clear hx5
        try clear qi5
        try clear c6
        try clear c6b0
        try clear p6
        try clear c7
        try clear c7b0
        try clear c7b1
        try clear c9
        try clear c10
        try clear c21
        try clear c21b0
        try clear c21b1
        try clear c22
        try clear c22b0
        try clear c22b1
        try clear c22b2
        try clear c24
        try clear hx594_0
        try clear hx595_0
        try clear hx596_0
        try clear hx597_0
        try clear hx598_0
        try clear hx599_0
        try clear p2
        try clear p5
        try clear p594
        try clear p595
        try clear p596
        try clear p597
        try clear p598
        try clear p599
        try clear p6
        try clear q5
        try clear q594
        try clear q595
        try clear q596
        try clear q597
        try clear q598
        try clear q599
        obtain ⟨x10_3,rfl,HA,HK3,HO_4,HO_8,HB⟩:=hrel
        cases gk with
        | zero=>exact absurd HA.out (by intro h_;cases h_)
        | succ k3 =>
         have H:=HA.out
         clear HA
         simp only [r_10_Join.l1] at H
         by_cases c25:x10_3 < (l0.length:Int)
         ·rw [if_pos c25] at H
          have c25b0:decide (x10_3 < (l0.length:Int))=true:=decide_eq_true c25
          clear c25
          by_cases c26:0≤x10_3
          ·rw [if_pos c26] at H
           have c26b0:decide (0≤x10_3)=true:=decide_eq_true c26
           clear c26
           by_cases c27:x10_3 < (t610.length:Int)
           ·rw [if_pos c27] at H
            have c27b0:decide (x10_3 < (t610.length:Int))=true:=decide_eq_true c27
            clear c27
            by_cases c28:(strOfNums (rd_L5 t610 x10_3)).toList=(strOfNums (rd_L5 l0 x10_3)).toList
            ·rw [if_pos c28] at H
             have c28b0:((strOfNums (rd_L5 t610 x10_3)).toList==(strOfNums (rd_L5 l0 x10_3)).toList)=true:=beq_iff_eq.mpr c28
             have c28b1:((strOfNums (rd_L5 t610 x10_3)).toList != (strOfNums (rd_L5 l0 x10_3)).toList)=false:=bne_eq_false_iff_eq.mpr c28
             clear c28
             have H':=am H
             clear H
             try go_wp2
             have n0_:=am (Kd.R_drew HO_4.out)
             have n1_:=am (Kd.S_drew HO_8.out)
             have n2_:=am (below_drew1 HB.out)
             clear HO_4;clear HO_8;clear HB;have HO_4:=n0_;have HO_8:=n1_;have HB:=n2_;clear n0_ n1_ n2_
             obtain ⟨Ao30,co30,eo30⟩:=Kd.S_slice HO_8.out
             (first|subst eo30|(injection eo30 with f1_ f2_ f3_;have f4_:=f1_.symm;have f5_:=f3_.symm;clear f1_ f2_ f3_;subst f4_;subst f5_))
             have p616:0≤(x10_3:Int):=od
             have q616:x10_3 < (t610.length:Int):=od
             obtain ⟨ad616,A616_0,c616_0,e616,hx616_0,hl616_0,hi616_0⟩:=at_L5 (Kd.S_reads' HO_8.out).2.2 x10_3 p616 q616
             cases e616
             obtain ⟨ce616,hce616,hMe616,hcc616⟩:=Kd.S_get HO_8.out [] x10_3 p616 (by first|exact q616|exact od|(have e_:=(Kd.S_reads' HO_8.out).1;omega))
             obtain ⟨ve616_0,rfl,ge616_0⟩:=hMe616
             have hv616_0:=hcc616 0 _ rfl
             rw [Nat.add_zero,show ((Kd.slice 5 (Kd.int .u8))).sz=1 from rfl,Nat.mul_one] at hv616_0
             replace hv616_0:=Option.some.inj (hv616_0.symm.trans hx616_0)
             rw [hv616_0] at ge616_0
             have HL616_0:=am (show Kd.R (Kd.int .u8) 5 _ _ _ _ (rd_L5 t610 x10_3) from ge616_0)
             clear hv616_0 ge616_0;clear hcc616 hce616
             have HR616_0:=am hi616_0
             have HC616_0:=am hl616_0
             clear hi616_0 hl616_0;replace p616:=eq_true p616;replace q616:=eq_true q616
             have p617:0≤(x10_3:Int):=od
             have q617:x10_3 < (l0.length:Int):=od
             obtain ⟨ad617,A617_0,c617_0,e617,hx617_0,hl617_0,hi617_0⟩:=at_L5 HR0.out x10_3 p617 q617
             have hw617_0:=hx617_0
             cases e617
             replace hx617_0:=hB HB hx617_0
             have HR617_0:=am hi617_0
             have HC617_0:=am hl617_0
             clear hi617_0 hl617_0;replace p617:=eq_true p617;replace q617:=eq_true q617
             have hcvW31:∀ W_:World,(Kd.int .u8).C W_ A616_0 (rd_L5 t610 x10_3).length (rd_L5 t610 x10_3)→(convert 46 9 (.slice A616_0 (rd_L5 t610 x10_3).length c616_0)).run Try.prog W_=.ok (.string (strOfNums (rd_L5 t610 x10_3))) W_:=fun W_ h_=>Kd.C_string (P:=Try.prog) (A:=A616_0) (c:=c616_0) Try.underlying46 Try.underlying5 Try.underlying9 h_
             have hcvW32:∀ W_:World,(Kd.int .u8).C W_ A617_0 (rd_L5 l0 x10_3).length (rd_L5 l0 x10_3)→(convert 46 9 (.slice A617_0 (rd_L5 l0 x10_3).length c617_0)).run Try.prog W_=.ok (.string (strOfNums (rd_L5 l0 x10_3))) W_:=fun W_ h_=>Kd.C_string (P:=Try.prog) (A:=A617_0) (c:=c617_0) Try.underlying46 Try.underlying5 Try.underlying9 h_
             refine start_ (n:=11) (S:=fun w'=>w'.cell? (ad616.add (x10_3).toNat)=some (.slice A616_0 (rd_L5 t610 x10_3).length c616_0)∧w'.cell? (ad617.add (x10_3).toNat)=some (.slice A617_0 (rd_L5 l0 x10_3).length c617_0)∧(convert 46 9 (.slice A616_0 (rd_L5 t610 x10_3).length c616_0)).run Try.prog w'=.ok (.string (strOfNums (rd_L5 t610 x10_3))) w'∧(convert 46 9 (.slice A617_0 (rd_L5 l0 x10_3).length c617_0)).run Try.prog w'=.ok (.string (strOfNums (rd_L5 l0 x10_3))) w') (ds:=[]) _ (by kernel_rfl) rfl rfl ⟨hx616_0,(hB HB hw617_0),(hcvW31 _ (by repeat (first|exact (by repeat (first|(with_reducible exact HR616_0.out)|(with_reducible refine Kd.C_alloc ?_ _)|(with_reducible refine Kd.C_drewN ?_ _)|(with_reducible refine Kd.C_drew ?_)|exact HR616_0.out))|(with_reducible refine Kd.C_alloc ?_ _)|(with_reducible refine Kd.C_drewN ?_ _)|(with_reducible refine Kd.C_drew ?_)))),(hcvW32 _ (by repeat (first|exact (Kd.C_below HR617_0.out HB.out)|(with_reducible refine Kd.C_alloc ?_ _)|(with_reducible refine Kd.C_drewN ?_ _)|(with_reducible refine Kd.C_drew ?_))))⟩ (fun hHeld=>?_);refine with_tabW r_10_Join.tab16 r_10_Join.bits16 (fun HT_ HW_=>?_)
             generalize wr.drew=w29 at HO_4 HO_8 HB HL616_0 HR616_0 HR617_0 hx616_0 hx617_0 hHeld ⊢
             refine pS 0 83 HT_ ?_;refine pS 1 84 HT_ ?_;refine pS 2 85 HT_ ?_;refine pS 5 88 HT_ ?_;refine pS 6 89 HT_ ?_;refine pS 7 90 HT_ ?_;refine tS 3 86 HT_ HW_ hHeld ?_ (hy:=by rintro w' ⟨s0,s1,s2,s3⟩;go_simp;with_reducible rfl);refine tS 4 87 HT_ HW_ hHeld ?_ (hy:=by rintro w' ⟨s0,s1,s2,s3⟩;go_simp;with_reducible rfl);refine tS 8 91 HT_ HW_ hHeld ?_ (hy:=by rintro w' ⟨s0,s1,s2,s3⟩;go_simp;with_reducible rfl);refine tS 9 92 HT_ HW_ hHeld ?_ (hy:=by rintro w' ⟨s0,s1,s2,s3⟩;go_simp;with_reducible rfl);refine pS 10 93 HT_ ?_
             refine done_ (done_of HT_.out (by kernel_rfl)) ?_
             try go_wp2
             go_roundg k3
             case measure=>have:=HK1.out;have:=HJ16.out;have:=HK3.out;omega
             case rel=>exact ⟨(wrap64 (x10_3+1)),(by first|rfl|(simp;done)|(simp [*];done)),H',⟨by have:=HK1.out;have:=HJ16.out;have:=HK3.out;omega⟩,⟨by (with_reducible repeat (first|apply Kd.R_alloc|apply Kd.R_drewN|apply Kd.R_drew));exact HO_4.out⟩,⟨by (with_reducible repeat (first|apply Kd.S_alloc|apply Kd.S_drewN|apply Kd.S_drew));exact HO_8.out⟩,⟨bb HB⟩⟩
            ·rw [if_neg c28] at H
             have c28b0:((strOfNums (rd_L5 t610 x10_3)).toList==(strOfNums (rd_L5 l0 x10_3)).toList)=false:=beq_eq_false_iff_ne.mpr c28
             have c28b1:((strOfNums (rd_L5 t610 x10_3)).toList != (strOfNums (rd_L5 l0 x10_3)).toList)=true:=bne_iff_ne.mpr c28
             simp only [Option.some.injEq,Prod.mk.injEq] at H
             obtain ⟨rfl,rfl⟩:=H
             try go_wp2
             have n0_:=am (Kd.R_drew HO_4.out)
             have n1_:=am (Kd.S_drew HO_8.out)
             have n2_:=am (below_drew1 HB.out)
             clear HO_4;clear HO_8;clear HB;have HO_4:=n0_;have HO_8:=n1_;have HB:=n2_;clear n0_ n1_ n2_
             obtain ⟨Ao35,co35,eo35⟩:=Kd.S_slice HO_8.out
             (first|subst eo35|(injection eo35 with f1_ f2_ f3_;have f4_:=f1_.symm;have f5_:=f3_.symm;clear f1_ f2_ f3_;subst f4_;subst f5_))
             have p616:0≤(x10_3:Int):=od
             have q616:x10_3 < (t610.length:Int):=od
             obtain ⟨ad616,A616_0,c616_0,e616,hx616_0,hl616_0,hi616_0⟩:=at_L5 (Kd.S_reads' HO_8.out).2.2 x10_3 p616 q616
             cases e616
             obtain ⟨ce616,hce616,hMe616,hcc616⟩:=Kd.S_get HO_8.out [] x10_3 p616 (by first|exact q616|exact od|(have e_:=(Kd.S_reads' HO_8.out).1;omega))
             obtain ⟨ve616_0,rfl,ge616_0⟩:=hMe616
             have hv616_0:=hcc616 0 _ rfl
             rw [Nat.add_zero,show ((Kd.slice 5 (Kd.int .u8))).sz=1 from rfl,Nat.mul_one] at hv616_0
             replace hv616_0:=Option.some.inj (hv616_0.symm.trans hx616_0)
             rw [hv616_0] at ge616_0
             have HL616_0:=am (show Kd.R (Kd.int .u8) 5 _ _ _ _ (rd_L5 t610 x10_3) from ge616_0)
             clear hv616_0 ge616_0;clear hcc616 hce616
             have HR616_0:=am hi616_0
             have HC616_0:=am hl616_0
             clear hi616_0 hl616_0;replace p616:=eq_true p616;replace q616:=eq_true q616
             have p617:0≤(x10_3:Int):=od
             have q617:x10_3 < (l0.length:Int):=od
             obtain ⟨ad617,A617_0,c617_0,e617,hx617_0,hl617_0,hi617_0⟩:=at_L5 HR0.out x10_3 p617 q617
             have hw617_0:=hx617_0
             cases e617
             replace hx617_0:=hB HB hx617_0
             have HR617_0:=am hi617_0
             have HC617_0:=am hl617_0
             clear hi617_0 hl617_0;replace p617:=eq_true p617;replace q617:=eq_true q617
             have hcvW36:∀ W_:World,(Kd.int .u8).C W_ A616_0 (rd_L5 t610 x10_3).length (rd_L5 t610 x10_3)→(convert 46 9 (.slice A616_0 (rd_L5 t610 x10_3).length c616_0)).run Try.prog W_=.ok (.string (strOfNums (rd_L5 t610 x10_3))) W_:=fun W_ h_=>Kd.C_string (P:=Try.prog) (A:=A616_0) (c:=c616_0) Try.underlying46 Try.underlying5 Try.underlying9 h_
             have hcvW37:∀ W_:World,(Kd.int .u8).C W_ A617_0 (rd_L5 l0 x10_3).length (rd_L5 l0 x10_3)→(convert 46 9 (.slice A617_0 (rd_L5 l0 x10_3).length c617_0)).run Try.prog W_=.ok (.string (strOfNums (rd_L5 l0 x10_3))) W_:=fun W_ h_=>Kd.C_string (P:=Try.prog) (A:=A617_0) (c:=c617_0) Try.underlying46 Try.underlying5 Try.underlying9 h_
             refine start_ (n:=11) (S:=fun w'=>w'.cell? (ad616.add (x10_3).toNat)=some (.slice A616_0 (rd_L5 t610 x10_3).length c616_0)∧w'.cell? (ad617.add (x10_3).toNat)=some (.slice A617_0 (rd_L5 l0 x10_3).length c617_0)∧(convert 46 9 (.slice A616_0 (rd_L5 t610 x10_3).length c616_0)).run Try.prog w'=.ok (.string (strOfNums (rd_L5 t610 x10_3))) w'∧(convert 46 9 (.slice A617_0 (rd_L5 l0 x10_3).length c617_0)).run Try.prog w'=.ok (.string (strOfNums (rd_L5 l0 x10_3))) w') (ds:=[]) _ (by kernel_rfl) rfl rfl ⟨hx616_0,(hB HB hw617_0),(hcvW36 _ (by repeat (first|exact (by repeat (first|(with_reducible exact HR616_0.out)|(with_reducible refine Kd.C_alloc ?_ _)|(with_reducible refine Kd.C_drewN ?_ _)|(with_reducible refine Kd.C_drew ?_)|exact HR616_0.out))|(with_reducible refine Kd.C_alloc ?_ _)|(with_reducible refine Kd.C_drewN ?_ _)|(with_reducible refine Kd.C_drew ?_)))),(hcvW37 _ (by repeat (first|exact (Kd.C_below HR617_0.out HB.out)|(with_reducible refine Kd.C_alloc ?_ _)|(with_reducible refine Kd.C_drewN ?_ _)|(with_reducible refine Kd.C_drew ?_))))⟩ (fun hHeld=>?_);refine with_tabW r_10_Join.tab16 r_10_Join.bits16 (fun HT_ HW_=>?_)
             generalize wr.drew=w34 at HO_4 HO_8 HB HL616_0 HR616_0 HR617_0 hx616_0 hx617_0 hHeld ⊢
             refine pS 0 83 HT_ ?_;refine pS 1 84 HT_ ?_;refine pS 2 85 HT_ ?_;refine pS 5 88 HT_ ?_;refine pS 6 89 HT_ ?_;refine pS 7 90 HT_ ?_;refine tS 3 86 HT_ HW_ hHeld ?_ (hy:=by rintro w' ⟨s0,s1,s2,s3⟩;go_simp;with_reducible rfl);refine tS 4 87 HT_ HW_ hHeld ?_ (hy:=by rintro w' ⟨s0,s1,s2,s3⟩;go_simp;with_reducible rfl);refine tS 8 91 HT_ HW_ hHeld ?_ (hy:=by rintro w' ⟨s0,s1,s2,s3⟩;go_simp;with_reducible rfl);refine tS 9 92 HT_ HW_ hHeld ?_ (hy:=by rintro w' ⟨s0,s1,s2,s3⟩;go_simp;with_reducible rfl);refine pS 10 93 HT_ ?_
             refine done_ (done_of HT_.out (by kernel_rfl)) ?_
             try go_wp2
             go_ret2
             exact ⟨_,by first|rfl|(simp [errW_none,errW_some]<;>rfl)|(simp [*,errW_none,errW_some]<;>rfl),by first|exact Kd.R_nil _ _ _ _ _|exact Kd.N_nil _ _ _ _ _|exact Kd.V_nil _ _ _ _ _|exact Kd.Q_nil _ _ _ _ _|exact Kd.S_nil _ _ _ _ _,bb HB⟩
           ·rw [if_neg c27] at H
            exact absurd H (by simp)
          ·rw [if_neg c26] at H
           exact absurd H (by simp)
         ·rw [if_neg c25] at H
          have c25b0:decide (x10_3 < (l0.length:Int))=false:=decide_eq_false c25
          clear c25
          simp only [Option.some.injEq,Prod.mk.injEq] at H
          obtain ⟨rfl,rfl⟩:=H
          go_wp2
          go_ret2
          exact ⟨_,by first|rfl|(simp [errW_none,errW_some]<;>rfl)|(simp [*,errW_none,errW_some]<;>rfl),by (with_reducible repeat (first|apply Kd.R_alloc|apply Kd.R_drewN|apply Kd.R_drew));exact HO_4.out,bb HB⟩
end Go.Proofs.Ytopmjjnkolfciaa.Pr
end
section
namespace Go.Proofs.Ytopmjjnkolfciaa.Op
open Go.ChangeShapes Go.WideShapes Go.Deep Go.RowKit Go.Proofs.YtopmjjnkolfciaaW.PrintWords
variable {P : Program}
def Opens {α : Type} (P : Program) (t : TypeId) (d : Kd α) (S : α → Prop) : Prop :=
  ∀ {H : Type} {enc : TypeId × Value → H} {W : World} {fuel : Nat} {cs : List Value} {x : DataW H × List MemPlace},
    DataW.trod enc P W 0 (fun _ => true) true fuel t cs = some x → (∀ n ∈ x.1.weights P t, n ≤ reachBytes) → ∃ v : α, d.K W v cs ∧ S v
theorem opens_int {t : TypeId} {k : IntKind} (hu : P.underlying t = some (.int k)) : Opens P t (Kd.int k) (fun n => (Lit.int k n).wf = true) := by
  intro H enc W fuel cs x h _
  obtain ⟨n, rfl, _, hw⟩ := DataW.trod_int hu h
  exact ⟨n, rfl, hw⟩
theorem weightsAll_mem {H : Type} {e : TypeId} : ∀ {l : List (DataW H)} {d : DataW H}, d ∈ l → ∀ n ∈ d.weights P e, n ∈ DataW.weightsAll P e l
  | a :: l, d, hd, n, hn => by
    simp only [DataW.weightsAll, List.mem_append]
    rcases List.mem_cons.1 hd with rfl | hd
    · exact .inl hn
    · exact .inr (weightsAll_mem hd n hn)
  | [], _, hd, _, _ => by simp at hd
theorem opens_slice {α : Type} {t e : TypeId} {d : Kd α} {S : α → Prop} {B : Nat} (hu : P.underlying t = some (.slice e)) (hc : P.cellsOf e = d.sz) (hB : P.bytesOf e = B) (he : Opens P e d S) :
    Opens P t (Kd.slice e d) (fun xs => xs.length * B ≤ 140737488351232 ∧ ∀ x ∈ xs, S x) := by
  intro H enc W fuel cs x h hw
  rcases open_slice hu h with ⟨rfl, rfl⟩ | ⟨a, len, cap, m, n, D, Pl, rfl, _, hl, hm, hmm, rfl, hx⟩
  · exact ⟨[], ⟨none, 0, rfl, Nat.le_refl _, rfl, Nat.zero_le _, fun h => absurd h (Nat.lt_irrefl _)⟩, by simp, by simp⟩
  · simp only [if_true] at hmm
    subst hmm
    have hwt : ∀ i, i < len → ∀ q ∈ (D i).weights P e, q ≤ reachBytes := by
      intro i hi q hq
      refine hw q ?_
      simp only [DataW.weights, hu, List.mem_cons, List.mem_append]
      exact .inr (.inl (weightsAll_mem (List.mem_map.2 ⟨i, List.mem_range.2 hi, rfl⟩) q hq))
    have hv : ∀ i, i < len → ∃ v : α, S v ∧ ∃ c, c.length = d.sz ∧ d.K W v c ∧ ∀ j u, c[j]? = some u → W.cell? (a.add (i * d.sz + j)) = some u := by
      intro i hi
      obtain ⟨c, h1, h2⟩ := hx i (Nat.lt_of_lt_of_le hi hl)
      obtain ⟨v, hk, hs⟩ := he h2 (hwt i hi)
      refine ⟨v, hs, c, d.K_len hk, hk, ?_⟩
      rw [hc] at h1
      obtain ⟨_, hlen, hcell⟩ := World.cells?_some h1
      intro j u hj
      have hjl : j < c.length := (List.getElem?_eq_some_iff.1 hj).1
      have := hcell j (by rw [← hlen]; exact hjl)
      rw [Deep.add_add] at this
      rw [this, hj]
    have key : ∀ k, k ≤ len → ∃ l : List α, l.length = k ∧ (∀ v ∈ l, S v) ∧ ∀ i v, l[i]? = some v → ∃ c, c.length = d.sz ∧ d.K W v c ∧ ∀ j u, c[j]? = some u → W.cell? (a.add (i * d.sz + j)) = some u := by
      intro k
      induction k with
      | zero => intro _; exact ⟨[], rfl, by simp, by simp⟩
      | succ k ih =>
        intro hk
        obtain ⟨l, hl1, hl2, hl3⟩ := ih (by omega)
        obtain ⟨v, hs, hr⟩ := hv k (by omega)
        refine ⟨l ++ [v], by simp [hl1], ?_, ?_⟩
        · intro y hy
          rcases List.mem_append.1 hy with hy | hy
          · exact hl2 y hy
          · rw [List.mem_singleton.1 hy]; exact hs
        · intro i y hy
          rcases Nat.lt_trichotomy i k with hik | hik | hik
          · rw [List.getElem?_append_left (by omega)] at hy
            exact hl3 i y hy
          · subst hik
            rw [List.getElem?_append_right (by omega), hl1, Nat.sub_self] at hy
            simp only [List.getElem?_cons_zero, Option.some.injEq] at hy
            subst hy
            exact hr
          · rw [List.getElem?_eq_none (by simp [hl1]; omega)] at hy
            cases hy
    obtain ⟨l, hl1, hl2, hl3⟩ := key len (Nat.le_refl _)
    refine ⟨l, ⟨some a, m, by rw [hl1], by rw [hl1]; exact hl, rfl, ?_, fun _ => ⟨a, rfl, hl3⟩⟩, ?_, hl2⟩
    · rw [hl1]
      have : maxLen ≤ 9223372036854775807 := by decide
      omega
    · have := hw _ (by simp only [DataW.weights, hu]; exact List.mem_cons_self)
      simp only [List.length_map, List.length_range] at this
      rw [hB] at this
      rw [hl1]
      exact Nat.le_trans (Nat.mul_le_mul_right _ (by omega)) this
theorem arg_slice {H : Type} {enc : TypeId × Value → H} {W : World} {α : Type} {t e : TypeId} {d : Kd α} {S : List α → Prop} {r : Reach} {b : Nat} {v : Value} {dd : DataW H} {ps : List MemPlace} {ts : List TypeId} {ds : List (DataW H)} {j : Nat}
    (hu : P.underlying t = some (.slice e)) (ho : Opens P t (Kd.slice e d) S) (hv : Value.okWide P W r b t v) (h : DataW.Trod enc P W 0 (fun _ => true) true t v dd ps)
    (hsz : (DataW.weightsEach P ts ds).all (· ≤ reachBytes) = true) (ht : ts[j]? = some t) (hd : ds[j]? = some dd) :
    ∃ A l c, v = .slice A (List.length l) c ∧ l.length ≤ c ∧ d.C W A l.length l ∧ S l := by
  obtain ⟨a, len, cap, rfl⟩ := okWide_slice hu hv
  obtain ⟨fuel, hf⟩ := h
  obtain ⟨l, ⟨A, c, hcs, hl, hr⟩, hs⟩ := ho hf (fun n hn => by
    have := List.all_eq_true.1 hsz n (DataW.weights_mem_each ht hd n hn)
    simpa using this)
  simp only [Value.cells, List.cons.injEq, and_true] at hcs
  exact ⟨A, l, c, by simpa using hcs, hl, hr, hs⟩
end Go.Proofs.Ytopmjjnkolfciaa.Op
end
section
namespace Go.Proofs.Ytopmjjnkolfciaa.Pr
open Go.RowKit Go.Proofs.YtopmjjnkolfciaaW.PrintWords Go.Proofs.YtopmjjnkolfciaaW.PrintLast Go.Proofs.YtopmjjnkolfciaaW.PrintMore
attribute [local go_sem] max2_int min2_int max_two min_two max_three min_three max_four min_four
attribute [local go_sem] Go.Proofs.Ytopmjjnkolfciaa.Hl.str_geq Go.Proofs.Ytopmjjnkolfciaa.Hl.str_gtr Go.Proofs.Ytopmjjnkolfciaa.Hl.str_leq
set_option linter.unusedVariables false
set_option linter.unusedSimpArgs false
def r_03_SameInts.l0:Nat→List Int→List Int→Int→Option (Bool)
 | 0,_,_,_=>none
 | k+1,x0,x1,x5=>if x5 < (x0.length:Int) then (if 0≤x5 then (if x5 < (x1.length:Int) then (if (rd x0 x5)=(rd x1 x5) then (r_03_SameInts.l0 k x0 x1 (wrap64 (x5+1))) else (some false)) else (none)) else (none)) else (some true)
def r_03_SameInts.f (k:Nat) (l0:List Int) (l1:List Int):Option (Bool):=if (l0.length:Int)=(l1.length:Int) then (r_03_SameInts.l0 k l0 l1 0) else (some false)
set_option maxHeartbeats 8000000 in
set_option maxRecDepth 100000 in
theorem r_03_SameInts.calls (k:Nat) (A0:Option Addr) (c0:Nat) (l0:List Int) (A1:Option Addr) (c1:Nat) (l1:List Int) (r:Bool) (w:World) (hr0:Kd.C (Kd.int .i64) w A0 l0.length l0) (hc0:l0.length≤c0) (hr1:Kd.C (Kd.int .i64) w A1 l1.length l1) (hc1:l1.length≤c1) (h:r_03_SameInts.f k l0 l1=some r) :
  Calls Try.prog 29 #[.slice A0 l0.length c0,.slice A1 l1.length c1] w fun e w'=>e=.returned (.bool r)∧Drawn0 w w':=by
 have HR0:=am hr0
 have HC0:=am hc0
 clear hr0 hc0
 have HR1:=am hr1
 have HC1:=am hc1
 clear hr1 hc1
 have H:(if (l0.length:Int)=(l1.length:Int) then (r_03_SameInts.l0 k l0 l1 0) else (some false))=some r:=h
 clear h
 by_cases c3:(l0.length:Int)=(l1.length:Int)
 ·rw [if_pos c3] at H
  have c3b0:((l0.length:Int)==(l1.length:Int))=true:=beq_iff_eq.mpr c3
  have c3b1:((l0.length:Int) != (l1.length:Int))=false:=bne_eq_false_iff_eq.mpr c3
  have c3b2:(l0.length==l1.length)=true:=by first|simpa using c3|(simp at c3 ⊢;omega)
  clear c3
  have H':=am H
  clear H
  go_enter Try.func29,Try.ntmps29
  go_wp2
  repeat (go_quiet (fail);try go_wp2)
  go_loopg [5] k (fun kq v5 w'=>∃ (x5_1:Int),v5=.int .i64 x5_1∧Aside0 (r_03_SameInts.l0 kq l0 l1 x5_1=some r)∧Aside0 (kq≤k)∧Drawn0 w w')
  case atStart=>exact ⟨(0),(by first|rfl|(simp;done)|(simp [*];done)),H',⟨Nat.le_refl _⟩,by repeat (first|exact Drawn0.refl _|apply Drawn0.step)⟩
  case round =>
   clear H'
   try clear c1
   try clear c2
   try clear p2
   try clear c3
   try clear c3b0
   try clear c3b1
   try clear c3b2
   obtain ⟨x5_1,rfl,HA,HK1,⟨m1,rfl⟩⟩:=hrel
   cases gk with
   | zero=>exact absurd HA.out (by intro h_;cases h_)
   | succ k1 =>
    have H:=HA.out
    clear HA
    simp only [r_03_SameInts.l0] at H
    by_cases c4:x5_1 < (l0.length:Int)
    ·rw [if_pos c4] at H
     have c4b0:decide (x5_1 < (l0.length:Int))=true:=decide_eq_true c4
     clear c4
     by_cases c5:0≤x5_1
     ·rw [if_pos c5] at H
      have c5b0:decide (0≤x5_1)=true:=decide_eq_true c5
      clear c5
      by_cases c6:x5_1 < (l1.length:Int)
      ·rw [if_pos c6] at H
       have c6b0:decide (x5_1 < (l1.length:Int))=true:=decide_eq_true c6
       clear c6
       by_cases c7:(rd l0 x5_1)=(rd l1 x5_1)
       ·rw [if_pos c7] at H
        have c7b0:((rd l0 x5_1)==(rd l1 x5_1))=true:=beq_iff_eq.mpr c7
        have c7b1:((rd l0 x5_1) != (rd l1 x5_1))=false:=bne_eq_false_iff_eq.mpr c7
        clear c7
        have H':=am H
        clear H
        have p456:0≤(x5_1:Int):=od
        have q456:x5_1 < (l0.length:Int):=od
        obtain ⟨ad456,e456,hx456_0⟩:=Kd.at_int HR0.out x5_1 p456 q456
        cases e456
        replace p456:=eq_true p456;replace q456:=eq_true q456
        have p457:0≤(x5_1:Int):=od
        have q457:x5_1 < (l1.length:Int):=od
        obtain ⟨ad457,e457,hx457_0⟩:=Kd.at_int HR1.out x5_1 p457 q457
        cases e457
        replace p457:=eq_true p457;replace q457:=eq_true q457;go_wp2
        repeat (go_quiet (fail);try go_wp2)
        go_roundg k1
        case measure=>have:=HK1.out;omega
        case rel=>exact ⟨(wrap64 (x5_1+1)),(by first|rfl|(simp;done)|(simp [*];done)),H',⟨by have:=HK1.out;omega⟩,by repeat (first|exact Drawn0.refl _|apply Drawn0.step)⟩
       ·rw [if_neg c7] at H
        have c7b0:((rd l0 x5_1)==(rd l1 x5_1))=false:=beq_eq_false_iff_ne.mpr c7
        have c7b1:((rd l0 x5_1) != (rd l1 x5_1))=true:=bne_iff_ne.mpr c7
        obtain rfl:=Option.some.inj H
        have p456:0≤(x5_1:Int):=od
        have q456:x5_1 < (l0.length:Int):=od
        obtain ⟨ad456,e456,hx456_0⟩:=Kd.at_int HR0.out x5_1 p456 q456
        cases e456
        replace p456:=eq_true p456;replace q456:=eq_true q456
        have p457:0≤(x5_1:Int):=od
        have q457:x5_1 < (l1.length:Int):=od
        obtain ⟨ad457,e457,hx457_0⟩:=Kd.at_int HR1.out x5_1 p457 q457
        cases e457
        replace p457:=eq_true p457;replace q457:=eq_true q457;go_wp2
        repeat (go_quiet (fail);try go_wp2)
        go_ret
        exact ⟨by first|rfl|(simp;done)|(simp [*];done),by repeat (first|exact Drawn0.refl _|apply Drawn0.step)⟩
      ·rw [if_neg c6] at H
       exact absurd H (by simp)
     ·rw [if_neg c5] at H
      exact absurd H (by simp)
    ·rw [if_neg c4] at H
     have c4b0:decide (x5_1 < (l0.length:Int))=false:=decide_eq_false c4
     clear c4;obtain rfl:=Option.some.inj H;go_wp2
     repeat (go_quiet (fail);try go_wp2)
     go_ret
     exact ⟨by first|rfl|(simp;done)|(simp [*];done),by repeat (first|exact Drawn0.refl _|apply Drawn0.step)⟩
 ·rw [if_neg c3] at H
  have c3b0:((l0.length:Int)==(l1.length:Int))=false:=beq_eq_false_iff_ne.mpr c3
  have c3b1:((l0.length:Int) != (l1.length:Int))=true:=bne_iff_ne.mpr c3
  have c3b2:(l0.length==l1.length)=false:=by first|simpa using c3|(simp at c3 ⊢;omega)
  obtain rfl:=Option.some.inj H
  go_enter Try.func29,Try.ntmps29
  go_wp2
  repeat (go_quiet (fail);try go_wp2)
  go_ret
  exact ⟨by first|rfl|(simp;done)|(simp [*];done),by repeat (first|exact Drawn0.refl _|apply Drawn0.step)⟩
end Go.Proofs.Ytopmjjnkolfciaa.Pr
end
