/- MReads: this session's texts for the one law, put together (part 2 of 6): what its program computes, function by function, and that this answers true; the row stands at the end of the last part. Conditions: those that each theorem names; the last theorem has none. -/
import Derived.RangeFuncNested
import Derived.RangeFuncBound
import Derived.RangeFuncCalls
import Derived.RangeFuncLeaves
import Derived.RangeFuncBox
import Derived.Lib.AppendZerosOnto
import Derived.Lib.Overlaps
import Derived.Laws.Externs
import Derived.Laws.CopyRow
import Derived.Deep.DeepAppendWide
import Derived.Test.YtopmjjnkolfciaaMReadsA
section
namespace Go.Proofs.Ytopmjjnkolfciaa.Pr
open Go.RowKit Go.Proofs.YtopmjjnkolfciaaW.PrintWords Go.Proofs.YtopmjjnkolfciaaW.PrintLast Go.Proofs.YtopmjjnkolfciaaW.PrintMore
set_option linter.unusedVariables false
set_option linter.unusedSimpArgs false
def okB (l : List S24) : Bool := decide (l.length ≤ 60) && (l.all mayE && decide (l.Pairwise (fun a b => a.f0 + a.f2 ≤ b.f0)))
theorem okB_facts {l : List S24} (h : okB l = true) : l.length ≤ 60 ∧ l.all mayE = true ∧ riseL l := by
  unfold okB at h
  rw [Bool.and_eq_true, Bool.and_eq_true, decide_eq_true_eq, decide_eq_true_eq] at h
  exact ⟨h.1, h.2.1, h.2.2⟩
theorem okB_of {l : List S24} (h1 : l.length ≤ 60) (h2 : ∀ e ∈ l, mayE e = true) (h3 : riseL l) : okB l = true := by
  unfold okB
  rw [Bool.and_eq_true, Bool.and_eq_true, decide_eq_true_eq, decide_eq_true_eq]
  exact ⟨h1, List.all_eq_true.2 h2, h3⟩
def fitL (l : List S24) : List S24 × Int := if l.length > 60 then ([], 9) else (l, 0)
def partE (e : S24) (a b : Int) : S24 := ⟨a, e.f1 + (a - e.f0), b - a, e.f3⟩
def cA (e : S24) (x : Int) : Int := min (max e.f0 x) (e.f0 + e.f2)
def pieces3 (e : S24) (lo hi : Int) : List (S24 × Bool) :=
  (if e.f0 < cA e lo then [(partE e e.f0 (cA e lo), false)] else []) ++ ((if cA e lo < cA e hi then [(partE e (cA e lo) (cA e hi), true)] else []) ++ (if max (cA e lo) (cA e hi) < e.f0 + e.f2 then [(partE e (max (cA e lo) (cA e hi)) (e.f0 + e.f2), false)] else []))
def piecesL (l : List S24) (lo hi : Int) : List (S24 × Bool) := l.flatMap (fun e => pieces3 e lo hi)
def markP (p : S24 × Bool) : S24 := ⟨p.1.f0, p.1.f1, p.1.f2, p.1.f3 && !p.2⟩
def leftL (l : List S24) (lo hi : Int) : List S24 := ((piecesL l lo hi).filter (fun p => !p.2)).map (·.1)
def spansL (l : List S24) (lo hi : Int) : List S32 := ((piecesL l lo hi).filter (fun p => p.2)).map (fun p => ⟨p.1.f1, p.1.f2⟩)
def disjF (a b : S24) : Bool := decide (a.f0 + a.f2 ≤ b.f0 ∨ b.f0 + b.f2 ≤ a.f0)
def behindN (l : List S24) (x : Int) : Nat := (l.takeWhile (fun e => decide (e.f0 + e.f2 ≤ x))).length
def insE (l : List S24) (e : S24) : List S24 := l.take (behindN l e.f0) ++ e :: l.drop (behindN l e.f0)
def clash (l : List S24) (e : S24) : Bool := l.any (fun x => !(disjD x e && disjF x e))
def putR (l : List S24) (e : S24) : List S24 × Int := if clash l e = true then ([], 4) else fitL (mergeL (insE l e))
theorem behind_take : ∀ (l : List S24) (x : Int), ∀ e ∈ l.take (behindN l x), e.f0 + e.f2 ≤ x
  | [], x, e, h => by simp at h
  | a :: l, x, e, h => by
    unfold behindN at h
    rw [List.takeWhile_cons] at h
    by_cases c : a.f0 + a.f2 ≤ x
    · rw [if_pos (decide_eq_true c), List.length_cons, List.take_succ_cons] at h
      rcases List.mem_cons.1 h with rfl | h
      · exact c
      · exact behind_take l x e h
    · rw [if_neg (by simpa using c)] at h
      simp at h
theorem behind_drop : ∀ (l : List S24) (x : Int), riseL l → (∀ e ∈ l, 1 ≤ e.f2) → ∀ e ∈ l.drop (behindN l x), ¬ e.f0 + e.f2 ≤ x
  | [], x, _, _, e, h => by simp at h
  | a :: l, x, hr, h1, e, h => by
    unfold behindN at h
    rw [List.takeWhile_cons] at h
    have hr' := List.pairwise_cons.1 hr
    by_cases c : a.f0 + a.f2 ≤ x
    · rw [if_pos (decide_eq_true c), List.length_cons, List.drop_succ_cons] at h
      exact behind_drop l x hr'.2 (fun y hy => h1 y (List.mem_cons_of_mem _ hy)) e h
    · rw [if_neg (by simpa using c)] at h
      rw [List.length_nil, List.drop_zero] at h
      rcases List.mem_cons.1 h with rfl | h
      · exact c
      · have := hr'.1 e h
        have := h1 e (List.mem_cons_of_mem _ h)
        omega
theorem insE_mem {l : List S24} {e x : S24} : x ∈ insE l e ↔ x = e ∨ x ∈ l := by
  unfold insE
  conv => rhs; rhs; rw [← List.take_append_drop (behindN l e.f0) l]
  simp only [List.mem_append, List.mem_cons]
  constructor
  · rintro (h | h | h)
    · exact Or.inr (Or.inl h)
    · exact Or.inl h
    · exact Or.inr (Or.inr h)
  · rintro (h | h | h)
    · exact Or.inr (Or.inl h)
    · exact Or.inl h
    · exact Or.inr (Or.inr h)
def cutR (l : List S24) (lo hi : Int) : List S24 × List S32 × Int := if (fitL (mergeL (leftL l lo hi))).2 = 0 then ((fitL (mergeL (leftL l lo hi))).1, spansL l lo hi, 0) else ([], [], (fitL (mergeL (leftL l lo hi))).2)
theorem behindN_le (l : List S24) (s : Int) : behindN l s ≤ l.length := by unfold behindN; exact (List.takeWhile_sublist _).length_le
end Go.Proofs.Ytopmjjnkolfciaa.Pr
end
section
namespace Go.Proofs.Ytopmjjnkolfciaa.Pr
open Go.RowKit Go.Proofs.YtopmjjnkolfciaaW.PrintWords Go.Proofs.YtopmjjnkolfciaaW.PrintLast Go.Proofs.YtopmjjnkolfciaaW.PrintMore
attribute [local go_sem] max2_int min2_int max_two min_two max_three min_three max_four min_four
attribute [local go_sem] Go.Proofs.Ytopmjjnkolfciaa.Hl.str_geq Go.Proofs.Ytopmjjnkolfciaa.Hl.str_gtr Go.Proofs.Ytopmjjnkolfciaa.Hl.str_leq
set_option linter.unusedVariables false
set_option linter.unusedSimpArgs false
def extent_end.f (a0_0:Int) (a0_1:Int) (a0_2:Int) (a0_3:Bool):Option (Int):=some (wrap64 (a0_0+a0_2))
set_option maxHeartbeats 8000000 in
set_option maxRecDepth 100000 in
theorem extent_end.calls (a0_0:Int) (a0_1:Int) (a0_2:Int) (a0_3:Bool) (r:Int) (w:World) (h:extent_end.f a0_0 a0_1 a0_2 a0_3=some r) :
  Calls Try.prog 35 #[.agg #[.int .i64 a0_0,.int .i64 a0_1,.int .i64 a0_2,.bool a0_3]] w fun e w'=>e=.returned (.int .i64 r)∧Below w.heap.size w w':=by
 have hu24:=Try.underlying24
 have HB:=am (Below.refl w.heap.size w)
 have H:(some (wrap64 (a0_0+a0_2)))=some r:=h
 clear h;obtain rfl:=Option.some.inj H
 go_enter Try.func35,Try.ntmps35
 go_wp2_with (first|((with_reducible refine gate_dst (N:=1) rfl ?_);refine box_event ?hg (N:=1) ?hd (cs:=#[.int .i64 a0_0,.int .i64 a0_1,.int .i64 a0_2,.bool a0_3]) (t:=24) ?hr ?_;(case hd=>rfl);(case hg=>rfl);(case hr=>first|(go_simp;done)|(go_simp;rfl));intro gb101 hg w2 hbox hb;have n0_:=bst HB hb;have n1_:=am (hbox);have n2_:=am ((gz hg HB));have n3_:=am ((gz hg HB));clear HB;have HB:=n0_;have BK101:=n1_;have GW101:=n2_;have GE101:=n3_;clear n0_ n1_ n2_ n3_;clear hb hbox hg;have hcz3_0:w2.cell? ⟨gb101,0,none⟩=some (.int .i64 a0_0):=kc BK101 0;have hcz3_1:w2.cell? ⟨gb101,1,none⟩=some (.int .i64 a0_1):=kc BK101 1;have hcz3_2:w2.cell? ⟨gb101,2,none⟩=some (.int .i64 a0_2):=kc BK101 2;have hcz3_3:w2.cell? ⟨gb101,3,none⟩=some (.bool a0_3):=kc BK101 3;have hfz3_0:=blk_frozen BK101.out 0;have hfz3_1:=blk_frozen BK101.out 1;have hfz3_2:=blk_frozen BK101.out 2;have hfz3_3:=blk_frozen BK101.out 3))
 go_ret
 exact ⟨by first|rfl|(simp [errW_none,errW_some]<;>rfl)|(simp [*,errW_none,errW_some]<;>rfl),bxs HB GE101⟩
def extent_last.f (a0_0:Int) (a0_1:Int) (a0_2:Int) (a0_3:Bool):Option (Int):=some (wrap64 (a0_1+a0_2))
set_option maxHeartbeats 8000000 in
set_option maxRecDepth 100000 in
theorem extent_last.calls (a0_0:Int) (a0_1:Int) (a0_2:Int) (a0_3:Bool) (r:Int) (w:World) (h:extent_last.f a0_0 a0_1 a0_2 a0_3=some r) :
  Calls Try.prog 65 #[.agg #[.int .i64 a0_0,.int .i64 a0_1,.int .i64 a0_2,.bool a0_3]] w fun e w'=>e=.returned (.int .i64 r)∧Below w.heap.size w w':=by
 have hu24:=Try.underlying24
 have HB:=am (Below.refl w.heap.size w)
 have H:(some (wrap64 (a0_1+a0_2)))=some r:=h
 clear h;obtain rfl:=Option.some.inj H
 go_enter Try.func65,Try.ntmps65
 go_wp2_with (first|((with_reducible refine gate_dst (N:=1) rfl ?_);refine box_event ?hg (N:=1) ?hd (cs:=#[.int .i64 a0_0,.int .i64 a0_1,.int .i64 a0_2,.bool a0_3]) (t:=24) ?hr ?_;(case hd=>rfl);(case hg=>rfl);(case hr=>first|(go_simp;done)|(go_simp;rfl));intro gb102 hg w2 hbox hb;have n0_:=bst HB hb;have n1_:=am (hbox);have n2_:=am ((gz hg HB));have n3_:=am ((gz hg HB));clear HB;have HB:=n0_;have BK102:=n1_;have GW102:=n2_;have GE102:=n3_;clear n0_ n1_ n2_ n3_;clear hb hbox hg;have hcz3_0:w2.cell? ⟨gb102,0,none⟩=some (.int .i64 a0_0):=kc BK102 0;have hcz3_1:w2.cell? ⟨gb102,1,none⟩=some (.int .i64 a0_1):=kc BK102 1;have hcz3_2:w2.cell? ⟨gb102,2,none⟩=some (.int .i64 a0_2):=kc BK102 2;have hcz3_3:w2.cell? ⟨gb102,3,none⟩=some (.bool a0_3):=kc BK102 3;have hfz3_0:=blk_frozen BK102.out 0;have hfz3_1:=blk_frozen BK102.out 1;have hfz3_2:=blk_frozen BK102.out 2;have hfz3_3:=blk_frozen BK102.out 3))
 go_ret
 exact ⟨by first|rfl|(simp [errW_none,errW_some]<;>rfl)|(simp [*,errW_none,errW_some]<;>rfl),bxs HB GE102⟩
def extent_goes.f (a0_0:Int) (a0_1:Int) (a0_2:Int) (a0_3:Bool) (a1_0:Int) (a1_1:Int) (a1_2:Int) (a1_3:Bool):Option (Bool):=(extent_end.f a0_0 a0_1 a0_2 a0_3).bind fun t108=>(if t108=a1_0 then ((extent_last.f a0_0 a0_1 a0_2 a0_3).bind fun t109=>(if t109=a1_1 then (some (a0_3==a1_3)) else (some false))) else (some false))
def extent_goes.T1:Bool×List (List Nat×List Nat):=(true,[([],[]),([0],[0]),([],[]),([2],[2]),([1,3],[1,3]),([4,1],[4]),([5],[5]),([6,5,5],[5,6]),([5],[5]),([8,5],[5,8]),([7,9,5],[5,7,9]),([5,10],[5,10]),([11,7],[11]),([12],[12]),([13,12],[12,13]),([12],[12]),([15,12],[12,15]),([14,16,12],[12,14,16]),([12,17],[12,17]),([18,12,0,1,2,3,4,5,6,7,8,9,10,11,12,13,14,15,16,17,18],[18])])
def extent_goes.B1:List Nat:=[0,1,0,4,15,31,63,127,63,319,1023,2047,4095,8191,16383,8191,40959,131071,262143,524287]
theorem extent_goes.tab1:rtab .any (opsOf Try.f36 1)=extent_goes.T1:=by kernel_rfl
theorem extent_goes.bits1:waitsOk extent_goes.T1.2 extent_goes.B1=true:=by kernel_rfl
set_option maxHeartbeats 8000000 in
set_option maxRecDepth 100000 in
theorem extent_goes.calls (a0_0:Int) (a0_1:Int) (a0_2:Int) (a0_3:Bool) (a1_0:Int) (a1_1:Int) (a1_2:Int) (a1_3:Bool) (r:Bool) (w:World) (h:extent_goes.f a0_0 a0_1 a0_2 a0_3 a1_0 a1_1 a1_2 a1_3=some r) :
  Calls Try.prog 36 #[.agg #[.int .i64 a0_0,.int .i64 a0_1,.int .i64 a0_2,.bool a0_3],.agg #[.int .i64 a1_0,.int .i64 a1_1,.int .i64 a1_2,.bool a1_3]] w fun e w'=>e=.returned (.bool r)∧Below w.heap.size w w':=by
 have hu24:=Try.underlying24
 have HB:=am (Below.refl w.heap.size w)
 have H:((extent_end.f a0_0 a0_1 a0_2 a0_3).bind fun t108=>(if t108=a1_0 then ((extent_last.f a0_0 a0_1 a0_2 a0_3).bind fun t109=>(if t109=a1_1 then (some (a0_3==a1_3)) else (some false))) else (some false)))=some r:=h
 clear h
 replace H:=Option.bind_eq_some_iff.mp H
 obtain ⟨t108,A30,H⟩:=H
 replace H:(if t108=a1_0 then ((extent_last.f a0_0 a0_1 a0_2 a0_3).bind fun t109=>(if t109=a1_1 then (some (a0_3==a1_3)) else (some false))) else (some false))=some r:=H
 have A3:=am A30
 clear A30
 by_cases c4:t108=a1_0
 ·rw [if_pos c4] at H
  have c4b0:(t108==a1_0)=true:=beq_iff_eq.mpr c4
  have c4b1:(t108 != a1_0)=false:=bne_eq_false_iff_eq.mpr c4
  clear c4
  replace H:=Option.bind_eq_some_iff.mp H
  obtain ⟨t109,A50,H⟩:=H
  replace H:(if t109=a1_1 then (some (a0_3==a1_3)) else (some false))=some r:=H
  have A5:=am A50
  clear A50
  by_cases c6:t109=a1_1
  ·rw [if_pos c6] at H
   have c6b0:(t109==a1_1)=true:=beq_iff_eq.mpr c6
   have c6b1:(t109 != a1_1)=false:=bne_eq_false_iff_eq.mpr c6
   clear c6;obtain rfl:=Option.some.inj H
   go_enter Try.func36,Try.ntmps36
   try go_wp2_with (first|((with_reducible refine gate_dst (N:=2) rfl ?_);refine box_event ?hg (N:=2) ?hd (cs:=#[.int .i64 a0_0,.int .i64 a0_1,.int .i64 a0_2,.bool a0_3]) (t:=24) ?hr ?_;(case hd=>rfl);(case hg=>rfl);(case hr=>first|(go_simp;done)|(go_simp;rfl));intro gb106 hg w7 hbox hb;have n0_:=bst HB hb;have n1_:=am (hbox);have n2_:=am ((gz hg HB));have n3_:=am ((gz hg HB));clear HB;have HB:=n0_;have BK106:=n1_;have GW106:=n2_;have GE106:=n3_;clear n0_ n1_ n2_ n3_;clear hb hbox hg)|((with_reducible refine gate_dst (N:=3) rfl ?_);refine box_event ?hg (N:=3) ?hd (cs:=#[.int .i64 a1_0,.int .i64 a1_1,.int .i64 a1_2,.bool a1_3]) (t:=24) ?hr ?_;(case hd=>rfl);(case hg=>rfl);(case hr=>first|(go_simp;done)|(go_simp;rfl));intro gb107 hg w8 hbox hb;have n0_:=am (blk_below (g:=gb106) (o:=.cells #[.int .i64 a0_0,.int .i64 a0_1,.int .i64 a0_2,.bool a0_3] 24 (0,0)) (rK BK106) hb);have n1_:=am (below_step (bxs HB GE106) hb);have n2_:=am (hbox);have n3_:=am ((by rw [hg];exact (below_size (bxs HB GE106)):w.heap.size≤gb107));have n4_:=am ((by rw [hg];exact (below_size (bxs HB GE106)):w.heap.size≤gb107));have n5_:=am ((by rw [hg];exact Nat.ne_of_lt (blk_lt (g:=gb106) (o:=.cells #[.int .i64 a0_0,.int .i64 a0_1,.int .i64 a0_2,.bool a0_3] 24 (0,0)) (rK BK106)):gb106≠gb107));have n6_:=am ((by rw [hg];exact Nat.ne_of_gt (blk_lt (g:=gb106) (o:=.cells #[.int .i64 a0_0,.int .i64 a0_1,.int .i64 a0_2,.bool a0_3] 24 (0,0)) (rK BK106)):gb107≠gb106));clear BK106;clear HB;have BK106:=n0_;have HB:=n1_;have BK107:=n2_;have GW107:=n3_;have GE107:=n4_;have NB106_107:=n5_;have NB107_106:=n6_;clear n0_ n1_ n2_ n3_ n4_ n5_ n6_;clear hb hbox hg))
   have n0_:=am (blk_drew BK106.out)
   have n1_:=am (blk_drew BK107.out)
   have n2_:=am (below_drew1 HB.out)
   clear BK106;clear BK107;clear HB;have BK106:=n0_;have BK107:=n1_;have HB:=n2_;clear n0_ n1_ n2_
   refine start_ (n:=20) (S:=fun w'=>w'.cell? ⟨gb106,0,none⟩=some (.int .i64 a0_0)∧w'.cell? ⟨gb106,1,none⟩=some (.int .i64 a0_1)∧w'.cell? ⟨gb106,2,none⟩=some (.int .i64 a0_2)∧w'.cell? ⟨gb106,3,none⟩=some (.bool a0_3)∧w'.cell? ⟨gb107,0,none⟩=some (.int .i64 a1_0)∧w'.cell? ⟨gb107,1,none⟩=some (.int .i64 a1_1)∧w'.cell? ⟨gb107,2,none⟩=some (.int .i64 a1_2)∧w'.cell? ⟨gb107,3,none⟩=some (.bool a1_3)) (ds:=[]) _ (by kernel_rfl) rfl rfl ⟨kc BK106 0,kc BK106 1,kc BK106 2,kc BK106 3,kc BK107 0,kc BK107 1,kc BK107 2,kc BK107 3⟩ (fun hHeld=>?_);refine with_tabW extent_goes.tab1 extent_goes.bits1 (fun HT_ HW_=>?_)
   generalize w8.drew=w9 at BK106 BK107 HB hHeld ⊢
   refine pS 2 7 HT_ ?_;refine tS 0 5 HT_ HW_ hHeld ?_ (hy:=by rintro w' ⟨s0,s1,s2,s3,s4,s5,s6,s7⟩;go_simp;with_reducible rfl);refine tS 3 8 HT_ HW_ hHeld ?_ (hy:=by rintro w' ⟨s0,s1,s2,s3,s4,s5,s6,s7⟩;go_simp;with_reducible rfl)
   refine oS 1 (some 6) HT_ (fun K hK=>?_)
   refine gS Try.func35 #[.agg #[.int .i64 a0_0,.int .i64 a0_1,.int .i64 a0_2,.bool a0_3]] ?_
   with_reducible refine (extent_end.calls a0_0 a0_1 a0_2 a0_3 t108 _ A3.out).mono ?_
   rintro e w10 ⟨rfl,hb⟩
   refine ⟨_,rfl,?_⟩
   have n0_:=am (blk_below (g:=gb106) (o:=.cells #[.int .i64 a0_0,.int .i64 a0_1,.int .i64 a0_2,.bool a0_3] 24 (0,0)) (rK BK106) hb)
   have n1_:=am (blk_below (g:=gb107) (o:=.cells #[.int .i64 a1_0,.int .i64 a1_1,.int .i64 a1_2,.bool a1_3] 24 (0,0)) (rK BK107) hb)
   have n2_:=am (below_step (by repeat (first|(with_reducible first|exact HB.out|apply below_alloc|apply pw_below_drewN|apply below_drew1|refine below_set ?_ GE106.out|refine below_set ?_ GE107.out)|exact HB.out)) hb)
   clear BK106;clear BK107;clear HB;have BK106:=n0_;have BK107:=n1_;have HB:=n2_;clear n0_ n1_ n2_
   (try clear hb)
   (try clear hb2)
   (try clear hk)
   (try clear hi)
   refine hK.out _ _ ⟨kc BK106 0,kc BK106 1,kc BK106 2,kc BK106 3,kc BK107 0,kc BK107 1,kc BK107 2,kc BK107 3⟩ (fun hHeld=>?_)
   clear hK K;refine norm_ (a':=?_) ?_ ?_;rotate_left
   ·show Act.put _ (some 6) _=_
    simp only [Act.put,sIb,sC0,sCs,i64_w,i32_w];rfl
   refine pS 4 9 HT_ ?_;refine pS 5 10 HT_ ?_;refine pS 8 13 HT_ ?_;refine tS 6 11 HT_ HW_ hHeld ?_ (hy:=by rintro w' ⟨s0,s1,s2,s3,s4,s5,s6,s7⟩;go_simp;with_reducible rfl);refine tS 9 14 HT_ HW_ hHeld ?_ (hy:=by rintro w' ⟨s0,s1,s2,s3,s4,s5,s6,s7⟩;go_simp;with_reducible rfl)
   refine oS 7 (some 12) HT_ (fun K hK=>?_)
   refine gS Try.func65 #[.agg #[.int .i64 a0_0,.int .i64 a0_1,.int .i64 a0_2,.bool a0_3]] ?_
   with_reducible refine (extent_last.calls a0_0 a0_1 a0_2 a0_3 t109 _ A5.out).mono ?_
   rintro e w11 ⟨rfl,hb⟩
   refine ⟨_,rfl,?_⟩
   have n0_:=am (blk_below (g:=gb106) (o:=.cells #[.int .i64 a0_0,.int .i64 a0_1,.int .i64 a0_2,.bool a0_3] 24 (0,0)) (rK BK106) hb)
   have n1_:=am (blk_below (g:=gb107) (o:=.cells #[.int .i64 a1_0,.int .i64 a1_1,.int .i64 a1_2,.bool a1_3] 24 (0,0)) (rK BK107) hb)
   have n2_:=am (below_step (by repeat (first|(with_reducible first|exact HB.out|apply below_alloc|apply pw_below_drewN|apply below_drew1|refine below_set ?_ GE106.out|refine below_set ?_ GE107.out)|exact HB.out)) hb)
   clear BK106;clear BK107;clear HB;have BK106:=n0_;have BK107:=n1_;have HB:=n2_;clear n0_ n1_ n2_
   (try clear hb)
   (try clear hb2)
   (try clear hk)
   (try clear hi)
   refine hK.out _ _ ⟨kc BK106 0,kc BK106 1,kc BK106 2,kc BK106 3,kc BK107 0,kc BK107 1,kc BK107 2,kc BK107 3⟩ (fun hHeld=>?_)
   clear hK K;refine norm_ (a':=?_) ?_ ?_;rotate_left
   ·show Act.put _ (some 12) _=_
    simp only [Act.put,sIb,sC0,sCs,i64_w,i32_w];rfl
   refine pS 10 15 HT_ ?_;refine pS 11 16 HT_ ?_;refine pS 12 17 HT_ ?_;refine pS 13 18 HT_ ?_;refine pS 15 20 HT_ ?_;refine tS 14 19 HT_ HW_ hHeld ?_ (hy:=by rintro w' ⟨s0,s1,s2,s3,s4,s5,s6,s7⟩;go_simp;with_reducible rfl);refine tS 16 21 HT_ HW_ hHeld ?_ (hy:=by rintro w' ⟨s0,s1,s2,s3,s4,s5,s6,s7⟩;go_simp;with_reducible rfl);refine pS 17 22 HT_ ?_;refine pS 18 23 HT_ ?_;refine pS 19 4 HT_ ?_
   refine done_ (done_of HT_.out (by kernel_rfl)) ?_
   try go_wp2
   go_ret
   exact ⟨by first|rfl|(simp [errW_none,errW_some]<;>rfl)|(simp [*,errW_none,errW_some]<;>rfl),by repeat (first|(with_reducible first|exact HB.out|apply below_alloc|apply pw_below_drewN|apply below_drew1|refine below_set ?_ GE106.out|refine below_set ?_ GE107.out)|exact HB.out)⟩
  ·rw [if_neg c6] at H
   have c6b0:(t109==a1_1)=false:=beq_eq_false_iff_ne.mpr c6
   have c6b1:(t109 != a1_1)=true:=bne_iff_ne.mpr c6
   obtain rfl:=Option.some.inj H
   go_enter Try.func36,Try.ntmps36
   try go_wp2_with (first|((with_reducible refine gate_dst (N:=2) rfl ?_);refine box_event ?hg (N:=2) ?hd (cs:=#[.int .i64 a0_0,.int .i64 a0_1,.int .i64 a0_2,.bool a0_3]) (t:=24) ?hr ?_;(case hd=>rfl);(case hg=>rfl);(case hr=>first|(go_simp;done)|(go_simp;rfl));intro gb106 hg w12 hbox hb;have n0_:=bst HB hb;have n1_:=am (hbox);have n2_:=am ((gz hg HB));have n3_:=am ((gz hg HB));clear HB;have HB:=n0_;have BK106:=n1_;have GW106:=n2_;have GE106:=n3_;clear n0_ n1_ n2_ n3_;clear hb hbox hg)|((with_reducible refine gate_dst (N:=3) rfl ?_);refine box_event ?hg (N:=3) ?hd (cs:=#[.int .i64 a1_0,.int .i64 a1_1,.int .i64 a1_2,.bool a1_3]) (t:=24) ?hr ?_;(case hd=>rfl);(case hg=>rfl);(case hr=>first|(go_simp;done)|(go_simp;rfl));intro gb107 hg w13 hbox hb;have n0_:=am (blk_below (g:=gb106) (o:=.cells #[.int .i64 a0_0,.int .i64 a0_1,.int .i64 a0_2,.bool a0_3] 24 (0,0)) (rK BK106) hb);have n1_:=am (below_step (bxs HB GE106) hb);have n2_:=am (hbox);have n3_:=am ((by rw [hg];exact (below_size (bxs HB GE106)):w.heap.size≤gb107));have n4_:=am ((by rw [hg];exact (below_size (bxs HB GE106)):w.heap.size≤gb107));have n5_:=am ((by rw [hg];exact Nat.ne_of_lt (blk_lt (g:=gb106) (o:=.cells #[.int .i64 a0_0,.int .i64 a0_1,.int .i64 a0_2,.bool a0_3] 24 (0,0)) (rK BK106)):gb106≠gb107));have n6_:=am ((by rw [hg];exact Nat.ne_of_gt (blk_lt (g:=gb106) (o:=.cells #[.int .i64 a0_0,.int .i64 a0_1,.int .i64 a0_2,.bool a0_3] 24 (0,0)) (rK BK106)):gb107≠gb106));clear BK106;clear HB;have BK106:=n0_;have HB:=n1_;have BK107:=n2_;have GW107:=n3_;have GE107:=n4_;have NB106_107:=n5_;have NB107_106:=n6_;clear n0_ n1_ n2_ n3_ n4_ n5_ n6_;clear hb hbox hg))
   have n0_:=am (blk_drew BK106.out)
   have n1_:=am (blk_drew BK107.out)
   have n2_:=am (below_drew1 HB.out)
   clear BK106;clear BK107;clear HB;have BK106:=n0_;have BK107:=n1_;have HB:=n2_;clear n0_ n1_ n2_
   refine start_ (n:=20) (S:=fun w'=>w'.cell? ⟨gb106,0,none⟩=some (.int .i64 a0_0)∧w'.cell? ⟨gb106,1,none⟩=some (.int .i64 a0_1)∧w'.cell? ⟨gb106,2,none⟩=some (.int .i64 a0_2)∧w'.cell? ⟨gb106,3,none⟩=some (.bool a0_3)∧w'.cell? ⟨gb107,0,none⟩=some (.int .i64 a1_0)∧w'.cell? ⟨gb107,1,none⟩=some (.int .i64 a1_1)∧w'.cell? ⟨gb107,2,none⟩=some (.int .i64 a1_2)∧w'.cell? ⟨gb107,3,none⟩=some (.bool a1_3)) (ds:=[]) _ (by kernel_rfl) rfl rfl ⟨kc BK106 0,kc BK106 1,kc BK106 2,kc BK106 3,kc BK107 0,kc BK107 1,kc BK107 2,kc BK107 3⟩ (fun hHeld=>?_);refine with_tabW extent_goes.tab1 extent_goes.bits1 (fun HT_ HW_=>?_)
   generalize w13.drew=w14 at BK106 BK107 HB hHeld ⊢
   refine pS 2 7 HT_ ?_;refine tS 0 5 HT_ HW_ hHeld ?_ (hy:=by rintro w' ⟨s0,s1,s2,s3,s4,s5,s6,s7⟩;go_simp;with_reducible rfl);refine tS 3 8 HT_ HW_ hHeld ?_ (hy:=by rintro w' ⟨s0,s1,s2,s3,s4,s5,s6,s7⟩;go_simp;with_reducible rfl)
   refine oS 1 (some 6) HT_ (fun K hK=>?_)
   refine gS Try.func35 #[.agg #[.int .i64 a0_0,.int .i64 a0_1,.int .i64 a0_2,.bool a0_3]] ?_
   with_reducible refine (extent_end.calls a0_0 a0_1 a0_2 a0_3 t108 _ A3.out).mono ?_
   rintro e w15 ⟨rfl,hb⟩
   refine ⟨_,rfl,?_⟩
   have n0_:=am (blk_below (g:=gb106) (o:=.cells #[.int .i64 a0_0,.int .i64 a0_1,.int .i64 a0_2,.bool a0_3] 24 (0,0)) (rK BK106) hb)
   have n1_:=am (blk_below (g:=gb107) (o:=.cells #[.int .i64 a1_0,.int .i64 a1_1,.int .i64 a1_2,.bool a1_3] 24 (0,0)) (rK BK107) hb)
   have n2_:=am (below_step (by repeat (first|(with_reducible first|exact HB.out|apply below_alloc|apply pw_below_drewN|apply below_drew1|refine below_set ?_ GE106.out|refine below_set ?_ GE107.out)|exact HB.out)) hb)
   clear BK106;clear BK107;clear HB;have BK106:=n0_;have BK107:=n1_;have HB:=n2_;clear n0_ n1_ n2_
   (try clear hb)
   (try clear hb2)
   (try clear hk)
   (try clear hi)
   refine hK.out _ _ ⟨kc BK106 0,kc BK106 1,kc BK106 2,kc BK106 3,kc BK107 0,kc BK107 1,kc BK107 2,kc BK107 3⟩ (fun hHeld=>?_)
   clear hK K;refine norm_ (a':=?_) ?_ ?_;rotate_left
   ·show Act.put _ (some 6) _=_
    simp only [Act.put,sIb,sC0,sCs,i64_w,i32_w];rfl
   refine pS 4 9 HT_ ?_;refine pS 5 10 HT_ ?_;refine pS 8 13 HT_ ?_;refine tS 6 11 HT_ HW_ hHeld ?_ (hy:=by rintro w' ⟨s0,s1,s2,s3,s4,s5,s6,s7⟩;go_simp;with_reducible rfl);refine tS 9 14 HT_ HW_ hHeld ?_ (hy:=by rintro w' ⟨s0,s1,s2,s3,s4,s5,s6,s7⟩;go_simp;with_reducible rfl)
   refine oS 7 (some 12) HT_ (fun K hK=>?_)
   refine gS Try.func65 #[.agg #[.int .i64 a0_0,.int .i64 a0_1,.int .i64 a0_2,.bool a0_3]] ?_
   with_reducible refine (extent_last.calls a0_0 a0_1 a0_2 a0_3 t109 _ A5.out).mono ?_
   rintro e w16 ⟨rfl,hb⟩
   refine ⟨_,rfl,?_⟩
   have n0_:=am (blk_below (g:=gb106) (o:=.cells #[.int .i64 a0_0,.int .i64 a0_1,.int .i64 a0_2,.bool a0_3] 24 (0,0)) (rK BK106) hb)
   have n1_:=am (blk_below (g:=gb107) (o:=.cells #[.int .i64 a1_0,.int .i64 a1_1,.int .i64 a1_2,.bool a1_3] 24 (0,0)) (rK BK107) hb)
   have n2_:=am (below_step (by repeat (first|(with_reducible first|exact HB.out|apply below_alloc|apply pw_below_drewN|apply below_drew1|refine below_set ?_ GE106.out|refine below_set ?_ GE107.out)|exact HB.out)) hb)
   clear BK106;clear BK107;clear HB;have BK106:=n0_;have BK107:=n1_;have HB:=n2_;clear n0_ n1_ n2_
   (try clear hb)
   (try clear hb2)
   (try clear hk)
   (try clear hi)
   refine hK.out _ _ ⟨kc BK106 0,kc BK106 1,kc BK106 2,kc BK106 3,kc BK107 0,kc BK107 1,kc BK107 2,kc BK107 3⟩ (fun hHeld=>?_)
   clear hK K;refine norm_ (a':=?_) ?_ ?_;rotate_left
   ·show Act.put _ (some 12) _=_
    simp only [Act.put,sIb,sC0,sCs,i64_w,i32_w];rfl
   refine pS 10 15 HT_ ?_;refine pS 11 16 HT_ ?_;refine pS 12 17 HT_ ?_;refine uS 13 18 HT_ ?_;refine uS 14 19 HT_ ?_;refine uS 15 20 HT_ ?_;refine uS 16 21 HT_ ?_;refine uS 17 22 HT_ ?_;refine pS 18 23 HT_ ?_;refine pS 19 4 HT_ ?_
   refine done_ (done_of HT_.out (by kernel_rfl)) ?_
   try go_wp2
   go_ret
   exact ⟨by first|rfl|(simp [errW_none,errW_some]<;>rfl)|(simp [*,errW_none,errW_some]<;>rfl),by repeat (first|(with_reducible first|exact HB.out|apply below_alloc|apply pw_below_drewN|apply below_drew1|refine below_set ?_ GE106.out|refine below_set ?_ GE107.out)|exact HB.out)⟩
 ·rw [if_neg c4] at H
  have c4b0:(t108==a1_0)=false:=beq_eq_false_iff_ne.mpr c4
  have c4b1:(t108 != a1_0)=true:=bne_iff_ne.mpr c4
  obtain rfl:=Option.some.inj H
  go_enter Try.func36,Try.ntmps36
  try go_wp2_with (first|((with_reducible refine gate_dst (N:=2) rfl ?_);refine box_event ?hg (N:=2) ?hd (cs:=#[.int .i64 a0_0,.int .i64 a0_1,.int .i64 a0_2,.bool a0_3]) (t:=24) ?hr ?_;(case hd=>rfl);(case hg=>rfl);(case hr=>first|(go_simp;done)|(go_simp;rfl));intro gb106 hg w17 hbox hb;have n0_:=bst HB hb;have n1_:=am (hbox);have n2_:=am ((gz hg HB));have n3_:=am ((gz hg HB));clear HB;have HB:=n0_;have BK106:=n1_;have GW106:=n2_;have GE106:=n3_;clear n0_ n1_ n2_ n3_;clear hb hbox hg)|((with_reducible refine gate_dst (N:=3) rfl ?_);refine box_event ?hg (N:=3) ?hd (cs:=#[.int .i64 a1_0,.int .i64 a1_1,.int .i64 a1_2,.bool a1_3]) (t:=24) ?hr ?_;(case hd=>rfl);(case hg=>rfl);(case hr=>first|(go_simp;done)|(go_simp;rfl));intro gb107 hg w18 hbox hb;have n0_:=am (blk_below (g:=gb106) (o:=.cells #[.int .i64 a0_0,.int .i64 a0_1,.int .i64 a0_2,.bool a0_3] 24 (0,0)) (rK BK106) hb);have n1_:=am (below_step (bxs HB GE106) hb);have n2_:=am (hbox);have n3_:=am ((by rw [hg];exact (below_size (bxs HB GE106)):w.heap.size≤gb107));have n4_:=am ((by rw [hg];exact (below_size (bxs HB GE106)):w.heap.size≤gb107));have n5_:=am ((by rw [hg];exact Nat.ne_of_lt (blk_lt (g:=gb106) (o:=.cells #[.int .i64 a0_0,.int .i64 a0_1,.int .i64 a0_2,.bool a0_3] 24 (0,0)) (rK BK106)):gb106≠gb107));have n6_:=am ((by rw [hg];exact Nat.ne_of_gt (blk_lt (g:=gb106) (o:=.cells #[.int .i64 a0_0,.int .i64 a0_1,.int .i64 a0_2,.bool a0_3] 24 (0,0)) (rK BK106)):gb107≠gb106));clear BK106;clear HB;have BK106:=n0_;have HB:=n1_;have BK107:=n2_;have GW107:=n3_;have GE107:=n4_;have NB106_107:=n5_;have NB107_106:=n6_;clear n0_ n1_ n2_ n3_ n4_ n5_ n6_;clear hb hbox hg))
  have n0_:=am (blk_drew BK106.out)
  have n1_:=am (blk_drew BK107.out)
  have n2_:=am (below_drew1 HB.out)
  clear BK106;clear BK107;clear HB;have BK106:=n0_;have BK107:=n1_;have HB:=n2_;clear n0_ n1_ n2_
  refine start_ (n:=20) (S:=fun w'=>w'.cell? ⟨gb106,0,none⟩=some (.int .i64 a0_0)∧w'.cell? ⟨gb106,1,none⟩=some (.int .i64 a0_1)∧w'.cell? ⟨gb106,2,none⟩=some (.int .i64 a0_2)∧w'.cell? ⟨gb106,3,none⟩=some (.bool a0_3)∧w'.cell? ⟨gb107,0,none⟩=some (.int .i64 a1_0)∧w'.cell? ⟨gb107,1,none⟩=some (.int .i64 a1_1)∧w'.cell? ⟨gb107,2,none⟩=some (.int .i64 a1_2)∧w'.cell? ⟨gb107,3,none⟩=some (.bool a1_3)) (ds:=[]) _ (by kernel_rfl) rfl rfl ⟨kc BK106 0,kc BK106 1,kc BK106 2,kc BK106 3,kc BK107 0,kc BK107 1,kc BK107 2,kc BK107 3⟩ (fun hHeld=>?_);refine with_tabW extent_goes.tab1 extent_goes.bits1 (fun HT_ HW_=>?_)
  generalize w18.drew=w19 at BK106 BK107 HB hHeld ⊢
  refine pS 2 7 HT_ ?_;refine tS 0 5 HT_ HW_ hHeld ?_ (hy:=by rintro w' ⟨s0,s1,s2,s3,s4,s5,s6,s7⟩;go_simp;with_reducible rfl);refine tS 3 8 HT_ HW_ hHeld ?_ (hy:=by rintro w' ⟨s0,s1,s2,s3,s4,s5,s6,s7⟩;go_simp;with_reducible rfl)
  refine oS 1 (some 6) HT_ (fun K hK=>?_)
  refine gS Try.func35 #[.agg #[.int .i64 a0_0,.int .i64 a0_1,.int .i64 a0_2,.bool a0_3]] ?_
  with_reducible refine (extent_end.calls a0_0 a0_1 a0_2 a0_3 t108 _ A3.out).mono ?_
  rintro e w20 ⟨rfl,hb⟩
  refine ⟨_,rfl,?_⟩
  have n0_:=am (blk_below (g:=gb106) (o:=.cells #[.int .i64 a0_0,.int .i64 a0_1,.int .i64 a0_2,.bool a0_3] 24 (0,0)) (rK BK106) hb)
  have n1_:=am (blk_below (g:=gb107) (o:=.cells #[.int .i64 a1_0,.int .i64 a1_1,.int .i64 a1_2,.bool a1_3] 24 (0,0)) (rK BK107) hb)
  have n2_:=am (below_step (by repeat (first|(with_reducible first|exact HB.out|apply below_alloc|apply pw_below_drewN|apply below_drew1|refine below_set ?_ GE106.out|refine below_set ?_ GE107.out)|exact HB.out)) hb)
  clear BK106;clear BK107;clear HB;have BK106:=n0_;have BK107:=n1_;have HB:=n2_;clear n0_ n1_ n2_
  (try clear hb)
  (try clear hb2)
  (try clear hk)
  (try clear hi)
  refine hK.out _ _ ⟨kc BK106 0,kc BK106 1,kc BK106 2,kc BK106 3,kc BK107 0,kc BK107 1,kc BK107 2,kc BK107 3⟩ (fun hHeld=>?_)
  clear hK K;refine norm_ (a':=?_) ?_ ?_;rotate_left
  ·show Act.put _ (some 6) _=_
   simp only [Act.put,sIb,sC0,sCs,i64_w,i32_w];rfl
  refine pS 4 9 HT_ ?_;refine pS 5 10 HT_ ?_;refine uS 6 11 HT_ ?_;refine uS 7 12 HT_ ?_;refine uS 8 13 HT_ ?_;refine uS 9 14 HT_ ?_;refine uS 10 15 HT_ ?_;refine pS 11 16 HT_ ?_;refine pS 12 17 HT_ ?_;refine uS 13 18 HT_ ?_;refine uS 14 19 HT_ ?_;refine uS 15 20 HT_ ?_;refine uS 16 21 HT_ ?_;refine uS 17 22 HT_ ?_;refine pS 18 23 HT_ ?_;refine pS 19 4 HT_ ?_
  refine done_ (done_of HT_.out (by kernel_rfl)) ?_
  try go_wp2
  go_ret
  exact ⟨by first|rfl|(simp [errW_none,errW_some]<;>rfl)|(simp [*,errW_none,errW_some]<;>rfl),by repeat (first|(with_reducible first|exact HB.out|apply below_alloc|apply pw_below_drewN|apply below_drew1|refine below_set ?_ GE106.out|refine below_set ?_ GE107.out)|exact HB.out)⟩
def extent_merged.l0:Nat→List (S24)→List (S24)→Int→Int→Option ((List (S24))×Int)
 | 0,_,_,_,_=>none
 | k+1,x4,x8,x9,x10=>if x10 < x9 then (if 0≤x10 then (if x10 < (x8.length:Int) then (if (x4.length:Int) > 0 then (if 0≤(wrap64 ((x4.length:Int) - 1)) then (if (wrap64 ((x4.length:Int) - 1)) < (x4.length:Int) then ((extent_goes.f ((rd_T24 x4 (wrap64 ((x4.length:Int) - 1))).f0) ((rd_T24 x4 (wrap64 ((x4.length:Int) - 1))).f1) ((rd_T24 x4 (wrap64 ((x4.length:Int) - 1))).f2) ((rd_T24 x4 (wrap64 ((x4.length:Int) - 1))).f3) ((rd_T24 x8 x10).f0) ((rd_T24 x8 x10).f1) ((rd_T24 x8 x10).f2) ((rd_T24 x8 x10).f3)).bind fun t122=>(if t122=true then (extent_merged.l0 k (x4.set ((wrap64 ((x4.length:Int) - 1)):Int).toNat (⟨(rd_T24 x4 (wrap64 ((x4.length:Int) - 1))).f0,(rd_T24 x4 (wrap64 ((x4.length:Int) - 1))).f1,wrap64 (((rd_T24 x4 (wrap64 ((x4.length:Int) - 1))).f2)+((rd_T24 x8 x10).f2)),(rd_T24 x4 (wrap64 ((x4.length:Int) - 1))).f3⟩:S24)) x8 x9 (wrap64 (x10+1))) else (if x4.length < 4398046511104 then (extent_merged.l0 k (x4++[(⟨(rd_T24 x8 x10).f0,(rd_T24 x8 x10).f1,(rd_T24 x8 x10).f2,(rd_T24 x8 x10).f3⟩:S24)]) x8 x9 (wrap64 (x10+1))) else (none)))) else (none)) else (none)) else (if x4.length < 4398046511104 then (extent_merged.l0 k (x4++[(⟨(rd_T24 x8 x10).f0,(rd_T24 x8 x10).f1,(rd_T24 x8 x10).f2,(rd_T24 x8 x10).f3⟩:S24)]) x8 x9 (wrap64 (x10+1))) else (none))) else (none)) else (none)) else (if (x4.length:Int) > 60 then (some (([]:List (S24)),9)) else (some (x4,0)))
def extent_merged.f (k:Nat) (l0:List (S24)):Option ((List (S24))×Int):=extent_merged.l0 k ([]:List (S24)) l0 (l0.length:Int) 0
def extent_merged.T6:Bool×List (List Nat×List Nat):=(true,[([],[]),([0],[0]),([1],[1]),([2],[2]),([2],[2]),([4,2],[2,4]),([3,5,2],[2,3,5]),([6,2],[2,6]),([2],[2]),([7,8,2,2],[2,7,8]),([2,9],[2,9])])
def extent_merged.B6:List Nat:=[0,1,3,7,7,23,63,127,7,511,1023]
theorem extent_merged.tab6:rtab .any (opsOf Try.f40 6)=extent_merged.T6:=by kernel_rfl
theorem extent_merged.bits6:waitsOk extent_merged.T6.2 extent_merged.B6=true:=by kernel_rfl
def extent_merged.T7:Bool×List (List Nat×List Nat):=(true,[([],[]),([],[]),([1],[1]),([0,2],[0,2]),([3],[3]),([4],[4]),([],[]),([6],[6]),([5,7],[5,7]),([0,2,0,1,2,3,4,5,6,7,8],[0,2]),([9,0,1,2,3,4,5,6,7,8],[9]),([10,8,0,1,2,3,4,5,6,7,8],[8,10])])
def extent_merged.B7:List Nat:=[0,0,2,7,15,31,0,64,255,511,1023,2047]
theorem extent_merged.tab7:rtab .any (opsOf Try.f40 7)=extent_merged.T7:=by kernel_rfl
theorem extent_merged.bits7:waitsOk extent_merged.T7.2 extent_merged.B7=true:=by kernel_rfl
set_option maxHeartbeats 8000000 in
set_option maxRecDepth 100000 in
theorem extent_merged.calls (k:Nat) (A0:Option Addr) (c0:Nat) (l0:List (S24)) (r1:List (S24)) (r2:Int) (w:World) (hr0:Kd.C k24 w A0 l0.length l0) (hc0:l0.length≤c0) (h:extent_merged.f k l0=some (r1,r2)) :
  Calls Try.prog 40 #[.slice A0 l0.length c0] w fun e w'=>∃ v0_:Value,e=.returned (.tuple #[v0_,.int .i64 r2])∧Kd.R k24 24 w' w.heap.size (fun _=>True) v0_ r1∧Below w.heap.size w w':=by
 have hu24:=Try.underlying24
 have HR0:=am hr0
 have HC0:=am hc0
 clear hr0 hc0
 have HB:=am (Below.refl w.heap.size w)
 have H:(extent_merged.l0 k ([]:List (S24)) l0 (l0.length:Int) 0)=some (r1,r2):=h
 clear h
 have H':=am H
 clear H
 go_enter Try.func40,Try.ntmps40
 go_wp2
 go_loopg [4,10] k (fun kq v4 v10 w'=>∃ (x4_1:List (S24)) (x10_1:Int),v10=.int .i64 x10_1∧Aside0 (extent_merged.l0 kq x4_1 l0 (l0.length:Int) x10_1=some (r1,r2))∧Aside0 (kq≤k)∧Aside0 (Kd.R k24 24 w' w.heap.size (fun _=>True) v4 x4_1)∧Aside0 (Below w.heap.size w w'))
 case atStart=>exact ⟨(([]:List (S24))),(0),(by first|rfl|(simp;done)|(simp [*];done)),H',⟨Nat.le_refl _⟩,⟨by first|exact Kd.R_nil _ _ _ _ _|exact Kd.N_nil _ _ _ _ _|exact Kd.V_nil _ _ _ _ _|exact Kd.Q_nil _ _ _ _ _|exact Kd.S_nil _ _ _ _ _⟩,⟨bb HB⟩⟩
 case round =>
  clear H'
  obtain ⟨x4_1,x10_1,rfl,HA,HK1,HO_4,HB⟩:=hrel
  cases gk with
  | zero=>exact absurd HA.out (by intro h_;cases h_)
  | succ k1 =>
   have H:=HA.out
   clear HA
   simp only [extent_merged.l0] at H
   by_cases c2:x10_1 < (l0.length:Int)
   ·rw [if_pos c2] at H
    have c2b0:decide (x10_1 < (l0.length:Int))=true:=decide_eq_true c2
    clear c2
    by_cases c3:0≤x10_1
    ·rw [if_pos c3] at H
     have c3b0:decide (0≤x10_1)=true:=decide_eq_true c3
     clear c3
     by_cases c4:x10_1 < (l0.length:Int)
     ·rw [if_pos c4] at H
      have c4b0:decide (x10_1 < (l0.length:Int))=true:=decide_eq_true c4
      clear c4
      by_cases c5:(x4_1.length:Int) > 0
      ·rw [if_pos c5] at H
       have c5b0:decide (0 < (x4_1.length:Int))=true:=decide_eq_true c5
       have c5b1:decide (0 < x4_1.length)=true:=decide_eq_true (by omega)
       clear c5
       obtain ⟨ji6,hji6⟩:∃ j_:Int,(wrap64 ((x4_1.length:Int) - 1))=j_:=⟨_,rfl⟩
       replace H:(if 0≤(ji6) then (if (ji6) < (x4_1.length:Int) then ((extent_goes.f ((rd_T24 x4_1 (ji6)).f0) ((rd_T24 x4_1 (ji6)).f1) ((rd_T24 x4_1 (ji6)).f2) ((rd_T24 x4_1 (ji6)).f3) ((rd_T24 l0 x10_1).f0) ((rd_T24 l0 x10_1).f1) ((rd_T24 l0 x10_1).f2) ((rd_T24 l0 x10_1).f3)).bind fun t122=>(if t122=true then (extent_merged.l0 k1 (x4_1.set ((ji6):Int).toNat (⟨(rd_T24 x4_1 (ji6)).f0,(rd_T24 x4_1 (ji6)).f1,wrap64 (((rd_T24 x4_1 (ji6)).f2)+((rd_T24 l0 x10_1).f2)),(rd_T24 x4_1 (ji6)).f3⟩:S24)) l0 (l0.length:Int) (wrap64 (x10_1+1))) else (if x4_1.length < 4398046511104 then (extent_merged.l0 k1 (x4_1++[(⟨(rd_T24 l0 x10_1).f0,(rd_T24 l0 x10_1).f1,(rd_T24 l0 x10_1).f2,(rd_T24 l0 x10_1).f3⟩:S24)]) l0 (l0.length:Int) (wrap64 (x10_1+1))) else (none)))) else (none)) else (none))=some (r1,r2):=by first|(rw [hji6] at H;exact H)|(simp only [hji6] at H ⊢;exact H)
       have hji6w:(IntKind.i64.wrap ((x4_1.length:Int) - 1))=ji6:=(i64_w _).trans hji6
       (try rw [hji6] at c2b0)
       (try rw [hji6] at c3b0)
       (try rw [hji6] at c4b0)
       (try rw [hji6] at c5b0)
       (try rw [hji6] at c5b1)
       by_cases c7:0≤(ji6)
       ·rw [if_pos c7] at H
        have c7b0:decide (0≤(ji6))=true:=decide_eq_true c7
        clear c7
        by_cases c8:(ji6) < (x4_1.length:Int)
        ·rw [if_pos c8] at H
         have c8b0:decide ((ji6) < (x4_1.length:Int))=true:=decide_eq_true c8
         clear c8
         replace H:=Option.bind_eq_some_iff.mp H
         obtain ⟨t122,A90,H⟩:=H
         replace H:(if t122=true then (extent_merged.l0 k1 (x4_1.set ((ji6):Int).toNat (⟨(rd_T24 x4_1 (ji6)).f0,(rd_T24 x4_1 (ji6)).f1,wrap64 (((rd_T24 x4_1 (ji6)).f2)+((rd_T24 l0 x10_1).f2)),(rd_T24 x4_1 (ji6)).f3⟩:S24)) l0 (l0.length:Int) (wrap64 (x10_1+1))) else (if x4_1.length < 4398046511104 then (extent_merged.l0 k1 (x4_1++[(⟨(rd_T24 l0 x10_1).f0,(rd_T24 l0 x10_1).f1,(rd_T24 l0 x10_1).f2,(rd_T24 l0 x10_1).f3⟩:S24)]) l0 (l0.length:Int) (wrap64 (x10_1+1))) else (none)))=some (r1,r2):=H
         have A9:=am A90
         clear A90
         by_cases c10:t122=true
         ·subst c10
          have H1:(extent_merged.l0 k1 (x4_1.set ((ji6):Int).toNat (⟨(rd_T24 x4_1 (ji6)).f0,(rd_T24 x4_1 (ji6)).f1,wrap64 (((rd_T24 x4_1 (ji6)).f2)+((rd_T24 l0 x10_1).f2)),(rd_T24 x4_1 (ji6)).f3⟩:S24)) l0 (l0.length:Int) (wrap64 (x10_1+1)))=some (r1,r2):=by rw [if_pos rfl] at H;exact H
          clear H;have H:=H1;clear H1
          obtain ⟨y124,hy124⟩:∃ y_:List (S24),y_=(x4_1.set ((ji6):Int).toNat (⟨(rd_T24 x4_1 (ji6)).f0,(rd_T24 x4_1 (ji6)).f1,wrap64 (((rd_T24 x4_1 (ji6)).f2)+((rd_T24 l0 x10_1).f2)),(rd_T24 x4_1 (ji6)).f3⟩:S24)):=⟨_,rfl⟩
          replace H:(extent_merged.l0 k1 y124 l0 (l0.length:Int) (wrap64 (x10_1+1)))=some (r1,r2):=by first|(rw [hy124];with_reducible exact H)|(have H2_:=(Option.bind_some _ _).symm.trans H;rw [hy124];with_reducible exact H2_)|(have H2_:=(Option.bind_some _ _).symm.trans H;with_reducible exact H2_)|with_reducible exact H|(rw [hy124];exact H)|exact H
          have Ny124:=am hy124
          clear hy124
          have H':=am H
          clear H
          have p119:0≤(x10_1:Int):=od
          have q119:x10_1 < (l0.length:Int):=od
          obtain ⟨ad119,e119,hx119_0,hx119_1,hx119_2,hx119_3⟩:=at_T24 HR0.out x10_1 p119 q119
          cases e119
          replace hx119_0:=hB HB hx119_0
          replace hx119_1:=hB HB hx119_1
          replace hx119_2:=hB HB hx119_2
          replace hx119_3:=hB HB hx119_3
          replace p119:=eq_true p119;replace q119:=eq_true q119
          try go_wp2_with (first|((with_reducible refine gate_dst (N:=6) rfl ?_);refine box_event ?hg (N:=6) ?hd (cs:=#[.int .i64 0,.int .i64 0,.int .i64 0,.bool false]) (t:=24) ?hr ?_;(case hd=>rfl);(case hg=>rfl);(case hr=>first|(go_simp;done)|(go_simp;rfl));intro gb120 hg w12 hbox hb;have n0_:=am (Kd.R_below (Kd.R_elderB (rR HO_4) gb120 (Nat.le_of_eq hg.symm)) hb);have n1_:=bst HB hb;have n2_:=am (hbox);have n3_:=am ((gz hg HB));have n4_:=am ((gz hg HB));clear HO_4;clear HB;have HO_4:=n0_;have HB:=n1_;have BK120:=n2_;have GW120:=n3_;have GE120:=n4_;clear n0_ n1_ n2_ n3_ n4_;clear hb hbox hg;have hcz13_0:w12.cell? ⟨gb120,0,none⟩=some (.int .i64 0):=kc BK120 0;have hcz13_1:w12.cell? ⟨gb120,1,none⟩=some (.int .i64 0):=kc BK120 1;have hcz13_2:w12.cell? ⟨gb120,2,none⟩=some (.int .i64 0):=kc BK120 2;have hcz13_3:w12.cell? ⟨gb120,3,none⟩=some (.bool false):=kc BK120 3;have hfz13_0:=blk_frozen BK120.out 0;have hfz13_1:=blk_frozen BK120.out 1;have hfz13_2:=blk_frozen BK120.out 2;have hfz13_3:=blk_frozen BK120.out 3;obtain ⟨Ao14,co14,eo14⟩:=Kd.R_slice HO_4.out;subst eo14))
          have n0_:Aside0 (Kd.R k24 24 ((((w12.setCell ⟨gb120,0,none⟩ (.int .i64 ((rd_T24 l0 x10_1).f0))).setCell ⟨gb120,1,none⟩ (.int .i64 ((rd_T24 l0 x10_1).f1))).setCell ⟨gb120,2,none⟩ (.int .i64 ((rd_T24 l0 x10_1).f2))).setCell ⟨gb120,3,none⟩ (.bool ((rd_T24 l0 x10_1).f3))) w.heap.size (fun k_=>k_≠gb120) (.slice Ao14 x4_1.length co14) x4_1):=⟨by (with_reducible repeat (first|apply Kd.R_alloc|apply Kd.R_drewN|apply Kd.R_drew));exact Kd.R_mono (Kd.R_far (p:=⟨gb120,3,none⟩) (Kd.R_far (p:=⟨gb120,2,none⟩) (Kd.R_far (p:=⟨gb120,1,none⟩) (Kd.R_far (p:=⟨gb120,0,none⟩) (Kd.R_mono HO_4.out (fun k_ hk=>(⟨hk,hk.2⟩:_∧k_≠gb120))) (fun _ hk=>hk.2) (.int .i64 ((rd_T24 l0 x10_1).f0))) (fun _ hk=>hk.2) (.int .i64 ((rd_T24 l0 x10_1).f1))) (fun _ hk=>hk.2) (.int .i64 ((rd_T24 l0 x10_1).f2))) (fun _ hk=>hk.2) (.bool ((rd_T24 l0 x10_1).f3))) (fun _ hk=>hk.1.2)⟩
          have n1_:Aside0 (((((w12.setCell ⟨gb120,0,none⟩ (.int .i64 ((rd_T24 l0 x10_1).f0))).setCell ⟨gb120,1,none⟩ (.int .i64 ((rd_T24 l0 x10_1).f1))).setCell ⟨gb120,2,none⟩ (.int .i64 ((rd_T24 l0 x10_1).f2))).setCell ⟨gb120,3,none⟩ (.bool ((rd_T24 l0 x10_1).f3))).heap[gb120]? = some (.cells #[.int .i64 ((rd_T24 l0 x10_1).f0),.int .i64 ((rd_T24 l0 x10_1).f1),.int .i64 ((rd_T24 l0 x10_1).f2),.bool ((rd_T24 l0 x10_1).f3)] 24 (0,0))):=⟨by (with_reducible repeat (first|refine blk_drewN ?_ _|refine blk_drew ?_|refine blk_alloc ?_ _));refine blk_put (cs:=#[.int .i64 ((rd_T24 l0 x10_1).f0),.int .i64 ((rd_T24 l0 x10_1).f1),.int .i64 ((rd_T24 l0 x10_1).f2),.bool false]) ?_ 3 _ rfl;(with_reducible repeat (first|refine blk_drewN ?_ _|refine blk_drew ?_|refine blk_alloc ?_ _));refine blk_put (cs:=#[.int .i64 ((rd_T24 l0 x10_1).f0),.int .i64 ((rd_T24 l0 x10_1).f1),.int .i64 0,.bool false]) ?_ 2 _ rfl;(with_reducible repeat (first|refine blk_drewN ?_ _|refine blk_drew ?_|refine blk_alloc ?_ _));refine blk_put (cs:=#[.int .i64 ((rd_T24 l0 x10_1).f0),.int .i64 0,.int .i64 0,.bool false]) ?_ 1 _ rfl;(with_reducible repeat (first|refine blk_drewN ?_ _|refine blk_drew ?_|refine blk_alloc ?_ _));refine blk_put (cs:=#[.int .i64 0,.int .i64 0,.int .i64 0,.bool false]) ?_ 0 _ rfl;(with_reducible repeat (first|refine blk_drewN ?_ _|refine blk_drew ?_|refine blk_alloc ?_ _));exact BK120.out⟩
          have n2_:Aside0 (Below w.heap.size w ((((w12.setCell ⟨gb120,0,none⟩ (.int .i64 ((rd_T24 l0 x10_1).f0))).setCell ⟨gb120,1,none⟩ (.int .i64 ((rd_T24 l0 x10_1).f1))).setCell ⟨gb120,2,none⟩ (.int .i64 ((rd_T24 l0 x10_1).f2))).setCell ⟨gb120,3,none⟩ (.bool ((rd_T24 l0 x10_1).f3)))):=⟨bxs HB GE120⟩
          (try clear HO_4)
          (try clear BK120)
          (try clear HB)
          generalize ((((w12.setCell ⟨gb120,0,none⟩ (.int .i64 ((rd_T24 l0 x10_1).f0))).setCell ⟨gb120,1,none⟩ (.int .i64 ((rd_T24 l0 x10_1).f1))).setCell ⟨gb120,2,none⟩ (.int .i64 ((rd_T24 l0 x10_1).f2))).setCell ⟨gb120,3,none⟩ (.bool ((rd_T24 l0 x10_1).f3)))=w15 at n0_ n1_ n2_ ⊢
          have HO_4:=n0_;have BK120:=n1_;have HB:=n2_;clear n0_ n1_ n2_
          have n0_:=am (Kd.R_drew HO_4.out)
          have n1_:=am (blk_drew BK120.out)
          have n2_:=am (below_drew1 HB.out)
          clear HO_4;clear BK120;clear HB;have HO_4:=n0_;have BK120:=n1_;have HB:=n2_;clear n0_ n1_ n2_
          have p121:0≤((ji6):Int):=od
          have q121:(ji6) < (x4_1.length:Int):=od
          obtain ⟨ad121,e121,hx121_0,hx121_1,hx121_2,hx121_3⟩:=at_T24 (Kd.R_reads' HO_4.out).2.2 (ji6) p121 q121
          cases e121
          replace p121:=eq_true p121;replace q121:=eq_true q121
          refine start_ (n:=11) (S:=fun w'=>w'.cell? ⟨gb120,0,none⟩=some (.int .i64 ((rd_T24 l0 x10_1).f0))∧w'.cell? ⟨gb120,1,none⟩=some (.int .i64 ((rd_T24 l0 x10_1).f1))∧w'.cell? ⟨gb120,2,none⟩=some (.int .i64 ((rd_T24 l0 x10_1).f2))∧w'.cell? ⟨gb120,3,none⟩=some (.bool ((rd_T24 l0 x10_1).f3))∧w'.cell? (ad121.add (((ji6)).toNat*4))=some (.int .i64 ((rd_T24 x4_1 (ji6)).f0))∧w'.cell? ⟨(ad121.add (((ji6)).toNat*4)).block,(ad121.add (((ji6)).toNat*4)).off+1,none⟩=some (.int .i64 ((rd_T24 x4_1 (ji6)).f1))∧w'.cell? ⟨(ad121.add (((ji6)).toNat*4)).block,(ad121.add (((ji6)).toNat*4)).off+2,none⟩=some (.int .i64 ((rd_T24 x4_1 (ji6)).f2))∧w'.cell? ⟨(ad121.add (((ji6)).toNat*4)).block,(ad121.add (((ji6)).toNat*4)).off+3,none⟩=some (.bool ((rd_T24 x4_1 (ji6)).f3))) (ds:=[]) _ (by kernel_rfl) rfl rfl ⟨kc BK120 0,kc BK120 1,kc BK120 2,kc BK120 3,hx121_0,hx121_1,hx121_2,hx121_3⟩ (fun hHeld=>?_);refine with_tabW extent_merged.tab6 extent_merged.bits6 (fun HT_ HW_=>?_)
          generalize w15.drew=w16 at HO_4 BK120 HB hx121_0 hx121_1 hx121_2 hx121_3 hHeld ⊢
          refine pS 0 16 HT_ ?_;refine pS 1 17 HT_ ?_;refine pS 2 18 HT_ ?_;refine pS 3 19 HT_ ?_;refine pS 4 20 HT_ ?_;refine pS 5 21 HT_ ?_;refine pS 6 22 HT_ ?_;refine tS 7 23 HT_ HW_ hHeld ?_ (hy:=by rintro w' ⟨s0,s1,s2,s3,s4,s5,s6,s7⟩;go_simp;with_reducible rfl);refine tS 8 24 HT_ HW_ hHeld ?_ (hy:=by rintro w' ⟨s0,s1,s2,s3,s4,s5,s6,s7⟩;go_simp;with_reducible rfl)
          refine oS 9 (some 25) HT_ (fun K hK=>?_)
          refine goes_ Try.func36 (by kernel_rfl) rfl #[.agg #[.int .i64 ((rd_T24 x4_1 (ji6)).f0),.int .i64 ((rd_T24 x4_1 (ji6)).f1),.int .i64 ((rd_T24 x4_1 (ji6)).f2),.bool ((rd_T24 x4_1 (ji6)).f3)],.agg #[.int .i64 ((rd_T24 l0 x10_1).f0),.int .i64 ((rd_T24 l0 x10_1).f1),.int .i64 ((rd_T24 l0 x10_1).f2),.bool ((rd_T24 l0 x10_1).f3)]] (by rfl) rfl rfl (by (try simp only [List.map_toArray,List.map_cons,List.map_nil]);first|done|(simp only [hji6];rfl)|rfl|(simp only [List.length_drop,List.length_take];rfl)) ?_
          with_reducible refine (extent_goes.calls ((rd_T24 x4_1 (ji6)).f0) ((rd_T24 x4_1 (ji6)).f1) ((rd_T24 x4_1 (ji6)).f2) ((rd_T24 x4_1 (ji6)).f3) ((rd_T24 l0 x10_1).f0) ((rd_T24 l0 x10_1).f1) ((rd_T24 l0 x10_1).f2) ((rd_T24 l0 x10_1).f3) true _ A9.out).mono ?_
          rintro e w17 ⟨rfl,hb⟩
          have HS4_:=(hb.cell (World.block_lt_of_cell? _ _ (hHeld.2.2.2.2.1))).trans (hHeld.2.2.2.2.1)
          have HS5_:=(hb.cell (World.block_lt_of_cell? _ _ (hHeld.2.2.2.2.2.1))).trans (hHeld.2.2.2.2.2.1)
          have HS6_:=(hb.cell (World.block_lt_of_cell? _ _ (hHeld.2.2.2.2.2.2.1))).trans (hHeld.2.2.2.2.2.2.1)
          have HS7_:=(hb.cell (World.block_lt_of_cell? _ _ (hHeld.2.2.2.2.2.2.2))).trans (hHeld.2.2.2.2.2.2.2)
          refine ⟨_,rfl,?_⟩
          have n0_:=am (Kd.R_below (rR HO_4) hb)
          have n1_:=am (blk_below (g:=gb120) (o:=.cells #[.int .i64 ((rd_T24 l0 x10_1).f0),.int .i64 ((rd_T24 l0 x10_1).f1),.int .i64 ((rd_T24 l0 x10_1).f2),.bool ((rd_T24 l0 x10_1).f3)] 24 (0,0)) (rK BK120) hb)
          have n2_:=am (below_step (bxs HB GE120) hb)
          clear HO_4;clear BK120;clear HB;have HO_4:=n0_;have BK120:=n1_;have HB:=n2_;clear n0_ n1_ n2_
          (try clear hb)
          (try clear hb2)
          (try clear hk)
          (try clear hi)
          refine hK.out _ _ ⟨kc BK120 0,kc BK120 1,kc BK120 2,kc BK120 3,HS4_,HS5_,HS6_,HS7_⟩ (fun hHeld=>?_)
          clear hK K;refine norm_ (a':=?_) ?_ ?_;rotate_left
          ·show Act.put _ (some 25) _=_
           simp only [Act.put,sIb,sC0,sCs,i64_w,i32_w];rfl
          refine pS 10 26 HT_ ?_
          refine done_ (done_of HT_.out (by kernel_rfl)) ?_
          try go_wp2
          have n0_:=am (Kd.R_drew HO_4.out)
          have n1_:=am (blk_drew BK120.out)
          have n2_:=am (below_drew1 HB.out)
          clear HO_4;clear BK120;clear HB;have HO_4:=n0_;have BK120:=n1_;have HB:=n2_;clear n0_ n1_ n2_
          have p123:0≤((ji6):Int):=od
          have q123:(ji6) < (x4_1.length:Int):=od
          obtain ⟨ad123,e123,hx123_0,hx123_1,hx123_2,hx123_3⟩:=at_T24 (Kd.R_reads' HO_4.out).2.2 (ji6) p123 q123
          obtain rfl:ad121=ad123:=(by injection e123)
          replace p123:=eq_true p123;replace q123:=eq_true q123
          have p11:0≤((ji6):Int):=od
          have q11:((ji6):Int) < ((x4_1.length:Int):Int):=od
          obtain ⟨go11,co11,eo11,gb11,gl11,cl11,HG11⟩:=Kd.R_form HO_4.out (by omega)
          (first|cases eo11|(injection eo11 with ea_ en_ ec_;(first|subst ea_|(injection ea_ with ea_;subst ea_));subst ec_;clear en_))
          have GB11:=am gb11
          have GG11:=am HG11
          clear gb11 gl11 HG11
          (first|simp only [add_plain] at hx121_0|skip)
          (first|simp only [add_plain] at hx121_1|skip)
          (first|simp only [add_plain] at hx121_2|skip)
          (first|simp only [add_plain] at hx121_3|skip)
          (first|simp only [add_plain] at hx123_0|skip)
          (first|simp only [add_plain] at hx123_1|skip)
          (first|simp only [add_plain] at hx123_2|skip)
          (first|simp only [add_plain] at hx123_3|skip)
          obtain ⟨ce11,hcl11,hM11,hcc11,hfr11⟩:=Kd.R_elem HO_4.out z24 ((ji6):Int) p11 q11
          obtain rfl:=k24_openM hM11
          have hx11_0:World.cell? _ ⟨go11,((ji6):Int).toNat*4,none⟩=some (.int .i64 ((rd_T24 x4_1 (ji6)).f0)):=hcc11 0 _ rfl
          have hx11_1:World.cell? _ ⟨go11,((ji6):Int).toNat*4+1,none⟩=some (.int .i64 ((rd_T24 x4_1 (ji6)).f1)):=hcc11 1 _ rfl
          have hx11_2:World.cell? _ ⟨go11,((ji6):Int).toNat*4+2,none⟩=some (.int .i64 ((rd_T24 x4_1 (ji6)).f2)):=hcc11 2 _ rfl
          have hx11_3:World.cell? _ ⟨go11,((ji6):Int).toNat*4+3,none⟩=some (.bool ((rd_T24 x4_1 (ji6)).f3)):=hcc11 3 _ rfl
          have hf11_0:World.frozen? _ ⟨go11,((ji6):Int).toNat*4,none⟩=false:=hfr11 0
          have hf11_1:World.frozen? _ ⟨go11,((ji6):Int).toNat*4+1,none⟩=false:=hfr11 1
          have hf11_2:World.frozen? _ ⟨go11,((ji6):Int).toNat*4+2,none⟩=false:=hfr11 2
          have hf11_3:World.frozen? _ ⟨go11,((ji6):Int).toNat*4+3,none⟩=false:=hfr11 3
          clear hcl11 hcc11 hfr11 hM11;replace p11:=eq_true p11;replace q11:=eq_true q11
          obtain ⟨ce19,hcl19,hM19,hcc19,hfr19⟩:=Kd.R_elem HO_4.out z24 ((ji6):Int) (od) (by have h_:((ji6):Int) < ((x4_1.length:Int):Int):=od;first|exact h_|(have e_:=(Kd.R_reads' HO_4.out).1;omega)|simpa using h_)
          obtain rfl:=k24_openM hM19
          have HP19:=(Kd.R_seg HO_4.out ((ji6):Int) (od) (by have h_:((ji6):Int) < ((x4_1.length:Int):Int):=od;first|exact h_|(have e_:=(Kd.R_reads' HO_4.out).1;omega)|simpa using h_) (seg:=[.int .i64 (wrap64 (((rd_T24 x4_1 (ji6)).f2)+((rd_T24 l0 x10_1).f2)))]) (j:=2) hcl19 hcc19 (show 3≤4 from by decide) (x':=(⟨(rd_T24 x4_1 (ji6)).f0,(rd_T24 x4_1 (ji6)).f1,wrap64 (((rd_T24 x4_1 (ji6)).f2)+((rd_T24 l0 x10_1).f2)),(rd_T24 x4_1 (ji6)).f3⟩:S24)) (k24_mkM _ _ _ (⟨(rd_T24 x4_1 (ji6)).f0,(rd_T24 x4_1 (ji6)).f1,wrap64 (((rd_T24 x4_1 (ji6)).f2)+((rd_T24 l0 x10_1).f2)),(rd_T24 x4_1 (ji6)).f3⟩:S24) ) (fun _ hk=>hk)).1
          rw [← Ny124.out] at HP19
          have HQ19:=am HP19
          clear hcl19 hcc19 hfr19 hM19 HP19
          refine start_ (n:=12) (S:=fun w'=>w'.cell? ⟨gb120,0,none⟩=some (.int .i64 ((rd_T24 l0 x10_1).f0))∧w'.cell? ⟨gb120,1,none⟩=some (.int .i64 ((rd_T24 l0 x10_1).f1))∧w'.cell? ⟨gb120,2,none⟩=some (.int .i64 ((rd_T24 l0 x10_1).f2))∧w'.cell? ⟨gb120,3,none⟩=some (.bool ((rd_T24 l0 x10_1).f3))∧w'.cell? ⟨go11,(((ji6)).toNat*4),none⟩=some (.int .i64 ((rd_T24 x4_1 (ji6)).f0))∧w'.cell? ⟨go11,(((ji6)).toNat*4)+1,none⟩=some (.int .i64 ((rd_T24 x4_1 (ji6)).f1))∧w'.cell? ⟨go11,(((ji6)).toNat*4)+2,none⟩=some (.int .i64 ((rd_T24 x4_1 (ji6)).f2))∧w'.cell? ⟨go11,(((ji6)).toNat*4)+3,none⟩=some (.bool ((rd_T24 x4_1 (ji6)).f3))) (ds:=[11]) _ (by kernel_rfl) rfl rfl ⟨kc BK120 0,kc BK120 1,kc BK120 2,kc BK120 3,hx123_0,hx123_1,hx123_2,hx123_3⟩ (fun hHeld=>?_);refine with_tabW extent_merged.tab7 extent_merged.bits7 (fun HT_ HW_=>?_)
          generalize w17.drew=w18 at HO_4 BK120 HB GG11 HQ19 hf11_0 hf11_1 hf11_2 hf11_3 hx11_0 hx11_1 hx11_2 hx11_3 hx121_0 hx121_1 hx121_2 hx121_3 hx123_0 hx123_1 hx123_2 hx123_3 hHeld ⊢
          refine pS 0 27 HT_ ?_;refine pS 1 28 HT_ ?_;refine pS 2 29 HT_ ?_;refine pS 3 30 HT_ ?_;refine pS 4 31 HT_ ?_;refine pS 6 33 HT_ ?_;refine tS 5 32 HT_ HW_ hHeld ?_ (hy:=by rintro w' ⟨s0,s1,s2,s3,s4,s5,s6,s7⟩;go_simp;with_reducible rfl);refine tS 7 34 HT_ HW_ hHeld ?_ (hy:=by rintro w' ⟨s0,s1,s2,s3,s4,s5,s6,s7⟩;go_simp;with_reducible rfl);refine pS 8 35 HT_ ?_;refine pS 9 36 HT_ ?_;refine pS 10 37 HT_ ?_
          refine lS 11 none HT_ (fun K hK=>?_)
          refine skip_ (w1:=?_) (by rfl) rfl ?_ ?_
          rotate_left;(go_simp;rfl);refine hK.out _ _ ?_;clear hK K
          refine done_ (done_of HT_.out (by kernel_rfl)) ?_
          try go_wp2
          go_roundg k1
          case measure=>have:=HK1.out;omega
          case rel=>exact ⟨(y124),(wrap64 (x10_1+1)),(by first|rfl|(simp;done)|(simp [*];done)),H',⟨by have:=HK1.out;omega⟩,⟨by (with_reducible repeat (first|apply Kd.R_alloc|apply Kd.R_drewN|apply Kd.R_drew));exact Kd.R_mono HQ19.out (fun _ hk=>trivial)⟩,⟨by repeat (first|(with_reducible first|exact HB.out|apply below_alloc|apply pw_below_drewN|apply below_drew1|refine below_set ?_ GB11.out|refine below_set ?_ GE120.out)|exact HB.out)⟩⟩
         ·replace c10:=Bool.eq_false_iff.mpr c10
          subst c10
          have H1:(if x4_1.length < 4398046511104 then (extent_merged.l0 k1 (x4_1++[(⟨(rd_T24 l0 x10_1).f0,(rd_T24 l0 x10_1).f1,(rd_T24 l0 x10_1).f2,(rd_T24 l0 x10_1).f3⟩:S24)]) l0 (l0.length:Int) (wrap64 (x10_1+1))) else (none))=some (r1,r2):=by rw [if_neg (show ¬ (false=true) by decide)] at H;exact H
          clear H;have H:=H1;clear H1
          by_cases c20:x4_1.length < 4398046511104
          ·rw [if_pos c20] at H
           have LMc20:=am c20
           clear c20
           obtain ⟨y125,hy125⟩:∃ y_:List (S24),y_=(x4_1++[(⟨(rd_T24 l0 x10_1).f0,(rd_T24 l0 x10_1).f1,(rd_T24 l0 x10_1).f2,(rd_T24 l0 x10_1).f3⟩:S24)]):=⟨_,rfl⟩
           replace H:(extent_merged.l0 k1 y125 l0 (l0.length:Int) (wrap64 (x10_1+1)))=some (r1,r2):=by first|(rw [hy125];with_reducible exact H)|(have H2_:=(Option.bind_some _ _).symm.trans H;rw [hy125];with_reducible exact H2_)|(have H2_:=(Option.bind_some _ _).symm.trans H;with_reducible exact H2_)|with_reducible exact H|(rw [hy125];exact H)|exact H
           have Ny125:=am hy125
           clear hy125
           have H':=am H
           clear H
           have p119:0≤(x10_1:Int):=od
           have q119:x10_1 < (l0.length:Int):=od
           obtain ⟨ad119,e119,hx119_0,hx119_1,hx119_2,hx119_3⟩:=at_T24 HR0.out x10_1 p119 q119
           cases e119
           replace hx119_0:=hB HB hx119_0
           replace hx119_1:=hB HB hx119_1
           replace hx119_2:=hB HB hx119_2
           replace hx119_3:=hB HB hx119_3
           replace p119:=eq_true p119;replace q119:=eq_true q119
           try go_wp2_with (first|((with_reducible refine gate_dst (N:=6) rfl ?_);refine box_event ?hg (N:=6) ?hd (cs:=#[.int .i64 0,.int .i64 0,.int .i64 0,.bool false]) (t:=24) ?hr ?_;(case hd=>rfl);(case hg=>rfl);(case hr=>first|(go_simp;done)|(go_simp;rfl));intro gb120 hg w21 hbox hb;have n0_:=am (Kd.R_below (Kd.R_elderB (rR HO_4) gb120 (Nat.le_of_eq hg.symm)) hb);have n1_:=bst HB hb;have n2_:=am (hbox);have n3_:=am ((gz hg HB));have n4_:=am ((gz hg HB));clear HO_4;clear HB;have HO_4:=n0_;have HB:=n1_;have BK120:=n2_;have GW120:=n3_;have GE120:=n4_;clear n0_ n1_ n2_ n3_ n4_;clear hb hbox hg;have hcz22_0:w21.cell? ⟨gb120,0,none⟩=some (.int .i64 0):=kc BK120 0;have hcz22_1:w21.cell? ⟨gb120,1,none⟩=some (.int .i64 0):=kc BK120 1;have hcz22_2:w21.cell? ⟨gb120,2,none⟩=some (.int .i64 0):=kc BK120 2;have hcz22_3:w21.cell? ⟨gb120,3,none⟩=some (.bool false):=kc BK120 3;have hfz22_0:=blk_frozen BK120.out 0;have hfz22_1:=blk_frozen BK120.out 1;have hfz22_2:=blk_frozen BK120.out 2;have hfz22_3:=blk_frozen BK120.out 3;obtain ⟨Ao23,co23,eo23⟩:=Kd.R_slice HO_4.out;subst eo23))
           have n0_:Aside0 (Kd.R k24 24 ((((w21.setCell ⟨gb120,0,none⟩ (.int .i64 ((rd_T24 l0 x10_1).f0))).setCell ⟨gb120,1,none⟩ (.int .i64 ((rd_T24 l0 x10_1).f1))).setCell ⟨gb120,2,none⟩ (.int .i64 ((rd_T24 l0 x10_1).f2))).setCell ⟨gb120,3,none⟩ (.bool ((rd_T24 l0 x10_1).f3))) w.heap.size (fun k_=>k_≠gb120) (.slice Ao23 x4_1.length co23) x4_1):=⟨by (with_reducible repeat (first|apply Kd.R_alloc|apply Kd.R_drewN|apply Kd.R_drew));exact Kd.R_mono (Kd.R_far (p:=⟨gb120,3,none⟩) (Kd.R_far (p:=⟨gb120,2,none⟩) (Kd.R_far (p:=⟨gb120,1,none⟩) (Kd.R_far (p:=⟨gb120,0,none⟩) (Kd.R_mono HO_4.out (fun k_ hk=>(⟨hk,hk.2⟩:_∧k_≠gb120))) (fun _ hk=>hk.2) (.int .i64 ((rd_T24 l0 x10_1).f0))) (fun _ hk=>hk.2) (.int .i64 ((rd_T24 l0 x10_1).f1))) (fun _ hk=>hk.2) (.int .i64 ((rd_T24 l0 x10_1).f2))) (fun _ hk=>hk.2) (.bool ((rd_T24 l0 x10_1).f3))) (fun _ hk=>hk.1.2)⟩
           have n1_:Aside0 (((((w21.setCell ⟨gb120,0,none⟩ (.int .i64 ((rd_T24 l0 x10_1).f0))).setCell ⟨gb120,1,none⟩ (.int .i64 ((rd_T24 l0 x10_1).f1))).setCell ⟨gb120,2,none⟩ (.int .i64 ((rd_T24 l0 x10_1).f2))).setCell ⟨gb120,3,none⟩ (.bool ((rd_T24 l0 x10_1).f3))).heap[gb120]? = some (.cells #[.int .i64 ((rd_T24 l0 x10_1).f0),.int .i64 ((rd_T24 l0 x10_1).f1),.int .i64 ((rd_T24 l0 x10_1).f2),.bool ((rd_T24 l0 x10_1).f3)] 24 (0,0))):=⟨by (with_reducible repeat (first|refine blk_drewN ?_ _|refine blk_drew ?_|refine blk_alloc ?_ _));refine blk_put (cs:=#[.int .i64 ((rd_T24 l0 x10_1).f0),.int .i64 ((rd_T24 l0 x10_1).f1),.int .i64 ((rd_T24 l0 x10_1).f2),.bool false]) ?_ 3 _ rfl;(with_reducible repeat (first|refine blk_drewN ?_ _|refine blk_drew ?_|refine blk_alloc ?_ _));refine blk_put (cs:=#[.int .i64 ((rd_T24 l0 x10_1).f0),.int .i64 ((rd_T24 l0 x10_1).f1),.int .i64 0,.bool false]) ?_ 2 _ rfl;(with_reducible repeat (first|refine blk_drewN ?_ _|refine blk_drew ?_|refine blk_alloc ?_ _));refine blk_put (cs:=#[.int .i64 ((rd_T24 l0 x10_1).f0),.int .i64 0,.int .i64 0,.bool false]) ?_ 1 _ rfl;(with_reducible repeat (first|refine blk_drewN ?_ _|refine blk_drew ?_|refine blk_alloc ?_ _));refine blk_put (cs:=#[.int .i64 0,.int .i64 0,.int .i64 0,.bool false]) ?_ 0 _ rfl;(with_reducible repeat (first|refine blk_drewN ?_ _|refine blk_drew ?_|refine blk_alloc ?_ _));exact BK120.out⟩
           have n2_:Aside0 (Below w.heap.size w ((((w21.setCell ⟨gb120,0,none⟩ (.int .i64 ((rd_T24 l0 x10_1).f0))).setCell ⟨gb120,1,none⟩ (.int .i64 ((rd_T24 l0 x10_1).f1))).setCell ⟨gb120,2,none⟩ (.int .i64 ((rd_T24 l0 x10_1).f2))).setCell ⟨gb120,3,none⟩ (.bool ((rd_T24 l0 x10_1).f3)))):=⟨bxs HB GE120⟩
           (try clear HO_4)
           (try clear BK120)
           (try clear HB)
           generalize ((((w21.setCell ⟨gb120,0,none⟩ (.int .i64 ((rd_T24 l0 x10_1).f0))).setCell ⟨gb120,1,none⟩ (.int .i64 ((rd_T24 l0 x10_1).f1))).setCell ⟨gb120,2,none⟩ (.int .i64 ((rd_T24 l0 x10_1).f2))).setCell ⟨gb120,3,none⟩ (.bool ((rd_T24 l0 x10_1).f3)))=w24 at n0_ n1_ n2_ ⊢
           have HO_4:=n0_;have BK120:=n1_;have HB:=n2_;clear n0_ n1_ n2_
           have n0_:=am (Kd.R_drew HO_4.out)
           have n1_:=am (blk_drew BK120.out)
           have n2_:=am (below_drew1 HB.out)
           clear HO_4;clear BK120;clear HB;have HO_4:=n0_;have BK120:=n1_;have HB:=n2_;clear n0_ n1_ n2_
           have p121:0≤((ji6):Int):=od
           have q121:(ji6) < (x4_1.length:Int):=od
           obtain ⟨ad121,e121,hx121_0,hx121_1,hx121_2,hx121_3⟩:=at_T24 (Kd.R_reads' HO_4.out).2.2 (ji6) p121 q121
           cases e121
           replace p121:=eq_true p121;replace q121:=eq_true q121
           refine start_ (n:=11) (S:=fun w'=>w'.cell? ⟨gb120,0,none⟩=some (.int .i64 ((rd_T24 l0 x10_1).f0))∧w'.cell? ⟨gb120,1,none⟩=some (.int .i64 ((rd_T24 l0 x10_1).f1))∧w'.cell? ⟨gb120,2,none⟩=some (.int .i64 ((rd_T24 l0 x10_1).f2))∧w'.cell? ⟨gb120,3,none⟩=some (.bool ((rd_T24 l0 x10_1).f3))∧w'.cell? (ad121.add (((ji6)).toNat*4))=some (.int .i64 ((rd_T24 x4_1 (ji6)).f0))∧w'.cell? ⟨(ad121.add (((ji6)).toNat*4)).block,(ad121.add (((ji6)).toNat*4)).off+1,none⟩=some (.int .i64 ((rd_T24 x4_1 (ji6)).f1))∧w'.cell? ⟨(ad121.add (((ji6)).toNat*4)).block,(ad121.add (((ji6)).toNat*4)).off+2,none⟩=some (.int .i64 ((rd_T24 x4_1 (ji6)).f2))∧w'.cell? ⟨(ad121.add (((ji6)).toNat*4)).block,(ad121.add (((ji6)).toNat*4)).off+3,none⟩=some (.bool ((rd_T24 x4_1 (ji6)).f3))) (ds:=[]) _ (by kernel_rfl) rfl rfl ⟨kc BK120 0,kc BK120 1,kc BK120 2,kc BK120 3,hx121_0,hx121_1,hx121_2,hx121_3⟩ (fun hHeld=>?_);refine with_tabW extent_merged.tab6 extent_merged.bits6 (fun HT_ HW_=>?_)
           generalize w24.drew=w25 at HO_4 BK120 HB hx121_0 hx121_1 hx121_2 hx121_3 hHeld ⊢
           refine pS 0 16 HT_ ?_;refine pS 1 17 HT_ ?_;refine pS 2 18 HT_ ?_;refine pS 3 19 HT_ ?_;refine pS 4 20 HT_ ?_;refine pS 5 21 HT_ ?_;refine pS 6 22 HT_ ?_;refine tS 7 23 HT_ HW_ hHeld ?_ (hy:=by rintro w' ⟨s0,s1,s2,s3,s4,s5,s6,s7⟩;go_simp;with_reducible rfl);refine tS 8 24 HT_ HW_ hHeld ?_ (hy:=by rintro w' ⟨s0,s1,s2,s3,s4,s5,s6,s7⟩;go_simp;with_reducible rfl)
           refine oS 9 (some 25) HT_ (fun K hK=>?_)
           refine goes_ Try.func36 (by kernel_rfl) rfl #[.agg #[.int .i64 ((rd_T24 x4_1 (ji6)).f0),.int .i64 ((rd_T24 x4_1 (ji6)).f1),.int .i64 ((rd_T24 x4_1 (ji6)).f2),.bool ((rd_T24 x4_1 (ji6)).f3)],.agg #[.int .i64 ((rd_T24 l0 x10_1).f0),.int .i64 ((rd_T24 l0 x10_1).f1),.int .i64 ((rd_T24 l0 x10_1).f2),.bool ((rd_T24 l0 x10_1).f3)]] (by rfl) rfl rfl (by (try simp only [List.map_toArray,List.map_cons,List.map_nil]);first|done|(simp only [hji6];rfl)|rfl|(simp only [List.length_drop,List.length_take];rfl)) ?_
           with_reducible refine (extent_goes.calls ((rd_T24 x4_1 (ji6)).f0) ((rd_T24 x4_1 (ji6)).f1) ((rd_T24 x4_1 (ji6)).f2) ((rd_T24 x4_1 (ji6)).f3) ((rd_T24 l0 x10_1).f0) ((rd_T24 l0 x10_1).f1) ((rd_T24 l0 x10_1).f2) ((rd_T24 l0 x10_1).f3) false _ A9.out).mono ?_
           rintro e w26 ⟨rfl,hb⟩
           have HS4_:=(hb.cell (World.block_lt_of_cell? _ _ (hHeld.2.2.2.2.1))).trans (hHeld.2.2.2.2.1)
           have HS5_:=(hb.cell (World.block_lt_of_cell? _ _ (hHeld.2.2.2.2.2.1))).trans (hHeld.2.2.2.2.2.1)
           have HS6_:=(hb.cell (World.block_lt_of_cell? _ _ (hHeld.2.2.2.2.2.2.1))).trans (hHeld.2.2.2.2.2.2.1)
           have HS7_:=(hb.cell (World.block_lt_of_cell? _ _ (hHeld.2.2.2.2.2.2.2))).trans (hHeld.2.2.2.2.2.2.2)
           refine ⟨_,rfl,?_⟩
           have n0_:=am (Kd.R_below (rR HO_4) hb)
           have n1_:=am (blk_below (g:=gb120) (o:=.cells #[.int .i64 ((rd_T24 l0 x10_1).f0),.int .i64 ((rd_T24 l0 x10_1).f1),.int .i64 ((rd_T24 l0 x10_1).f2),.bool ((rd_T24 l0 x10_1).f3)] 24 (0,0)) (rK BK120) hb)
           have n2_:=am (below_step (bxs HB GE120) hb)
           clear HO_4;clear BK120;clear HB;have HO_4:=n0_;have BK120:=n1_;have HB:=n2_;clear n0_ n1_ n2_
           (try clear hb)
           (try clear hb2)
           (try clear hk)
           (try clear hi)
           refine hK.out _ _ ⟨kc BK120 0,kc BK120 1,kc BK120 2,kc BK120 3,HS4_,HS5_,HS6_,HS7_⟩ (fun hHeld=>?_)
           clear hK K;refine norm_ (a':=?_) ?_ ?_;rotate_left
           ·show Act.put _ (some 25) _=_
            simp only [Act.put,sIb,sC0,sCs,i64_w,i32_w];rfl
           refine pS 10 26 HT_ ?_
           refine done_ (done_of HT_.out (by kernel_rfl)) ?_
           have hcz27_0:w26.cell? ⟨gb120,0,none⟩=some (.int .i64 ((rd_T24 l0 x10_1).f0)):=kc BK120 0
           have hcz27_1:w26.cell? ⟨gb120,1,none⟩=some (.int .i64 ((rd_T24 l0 x10_1).f1)):=kc BK120 1
           have hcz27_2:w26.cell? ⟨gb120,2,none⟩=some (.int .i64 ((rd_T24 l0 x10_1).f2)):=kc BK120 2
           have hcz27_3:w26.cell? ⟨gb120,3,none⟩=some (.bool ((rd_T24 l0 x10_1).f3)):=kc BK120 3
           have hfz27_0:=blk_frozen BK120.out 0
           have hfz27_1:=blk_frozen BK120.out 1
           have hfz27_2:=blk_frozen BK120.out 2
           have hfz27_3:=blk_frozen BK120.out 3
           try go_wp2_with (first|((with_reducible refine gate_builtin (b:=.append) (xs:=#[.tmp 38,.tmp 40]) rfl ?_);at_builtin;refine Kd.R_append k24 (w0:=w) w.heap.size rfl (.tmp 38) (.tmp 40) 22 24 (.agg #[(.int .i64 0),(.int .i64 0),(.int .i64 0),(.bool false)]) 32 rfl Try.underlying22 info24 rfl (by decide) (by omega) (.slice (some ad121) x4_1.length co23) x4_1 (⟨(rd_T24 l0 x10_1).f0,(rd_T24 l0 x10_1).f1,(rd_T24 l0 x10_1).f2,(rd_T24 l0 x10_1).f3⟩:S24) [.int .i64 ((rd_T24 l0 x10_1).f0),.int .i64 ((rd_T24 l0 x10_1).f1),.int .i64 ((rd_T24 l0 x10_1).f2),.bool ((rd_T24 l0 x10_1).f3)] (fun k_=>k_≠gb120) (fun _=>False) rfl rfl ?aP (fun _ hk=>hk.elim) ?aF ?aO ?aB ?aS ?aL ?_;(case aP=>exact k24_mkM _ _ _ (⟨(rd_T24 l0 x10_1).f0,(rd_T24 l0 x10_1).f1,(rd_T24 l0 x10_1).f2,(rd_T24 l0 x10_1).f3⟩:S24));(case aB=>exact (bxs HB GE120));(case aF=>exact (fun k_ hk=>Kd.freshB (g:=gb120) (o:=.cells #[.int .i64 ((rd_T24 l0 x10_1).f0),.int .i64 ((rd_T24 l0 x10_1).f1),.int .i64 ((rd_T24 l0 x10_1).f2),.bool ((rd_T24 l0 x10_1).f3)] 24 (0,0)) (rK BK120) k_ hk));(case aO=>exact (rR HO_4));(case aS=>exact (below_size (bxs HB GE120)));(case aL=>have:=LMc20.out;omega);intro v126 w28 ho hb hg hat;rw [← Ny125.out] at ho;have n0_:=am (blk_grown (g:=gb120) (o:=.cells #[.int .i64 ((rd_T24 l0 x10_1).f0),.int .i64 ((rd_T24 l0 x10_1).f1),.int .i64 ((rd_T24 l0 x10_1).f2),.bool ((rd_T24 l0 x10_1).f3)] 24 (0,0)) (rK BK120) hg (Kd.R_away HO_4.out (fun _ hk=>hk)));have n1_:=am (hb);have n2_:=am (ho);clear BK120;clear HB;clear HO_4;have BK120:=n0_;have HB:=n1_;have HO127:=n2_;clear n0_ n1_ n2_;clear ho hb hg hat))
           go_roundg k1
           case measure=>have:=HK1.out;omega
           case rel=>exact ⟨(y125),(wrap64 (x10_1+1)),(by first|rfl|(simp;done)|(simp [*];done)),H',⟨by have:=HK1.out;omega⟩,⟨by (with_reducible repeat (first|apply Kd.R_alloc|apply Kd.R_drewN|apply Kd.R_drew));exact Kd.R_mono HO127.out (fun _ hk=>trivial)⟩,⟨bxs HB GE120⟩⟩
          ·rw [if_neg c20] at H
           exact absurd H (by simp)
        ·rw [if_neg c8] at H
         exact absurd H (by simp)
       ·rw [if_neg c7] at H
        exact absurd H (by simp)
      ·rw [if_neg c5] at H
       have c5b0:decide (0 < (x4_1.length:Int))=false:=decide_eq_false c5
       have c5b1:decide (0 < x4_1.length)=false:=decide_eq_false (by omega)
       clear c5
       by_cases c29:x4_1.length < 4398046511104
       ·rw [if_pos c29] at H
        have LMc29:=am c29
        clear c29
        obtain ⟨y128,hy128⟩:∃ y_:List (S24),y_=(x4_1++[(⟨(rd_T24 l0 x10_1).f0,(rd_T24 l0 x10_1).f1,(rd_T24 l0 x10_1).f2,(rd_T24 l0 x10_1).f3⟩:S24)]):=⟨_,rfl⟩
        replace H:(extent_merged.l0 k1 y128 l0 (l0.length:Int) (wrap64 (x10_1+1)))=some (r1,r2):=by first|(rw [hy128];with_reducible exact H)|(have H2_:=(Option.bind_some _ _).symm.trans H;rw [hy128];with_reducible exact H2_)|(have H2_:=(Option.bind_some _ _).symm.trans H;with_reducible exact H2_)|with_reducible exact H|(rw [hy128];exact H)|exact H
        have Ny128:=am hy128
        clear hy128
        have H':=am H
        clear H
        have p119:0≤(x10_1:Int):=od
        have q119:x10_1 < (l0.length:Int):=od
        obtain ⟨ad119,e119,hx119_0,hx119_1,hx119_2,hx119_3⟩:=at_T24 HR0.out x10_1 p119 q119
        cases e119
        replace hx119_0:=hB HB hx119_0
        replace hx119_1:=hB HB hx119_1
        replace hx119_2:=hB HB hx119_2
        replace hx119_3:=hB HB hx119_3
        replace p119:=eq_true p119;replace q119:=eq_true q119
        try go_wp2_with (first|((with_reducible refine gate_dst (N:=6) rfl ?_);refine box_event ?hg (N:=6) ?hd (cs:=#[.int .i64 0,.int .i64 0,.int .i64 0,.bool false]) (t:=24) ?hr ?_;(case hd=>rfl);(case hg=>rfl);(case hr=>first|(go_simp;done)|(go_simp;rfl));intro gb120 hg w30 hbox hb;have n0_:=am (Kd.R_below (Kd.R_elderB (rR HO_4) gb120 (Nat.le_of_eq hg.symm)) hb);have n1_:=bst HB hb;have n2_:=am (hbox);have n3_:=am ((gz hg HB));have n4_:=am ((gz hg HB));clear HO_4;clear HB;have HO_4:=n0_;have HB:=n1_;have BK120:=n2_;have GW120:=n3_;have GE120:=n4_;clear n0_ n1_ n2_ n3_ n4_;clear hb hbox hg;have hcz31_0:w30.cell? ⟨gb120,0,none⟩=some (.int .i64 0):=kc BK120 0;have hcz31_1:w30.cell? ⟨gb120,1,none⟩=some (.int .i64 0):=kc BK120 1;have hcz31_2:w30.cell? ⟨gb120,2,none⟩=some (.int .i64 0):=kc BK120 2;have hcz31_3:w30.cell? ⟨gb120,3,none⟩=some (.bool false):=kc BK120 3;have hfz31_0:=blk_frozen BK120.out 0;have hfz31_1:=blk_frozen BK120.out 1;have hfz31_2:=blk_frozen BK120.out 2;have hfz31_3:=blk_frozen BK120.out 3;obtain ⟨Ao32,co32,eo32⟩:=Kd.R_slice HO_4.out;subst eo32))
        have n0_:Aside0 (Kd.R k24 24 ((((w30.setCell ⟨gb120,0,none⟩ (.int .i64 ((rd_T24 l0 x10_1).f0))).setCell ⟨gb120,1,none⟩ (.int .i64 ((rd_T24 l0 x10_1).f1))).setCell ⟨gb120,2,none⟩ (.int .i64 ((rd_T24 l0 x10_1).f2))).setCell ⟨gb120,3,none⟩ (.bool ((rd_T24 l0 x10_1).f3))) w.heap.size (fun k_=>k_≠gb120) (.slice Ao32 x4_1.length co32) x4_1):=⟨by (with_reducible repeat (first|apply Kd.R_alloc|apply Kd.R_drewN|apply Kd.R_drew));exact Kd.R_mono (Kd.R_far (p:=⟨gb120,3,none⟩) (Kd.R_far (p:=⟨gb120,2,none⟩) (Kd.R_far (p:=⟨gb120,1,none⟩) (Kd.R_far (p:=⟨gb120,0,none⟩) (Kd.R_mono HO_4.out (fun k_ hk=>(⟨hk,hk.2⟩:_∧k_≠gb120))) (fun _ hk=>hk.2) (.int .i64 ((rd_T24 l0 x10_1).f0))) (fun _ hk=>hk.2) (.int .i64 ((rd_T24 l0 x10_1).f1))) (fun _ hk=>hk.2) (.int .i64 ((rd_T24 l0 x10_1).f2))) (fun _ hk=>hk.2) (.bool ((rd_T24 l0 x10_1).f3))) (fun _ hk=>hk.1.2)⟩
        have n1_:Aside0 (((((w30.setCell ⟨gb120,0,none⟩ (.int .i64 ((rd_T24 l0 x10_1).f0))).setCell ⟨gb120,1,none⟩ (.int .i64 ((rd_T24 l0 x10_1).f1))).setCell ⟨gb120,2,none⟩ (.int .i64 ((rd_T24 l0 x10_1).f2))).setCell ⟨gb120,3,none⟩ (.bool ((rd_T24 l0 x10_1).f3))).heap[gb120]? = some (.cells #[.int .i64 ((rd_T24 l0 x10_1).f0),.int .i64 ((rd_T24 l0 x10_1).f1),.int .i64 ((rd_T24 l0 x10_1).f2),.bool ((rd_T24 l0 x10_1).f3)] 24 (0,0))):=⟨by (with_reducible repeat (first|refine blk_drewN ?_ _|refine blk_drew ?_|refine blk_alloc ?_ _));refine blk_put (cs:=#[.int .i64 ((rd_T24 l0 x10_1).f0),.int .i64 ((rd_T24 l0 x10_1).f1),.int .i64 ((rd_T24 l0 x10_1).f2),.bool false]) ?_ 3 _ rfl;(with_reducible repeat (first|refine blk_drewN ?_ _|refine blk_drew ?_|refine blk_alloc ?_ _));refine blk_put (cs:=#[.int .i64 ((rd_T24 l0 x10_1).f0),.int .i64 ((rd_T24 l0 x10_1).f1),.int .i64 0,.bool false]) ?_ 2 _ rfl;(with_reducible repeat (first|refine blk_drewN ?_ _|refine blk_drew ?_|refine blk_alloc ?_ _));refine blk_put (cs:=#[.int .i64 ((rd_T24 l0 x10_1).f0),.int .i64 0,.int .i64 0,.bool false]) ?_ 1 _ rfl;(with_reducible repeat (first|refine blk_drewN ?_ _|refine blk_drew ?_|refine blk_alloc ?_ _));refine blk_put (cs:=#[.int .i64 0,.int .i64 0,.int .i64 0,.bool false]) ?_ 0 _ rfl;(with_reducible repeat (first|refine blk_drewN ?_ _|refine blk_drew ?_|refine blk_alloc ?_ _));exact BK120.out⟩
        have n2_:Aside0 (Below w.heap.size w ((((w30.setCell ⟨gb120,0,none⟩ (.int .i64 ((rd_T24 l0 x10_1).f0))).setCell ⟨gb120,1,none⟩ (.int .i64 ((rd_T24 l0 x10_1).f1))).setCell ⟨gb120,2,none⟩ (.int .i64 ((rd_T24 l0 x10_1).f2))).setCell ⟨gb120,3,none⟩ (.bool ((rd_T24 l0 x10_1).f3)))):=⟨bxs HB GE120⟩
        (try clear HO_4)
        (try clear BK120)
        (try clear HB)
        generalize ((((w30.setCell ⟨gb120,0,none⟩ (.int .i64 ((rd_T24 l0 x10_1).f0))).setCell ⟨gb120,1,none⟩ (.int .i64 ((rd_T24 l0 x10_1).f1))).setCell ⟨gb120,2,none⟩ (.int .i64 ((rd_T24 l0 x10_1).f2))).setCell ⟨gb120,3,none⟩ (.bool ((rd_T24 l0 x10_1).f3)))=w33 at n0_ n1_ n2_ ⊢
        have HO_4:=n0_;have BK120:=n1_;have HB:=n2_;clear n0_ n1_ n2_
        have n0_:=am (Kd.R_drew HO_4.out)
        have n1_:=am (blk_drew BK120.out)
        have n2_:=am (below_drew1 HB.out)
        clear HO_4;clear BK120;clear HB;have HO_4:=n0_;have BK120:=n1_;have HB:=n2_;clear n0_ n1_ n2_
        refine start_ (n:=11) (S:=fun w'=>True) (ds:=[]) _ (by kernel_rfl) rfl rfl trivial (fun hHeld=>?_);refine with_tabW extent_merged.tab6 extent_merged.bits6 (fun HT_ HW_=>?_)
        generalize w33.drew=w34 at HO_4 BK120 HB hHeld ⊢
        refine pS 0 16 HT_ ?_;refine pS 1 17 HT_ ?_;refine pS 2 18 HT_ ?_;refine uS 3 19 HT_ ?_;refine uS 4 20 HT_ ?_;refine uS 5 21 HT_ ?_;refine uS 6 22 HT_ ?_;refine uS 7 23 HT_ ?_;refine uS 8 24 HT_ ?_;refine uS 9 25 HT_ ?_;refine pS 10 26 HT_ ?_
        refine done_ (done_of HT_.out (by kernel_rfl)) ?_
        have hcz35_0:w34.cell? ⟨gb120,0,none⟩=some (.int .i64 ((rd_T24 l0 x10_1).f0)):=kc BK120 0
        have hcz35_1:w34.cell? ⟨gb120,1,none⟩=some (.int .i64 ((rd_T24 l0 x10_1).f1)):=kc BK120 1
        have hcz35_2:w34.cell? ⟨gb120,2,none⟩=some (.int .i64 ((rd_T24 l0 x10_1).f2)):=kc BK120 2
        have hcz35_3:w34.cell? ⟨gb120,3,none⟩=some (.bool ((rd_T24 l0 x10_1).f3)):=kc BK120 3
        have hfz35_0:=blk_frozen BK120.out 0
        have hfz35_1:=blk_frozen BK120.out 1
        have hfz35_2:=blk_frozen BK120.out 2
        have hfz35_3:=blk_frozen BK120.out 3
        try go_wp2_with (first|((with_reducible refine gate_builtin (b:=.append) (xs:=#[.tmp 38,.tmp 40]) rfl ?_);at_builtin;refine Kd.R_append k24 (w0:=w) w.heap.size rfl (.tmp 38) (.tmp 40) 22 24 (.agg #[(.int .i64 0),(.int .i64 0),(.int .i64 0),(.bool false)]) 32 rfl Try.underlying22 info24 rfl (by decide) (by omega) (.slice Ao32 x4_1.length co32) x4_1 (⟨(rd_T24 l0 x10_1).f0,(rd_T24 l0 x10_1).f1,(rd_T24 l0 x10_1).f2,(rd_T24 l0 x10_1).f3⟩:S24) [.int .i64 ((rd_T24 l0 x10_1).f0),.int .i64 ((rd_T24 l0 x10_1).f1),.int .i64 ((rd_T24 l0 x10_1).f2),.bool ((rd_T24 l0 x10_1).f3)] (fun k_=>k_≠gb120) (fun _=>False) rfl rfl ?aP (fun _ hk=>hk.elim) ?aF ?aO ?aB ?aS ?aL ?_;(case aP=>exact k24_mkM _ _ _ (⟨(rd_T24 l0 x10_1).f0,(rd_T24 l0 x10_1).f1,(rd_T24 l0 x10_1).f2,(rd_T24 l0 x10_1).f3⟩:S24));(case aB=>exact (bxs HB GE120));(case aF=>exact (fun k_ hk=>Kd.freshB (g:=gb120) (o:=.cells #[.int .i64 ((rd_T24 l0 x10_1).f0),.int .i64 ((rd_T24 l0 x10_1).f1),.int .i64 ((rd_T24 l0 x10_1).f2),.bool ((rd_T24 l0 x10_1).f3)] 24 (0,0)) (rK BK120) k_ hk));(case aO=>exact (rR HO_4));(case aS=>exact (below_size (bxs HB GE120)));(case aL=>have:=LMc29.out;omega);intro v129 w36 ho hb hg hat;rw [← Ny128.out] at ho;have n0_:=am (blk_grown (g:=gb120) (o:=.cells #[.int .i64 ((rd_T24 l0 x10_1).f0),.int .i64 ((rd_T24 l0 x10_1).f1),.int .i64 ((rd_T24 l0 x10_1).f2),.bool ((rd_T24 l0 x10_1).f3)] 24 (0,0)) (rK BK120) hg (Kd.R_away HO_4.out (fun _ hk=>hk)));have n1_:=am (hb);have n2_:=am (ho);clear BK120;clear HB;clear HO_4;have BK120:=n0_;have HB:=n1_;have HO130:=n2_;clear n0_ n1_ n2_;clear ho hb hg hat))
        go_roundg k1
        case measure=>have:=HK1.out;omega
        case rel=>exact ⟨(y128),(wrap64 (x10_1+1)),(by first|rfl|(simp;done)|(simp [*];done)),H',⟨by have:=HK1.out;omega⟩,⟨by (with_reducible repeat (first|apply Kd.R_alloc|apply Kd.R_drewN|apply Kd.R_drew));exact Kd.R_mono HO130.out (fun _ hk=>trivial)⟩,⟨bxs HB GE120⟩⟩
       ·rw [if_neg c29] at H
        exact absurd H (by simp)
     ·rw [if_neg c4] at H
      exact absurd H (by simp)
    ·rw [if_neg c3] at H
     exact absurd H (by simp)
   ·rw [if_neg c2] at H
    have c2b0:decide (x10_1 < (l0.length:Int))=false:=decide_eq_false c2
    clear c2
    by_cases c37:(x4_1.length:Int) > 60
    ·rw [if_pos c37] at H
     have c37b0:decide (60 < (x4_1.length:Int))=true:=decide_eq_true c37
     have c37b1:decide (60 < x4_1.length)=true:=decide_eq_true (by omega)
     clear c37
     simp only [Option.some.injEq,Prod.mk.injEq] at H
     obtain ⟨rfl,rfl⟩:=H
     obtain ⟨Ao38,co38,eo38⟩:=Kd.R_slice HO_4.out
     subst eo38
     go_wp2
     go_ret2
     exact ⟨_,by first|rfl|(simp [errW_none,errW_some]<;>rfl)|(simp [*,errW_none,errW_some]<;>rfl),by first|exact Kd.R_nil _ _ _ _ _|exact Kd.N_nil _ _ _ _ _|exact Kd.V_nil _ _ _ _ _|exact Kd.Q_nil _ _ _ _ _|exact Kd.S_nil _ _ _ _ _,bb HB⟩
    ·rw [if_neg c37] at H
     have c37b0:decide (60 < (x4_1.length:Int))=false:=decide_eq_false c37
     have c37b1:decide (60 < x4_1.length)=false:=decide_eq_false (by omega)
     clear c37
     simp only [Option.some.injEq,Prod.mk.injEq] at H
     obtain ⟨rfl,rfl⟩:=H
     obtain ⟨Ao39,co39,eo39⟩:=Kd.R_slice HO_4.out
     subst eo39
     go_wp2
     go_ret2
     exact ⟨_,by first|rfl|(simp [errW_none,errW_some]<;>rfl)|(simp [*,errW_none,errW_some]<;>rfl),by (with_reducible repeat (first|apply Kd.R_alloc|apply Kd.R_drewN|apply Kd.R_drew));exact HO_4.out,bb HB⟩
end Go.Proofs.Ytopmjjnkolfciaa.Pr
end
section
namespace Go.Proofs.Ytopmjjnkolfciaa.Pr
open Go.RowKit Go.Proofs.YtopmjjnkolfciaaW.PrintWords Go.Proofs.YtopmjjnkolfciaaW.PrintLast Go.Proofs.YtopmjjnkolfciaaW.PrintMore
set_option linter.unusedVariables false
set_option linter.unusedSimpArgs false
theorem disjD_symm (a b : S24) : disjD a b = disjD b a := by
  unfold disjD
  exact decide_eq_decide.2 ⟨fun h => h.symm, fun h => h.symm⟩
theorem apartL_iff : ∀ l : List S24, apartL l = true ↔ l.Pairwise (fun a b => disjD a b = true)
  | [] => by simp [apartL]
  | e :: l => by
    rw [apartL, Bool.and_eq_true, List.all_eq_true, apartL_iff l, List.pairwise_cons]
theorem apart_ins {l : List S24} {e : S24} (h : apartL l = true) : apartL (insE l e) = true ↔ ∀ x ∈ l, disjD x e = true := by
  rw [apartL_iff] at h
  rw [← List.take_append_drop (behindN l e.f0) l, List.pairwise_append] at h
  rw [apartL_iff]
  unfold insE
  rw [List.pairwise_append, List.pairwise_cons]
  constructor
  · rintro ⟨h1, ⟨h2, h3⟩, h4⟩ x hx
    rw [← List.take_append_drop (behindN l e.f0) l] at hx
    rcases List.mem_append.1 hx with hx | hx
    · exact h4 x hx e List.mem_cons_self
    · rw [disjD_symm]; exact h2 x hx
  · intro h2
    refine ⟨h.1, ⟨fun x hx => by rw [disjD_symm]; exact h2 x (List.mem_of_mem_drop hx), h.2.1⟩, fun x hx y hy => ?_⟩
    rcases List.mem_cons.1 hy with rfl | hy
    · exact h2 x (List.mem_of_mem_take hx)
    · exact h.2.2 x hx y hy
theorem clash_iff {l : List S24} {e : S24} : clash l e = false ↔ (∀ x ∈ l, disjD x e = true) ∧ ∀ x ∈ l, disjF x e = true := by
  unfold clash
  rw [List.any_eq_false]
  constructor
  · intro h
    refine ⟨fun x hx => ?_, fun x hx => ?_⟩
    · have := h x hx
      cases hd : disjD x e
      · rw [hd] at this; simp at this
      · rfl
    · have := h x hx
      cases hd : disjF x e
      · rw [hd] at this; simp at this
      · rfl
  · rintro ⟨h1, h2⟩ x hx
    rw [h1 x hx, h2 x hx]; simp
theorem room_file {l : List S24} {e : S24} (hall : ∀ x ∈ l, mayE x = true) (hr : riseL l) (he : mayE e = true) (h : ∀ hi : behindN l e.f0 < l.length, ¬ l[behindN l e.f0].f0 < e.f0 + e.f2) : ∀ x ∈ l, disjF x e = true := by
  intro x hx
  have hm := mayE_facts he
  have hmx := mayE_facts (hall x hx)
  refine decide_eq_true ?_
  rw [← List.take_append_drop (behindN l e.f0) l] at hx
  rcases List.mem_append.1 hx with hx | hx
  · exact Or.inl (behind_take l e.f0 x hx)
  · by_cases hi : behindN l e.f0 < l.length
    · have h1 := h hi
      obtain ⟨j, hj, rfl⟩ := List.mem_iff_getElem.1 hx
      rw [List.getElem_drop]
      rw [List.length_drop] at hj
      by_cases j0 : j = 0
      · subst j0
        right
        simpa using (show e.f0 + e.f2 ≤ l[behindN l e.f0].f0 by omega)
      · have := List.pairwise_iff_getElem.1 hr (behindN l e.f0) (behindN l e.f0 + j) hi (by omega) (by omega)
        have := mayE_facts (hall l[behindN l e.f0] (List.getElem_mem hi))
        right; omega
    · rw [List.drop_of_length_le (by omega)] at hx
      cases hx
theorem no_room_file {l : List S24} {e : S24} (hall : ∀ x ∈ l, mayE x = true) (hr : riseL l) (he : mayE e = true) (hi : behindN l e.f0 < l.length) (h : l[behindN l e.f0].f0 < e.f0 + e.f2) : clash l e = true := by
  have hm := mayE_facts he
  have hd := behind_drop l e.f0 hr (fun y hy => by have := mayE_facts (hall y hy); omega) l[behindN l e.f0] (by rw [List.drop_eq_getElem_cons hi]; exact List.mem_cons_self)
  cases hc : clash l e
  · have := of_decide_eq_true ((clash_iff.1 hc).2 _ (List.getElem_mem hi))
    omega
  · rfl
theorem ins_may {l : List S24} {e : S24} (hall : ∀ x ∈ l, mayE x = true) (he : mayE e = true) : ∀ y ∈ insE l e, mayE y = true := fun y hy => by
  rcases insE_mem.1 hy with rfl | hy
  · exact he
  · exact hall y hy
theorem mayE_D {e : S24} (h : mayE e = true) : mayD e = true := by
  have := mayE_facts h
  exact decide_eq_true (by omega)
theorem insE_len (l : List S24) (e : S24) : (insE l e).length = l.length + 1 := by
  unfold insE
  rw [List.length_append, List.length_cons, List.length_take, List.length_drop]
  have := behindN_le l e.f0
  omega
theorem goesC_f (a b : S24) : extent_goes.f a.f0 a.f1 a.f2 a.f3 b.f0 b.f1 b.f2 b.f3 = some (goesR a b) := by
  unfold extent_goes.f extent_end.f extent_last.f goesR
  rw [Option.bind_some]
  by_cases h1 : wrap64 (a.f0 + a.f2) = b.f0
  · rw [if_pos h1, beq_iff_eq.2 h1, Option.bind_some]
    by_cases h2 : wrap64 (a.f1 + a.f2) = b.f1
    · rw [if_pos h2, beq_iff_eq.2 h2]; rfl
    · rw [if_neg h2, beq_eq_false_iff_ne.2 h2]; rfl
  · rw [if_neg h1, beq_eq_false_iff_ne.2 h1]; rfl
theorem merged_l0 (l : List S24) (hl : l.length < 4398046511104) : ∀ (d k i : Nat) (acc : List S24), i + d = l.length → d < k → acc.length ≤ i → extent_merged.l0 k acc l (l.length : Int) (i : Int) = some (fitL ((l.drop i).foldl addE acc))
  | 0, k, i, acc, h1, h2, h3 => by
    obtain ⟨k, rfl⟩ : ∃ m, k = m + 1 := ⟨k - 1, by omega⟩
    unfold extent_merged.l0
    rw [if_neg (by omega), List.drop_of_length_le (by omega)]
    show _ = some (fitL acc)
    unfold fitL
    by_cases c : acc.length > 60
    · rw [if_pos (by omega), if_pos c]
    · rw [if_neg (by omega), if_neg c]
  | d + 1, k, i, acc, h1, h2, h3 => by
    obtain ⟨k, rfl⟩ : ∃ m, k = m + 1 := ⟨k - 1, by omega⟩
    have hi : i < l.length := by omega
    have hw : wrap64 ((i : Int) + 1) = ((i + 1 : Nat) : Int) := by unfold wrap64; omega
    have hrd : rd_T24 l (i : Int) = l[i] := rd_in hi
    rw [List.drop_eq_getElem_cons hi, List.foldl_cons]
    unfold extent_merged.l0
    rw [if_pos (by omega), if_pos (by omega), if_pos (by omega), hrd, hw]
    obtain ⟨e, he⟩ : ∃ e, l[i] = e := ⟨_, rfl⟩
    rw [he]
    by_cases h0 : acc.length = 0
    · rw [if_neg (by omega), if_pos (by omega), merged_l0 l hl d k (i + 1) _ (by omega) (by omega) (by rw [List.length_append]; simp; omega)]
      unfold addE
      rw [if_pos h0]
    · obtain ⟨m, hm⟩ : ∃ m, acc.length - 1 = m := ⟨_, rfl⟩
      have hmw : wrap64 ((acc.length : Int) - 1) = (m : Int) := by unfold wrap64; omega
      have hrm : rd_T24 acc (m : Int) = acc.getD m z24 := rfl
      rw [if_pos (by omega), hmw, if_pos (by omega), if_pos (by omega), hrm, goesC_f, Option.bind_some]
      by_cases hg : goesR (acc.getD m z24) e = true
      · rw [if_pos hg, Int.toNat_natCast, merged_l0 l hl d k (i + 1) _ (by omega) (by omega) (by rw [List.length_set]; omega)]
        unfold addE
        rw [if_neg h0, hm, if_pos hg]
      · rw [if_neg hg, if_pos (by omega), merged_l0 l hl d k (i + 1) _ (by omega) (by omega) (by rw [List.length_append]; simp; omega)]
        unfold addE
        rw [if_neg h0, hm, if_neg hg]
theorem merged_f (l : List S24) (hl : l.length < 4398046511104) (k : Nat) (hk : l.length < k) : extent_merged.f k l = some (fitL (mergeL l)) := by
  unfold extent_merged.f
  have := merged_l0 l hl l.length k 0 [] (by omega) hk (Nat.le_refl _)
  rw [List.drop_zero] at this
  exact this
end Go.Proofs.Ytopmjjnkolfciaa.Pr
end
section
namespace Go.Proofs.Ytopmjjnkolfciaa.Sq
open Go Go.RowKit
variable {F : Fence} {n : Nat} {P : Program}
set_option linter.unusedVariables false
theorem range_state {α : Type} {g : Operand} {ps : Array Tmp} {assign body : Code} {Q : Exit → Act → World → Prop} {a : Act} {w : World}
    (hro : F.round = none) (h1 : 1 ≤ n) {gf : Nat} {lb : Array Value} (hg : a.eval g = .func (.func gf) #[] lb) (hFg : F.fn gf) (eg : ∀ args w, (callFunc gf args).run P w = .ok (.enter gf args) w)
    (encs : α → Array Value) (hps : ∀ x, (encs x).size = ps.size) (Kp : World → World → Prop) (S Sp : List α → Prop) (N : Nat)
    (hKt : ∀ {A B C : World}, Kp A B → Kp B C → Kp A C) (hKb : ∀ (W : World) (o : Obj), Kp W (W.putObj (w.heap.size + 1) o))
    (I : List α → World → Prop) (Ix : Code → List α → World → Prop) (hI : OwnFrom w.heap.size I) (hIx : ∀ c, OwnFrom w.heap.size (Ix c)) (h0 : I [] w) (As : Act → List α × α × World → World → Prop) (hAs : ∀ a', OwnFrom w.heap.size (As a'))
    (hit : ∀ (l : Nat) (R : World → Prop) (Rx : Code → World → Prop) (W : World), (∀ A B, KeepsFrom w.heap.size A B → R A → R B) → (∀ c A B, KeepsFrom w.heap.size A B → Rx c A → Rx c B) → (∀ A, R A → w.heap.size + 1 < A.heap.size) → Below w.heap.size w W →
      (∀ pre x W1, I pre W1 → R W1 → pre.length < N → YieldAt F (n - 1 - 1) P l (encs x) W1 fun e W' =>
        (e = .returned (.bool true) ∧ I (pre ++ [x]) W' ∧ R W' ∧ Kp W1 W') ∨ (e = .returned (.bool false) ∧ ∃ c, Ix c (pre ++ [x]) W' ∧ Rx c W')) →
      I [] W → R W →
      CallsIn F (n - 1) P gf (#[.func (.yield l) #[] #[]] ++ lb) W fun e W' => (∃ v, e = .returned v) ∧ ((∃ xs, S xs ∧ I xs W' ∧ R W') ∨ (∃ c pre, Sp pre ∧ Ix c pre W' ∧ Rx c W')))
    (hassign : ∀ (l : Nat) (pre : List α) (x : α) (W : World) (K : Act → World → Prop), I pre W → pre.length < N → w.heap.size + 1 < W.heap.size → (∀ a' W', KeepsFrom w.heap.size W W' → As a' (pre, x, W) W' → K a' W') →
      assign.wpIn (F.inRound l) (n - 1 - 1) P (Exit.then K (fun _ _ _ => False)) { tmps := (ps.zip (encs x)).foldl (fun t (p, v) => t.setIfInBounds p v) a.tmps, defers := [] } W)
    (hbody : ∀ (l : Nat) (pre : List α) (x : α) (a' : Act) (W0 W : World), As a' (pre, x, W0) W → pre.length < N → body.wpIn (F.inRound l) (n - 1 - 1) P (ownPostG w.heap.size (fun _ W' => Kp W0 W') I Ix (pre ++ [x]) W) a' W)
    (hdone : ∀ (D : Nat) (xs : List α) (W : World), w.heap.size ≤ D → S xs → I xs W → W.heap[D]? = some (.deferred (some [])) → Q .normal { a with defers := { target := .collected D, args := #[] } :: a.defers } W)
    (hstop : ∀ (D : Nat) (c : Code) (pre : List α) (W : World), w.heap.size ≤ D → Sp pre → Ix c pre W → W.heap[D]? = some (.deferred (some [])) → c.wpIn F n P Q { a with defers := { target := .collected D, args := #[] } :: a.defers } W) :
    (Code.rangeFunc g ps assign body).wpIn F n P Q a w := by
  refine wpIn_rangeFunc fun fn hfn => ?_
  rw [hro]
  obtain ⟨rec, hrec⟩ : ∃ rec : LoopState → Option Code → Loop, rec = fun st pe => { state := st, pending := pe, fn, tmps := a.tmps, params := ps, assign, body, defers := w.heap.size } := ⟨_, rfl⟩
  obtain ⟨d, hd⟩ : ∃ d, d = w.heap.size := ⟨_, rfl⟩
  obtain ⟨W1, hW1⟩ : ∃ W1, (w.alloc (.deferred (some []))).alloc (.loop (rec .ready none)) = W1 := ⟨_, rfl⟩
  obtain ⟨Rec, hRec⟩ : ∃ Rec : LoopState → Option Code → World → Prop, Rec = fun st pe W => W.heap[d + 1]? = some (.loop (rec st pe)) ∧ W.heap[d]? = some (.deferred (some [])) := ⟨_, rfl⟩
  have hkeep : ∀ st pe A B, KeepsFrom d A B → Rec st pe A → Rec st pe B := by
    subst hRec
    exact fun st pe A B hk h => ⟨hk.same _ _ (by omega) h.1 rfl, hk.same _ _ (Nat.le_refl _) h.2 rfl⟩
  have hput : ∀ st pe st' pe' A, Rec st pe A → Rec st' pe' (A.putObj (d + 1) (.loop (rec st' pe'))) := by
    subst hRec
    exact fun st pe st' pe' A h => ⟨World.putObj_heap_same (Array.getElem?_eq_some_iff.1 h.1).1, (World.putObj_heap_other (by omega)).trans h.2⟩
  have hblk : ∀ st pe A, Rec st pe A → A.heap[d + 1]? = some (.loop (rec st pe)) := by subst hRec; exact fun _ _ _ h => h.1
  have hdef : ∀ st pe A, Rec st pe A → A.heap[d]? = some (.deferred (some [])) := by subst hRec; exact fun _ _ _ h => h.2
  have hR1 : Rec .ready none W1 := by
    subst hRec hW1 hd
    refine ⟨?_, (Below.heap_alloc _ _ _ (by simp)).trans (World.alloc_heap_new w _)⟩
    have := World.alloc_heap_new (w.alloc (.deferred (some []))) (.loop (rec .ready none))
    rwa [World.size_alloc] at this
  have hI1 : I [] W1 := by rw [← hW1]; exact hI.alloc _ (hI.alloc _ h0)
  have hb1 : Below w.heap.size w W1 := by rw [← hW1]; exact ((Below.refl _ w).alloc (Nat.le_refl _) _).alloc (by simp) _
  have hIp : ∀ s W st pe o, I s W → Rec st pe W → I s (W.putObj (d + 1) o) := fun s W st pe o hs hr => hI.putObj _ hs (by omega) (hblk _ _ _ hr) rfl
  have hIxp : ∀ c s W st pe o, Ix c s W → Rec st pe W → Ix c s (W.putObj (d + 1) o) := fun c s W st pe o hs hr => (hIx c).putObj _ hs (by omega) (hblk _ _ _ hr) rfl
  refine ⟨d + 1, [{ target := .collected d, args := #[] }], W1, { target := .fn (.func gf) lb, args := #[.func (.yield (d + 1)) #[] #[]] }, W1, gf, #[.func (.yield (d + 1)) #[] #[]] ++ lb, W1, ?_, ?_, ?_, ?_, fun _ => h1, ?_⟩
  · rw [← hW1, hrec, hd]; exact run_enterLoop_outer _ _ _ _ _
  · simp only [resolve, hg]
    simp [go_sem]
  · intro f' hf'; simp [Target.leads] at hf'; subst hf'; exact hFg
  · simp [invoke, go_sem, eg]
  · refine (hit (d + 1) (Rec .ready none) (fun c => Rec .done (some c)) W1 (by rw [← hd]; exact hkeep _ _) (fun c => by rw [← hd]; exact hkeep _ _) (fun A h => by rw [← hd]; exact (Array.getElem?_eq_some_iff.1 (hblk _ _ _ h)).1) hb1 (fun pre x W hi hr hlen => ?_) hI1 hR1).mono ?_
    ·
      have hy := run_yield (P := P) (args := encs x) (hblk _ _ _ hr) (by rw [hrec]; exact hps x)
      rw [hrec] at hy
      have hsz : w.heap.size + 1 < W.heap.size := by rw [← hd]; exact (Array.getElem?_eq_some_iff.1 (hblk _ _ _ hr)).1
      refine ⟨fn, _, assign, body, hy, roundIn_of_wpIn hfn (hassign _ pre x W _ hi hlen hsz (fun a' W' hkW has => ?_))⟩
      rw [← hd] at hkW
      have hr' := hkeep _ _ _ _ hkW hr
      have hbeg := run_beginRound (P := P) (hblk _ _ _ hr') (by rw [hrec])
      rw [show ({ rec .ready none with state := .busy } : Loop) = rec .busy none by rw [hrec]] at hbeg
      refine ⟨_, hbeg, ?_⟩
      have hr2 := hput _ _ .busy none _ hr'
      refine wpIn_mono (hbody _ pre x a' W _ ((hAs a').putObj _ has (by omega) (hblk _ _ _ hr') rfl) hlen) ?_
      have fin : ∀ (jump : Option Code) (W3 : World), Rec .busy none W3 → (Instr.endRound (d + 1) jump).run P W3 = .ok (.bool jump.isNone) (W3.putObj (d + 1) (.loop (rec (if jump.isNone then .ready else .done) jump))) := fun jump W3 h3 => by
        have := run_endRound (P := P) jump (hblk _ _ _ h3)
        rw [show ({ rec .busy none with state := if jump.isNone then .ready else .done, pending := jump } : Loop) = rec (if jump.isNone then .ready else .done) jump by rw [hrec]] at this
        exact this
      rintro e a3 W3 hp
      cases e with
      | normal =>
        obtain ⟨hk3, hkp3, hi3⟩ := hp
        rw [← hd] at hk3
        have hr3 := hkeep _ _ _ _ hk3 hr2
        exact ⟨_, _, fin none W3 hr3, .inl ⟨rfl, hIp _ _ _ _ _ hi3 hr3, hput _ _ _ _ _ hr3, hKt hkp3 (by have := hKb W3 (.loop (rec .ready none)); rw [← hd] at this; exact this)⟩⟩
      | ret =>
        obtain ⟨hk3, hi3⟩ := hp
        rw [← hd] at hk3
        have hr3 := hkeep _ _ _ _ hk3 hr2
        exact ⟨_, _, fin (some .ret) W3 hr3, .inr ⟨rfl, .ret, hIxp _ _ _ _ _ _ hi3 hr3, hput _ _ _ _ _ hr3⟩⟩
      | exit id =>
        obtain ⟨hk3, hi3⟩ := hp
        rw [← hd] at hk3
        have hr3 := hkeep _ _ _ _ hk3 hr2
        exact ⟨_, _, fin (some (.exit id)) W3 hr3, .inr ⟨rfl, .exit id, hIxp _ _ _ _ _ _ hi3 hr3, hput _ _ _ _ _ hr3⟩⟩
      | goto t =>
        obtain ⟨hk3, hi3⟩ := hp
        rw [← hd] at hk3
        have hr3 := hkeep _ _ _ _ hk3 hr2
        exact ⟨_, _, fin (some (.goto t)) W3 hr3, .inr ⟨rfl, .goto t, hIxp _ _ _ _ _ _ hi3 hr3, hput _ _ _ _ _ hr3⟩⟩
      | panic ch => exact hp.elim
      | outgrown => exact hp.elim
    ·
      have out : ∀ st pe W2, st ≠ LoopState.busy → Rec st pe W2 → (Instr.endLoop (d + 1)).run P W2 = .ok pe (W2.putObj (d + 1) (.loop (rec .exhausted pe))) := fun st pe W2 hst h2 => by
        have := run_endLoop (P := P) (hblk _ _ _ h2) (by rw [hrec]; exact hst)
        rw [show ({ rec st pe with state := .exhausted } : Loop) = rec .exhausted pe by rw [hrec], show (rec st pe).pending = pe by rw [hrec]] at this
        exact this
      rintro e W2 ⟨⟨v, rfl⟩, (⟨xs, hS, hi, hr⟩ | ⟨c, pre, hSp, hi, hr⟩)⟩
      · refine ⟨none, _, out _ _ _ (by simp) hr, ?_⟩
        rw [hd] at *
        exact hdone _ xs _ (Nat.le_refl _) hS (by have := hIp _ _ _ _ (.loop (rec .exhausted none)) hi hr; rwa [hd] at this) (by have := hdef _ _ _ (hput _ _ .exhausted none _ hr); rwa [hd] at this)
      · refine ⟨some c, _, out _ _ _ (by simp) hr, ?_⟩
        exact hstop d c pre _ (by omega) hSp (hIxp _ _ _ _ _ _ hi hr) (hdef _ _ _ (hput _ _ .exhausted (some c) _ hr))
end Go.Proofs.Ytopmjjnkolfciaa.Sq
end
section
namespace Go.Proofs.Ytopmjjnkolfciaa.Pr
open Go.RowKit Go.Proofs.YtopmjjnkolfciaaW.PrintWords Go.Proofs.YtopmjjnkolfciaaW.PrintLast Go.Proofs.YtopmjjnkolfciaaW.PrintMore
attribute [local go_sem] max2_int min2_int max_two min_two max_three min_three max_four min_four
attribute [local go_sem] Go.Proofs.Ytopmjjnkolfciaa.Hl.str_geq Go.Proofs.Ytopmjjnkolfciaa.Hl.str_gtr Go.Proofs.Ytopmjjnkolfciaa.Hl.str_leq
set_option linter.unusedVariables false
set_option linter.unusedSimpArgs false
def r_10_May.f (a0_0:Int) (a0_1:Int) (a0_2:Int) (a0_3:Bool):Option (Bool):=if a0_0≥0 then (if a0_1≥1 then (if a0_2≥1 then (if a0_2≤256 then (if a0_0≤(wrap64 (256 - a0_2)) then (some (decide (a0_1≤(wrap64 (1024 - a0_2))))) else (some false)) else (some false)) else (some false)) else (some false)) else (some false)
set_option maxHeartbeats 8000000 in
set_option maxRecDepth 100000 in
theorem r_10_May.calls (a0_0:Int) (a0_1:Int) (a0_2:Int) (a0_3:Bool) (r:Bool) (w:World) (h:r_10_May.f a0_0 a0_1 a0_2 a0_3=some r) :
  Calls Try.prog 44 #[.agg #[.int .i64 a0_0,.int .i64 a0_1,.int .i64 a0_2,.bool a0_3]] w fun e w'=>e=.returned (.bool r)∧Below w.heap.size w w':=by
 have hu24:=Try.underlying24
 have HB:=am (Below.refl w.heap.size w)
 have H:(if a0_0≥0 then (if a0_1≥1 then (if a0_2≥1 then (if a0_2≤256 then (if a0_0≤(wrap64 (256 - a0_2)) then (some (decide (a0_1≤(wrap64 (1024 - a0_2))))) else (some false)) else (some false)) else (some false)) else (some false)) else (some false))=some r:=h
 clear h
 by_cases c2:a0_0≥0
 ·rw [if_pos c2] at H
  have c2b0:decide (0≤a0_0)=true:=decide_eq_true c2
  clear c2
  by_cases c3:a0_1≥1
  ·rw [if_pos c3] at H
   have c3b0:decide (1≤a0_1)=true:=decide_eq_true c3
   clear c3
   by_cases c4:a0_2≥1
   ·rw [if_pos c4] at H
    have c4b0:decide (1≤a0_2)=true:=decide_eq_true c4
    clear c4
    by_cases c5:a0_2≤256
    ·rw [if_pos c5] at H
     have c5b0:decide (a0_2≤256)=true:=decide_eq_true c5
     clear c5
     by_cases c6:a0_0≤(wrap64 (256 - a0_2))
     ·rw [if_pos c6] at H
      have c6b0:decide (a0_0≤(wrap64 (256 - a0_2)))=true:=decide_eq_true c6
      clear c6;obtain rfl:=Option.some.inj H
      go_enter Try.func44,Try.ntmps44
      go_wp2_with (first|((with_reducible refine gate_dst (N:=1) rfl ?_);refine box_event ?hg (N:=1) ?hd (cs:=#[.int .i64 a0_0,.int .i64 a0_1,.int .i64 a0_2,.bool a0_3]) (t:=24) ?hr ?_;(case hd=>rfl);(case hg=>rfl);(case hr=>first|(go_simp;done)|(go_simp;rfl));intro gb189 hg w7 hbox hb;have n0_:=bst HB hb;have n1_:=am (hbox);have n2_:=am ((gz hg HB));have n3_:=am ((gz hg HB));clear HB;have HB:=n0_;have BK189:=n1_;have GW189:=n2_;have GE189:=n3_;clear n0_ n1_ n2_ n3_;clear hb hbox hg;have hcz8_0:w7.cell? ⟨gb189,0,none⟩=some (.int .i64 a0_0):=kc BK189 0;have hcz8_1:w7.cell? ⟨gb189,1,none⟩=some (.int .i64 a0_1):=kc BK189 1;have hcz8_2:w7.cell? ⟨gb189,2,none⟩=some (.int .i64 a0_2):=kc BK189 2;have hcz8_3:w7.cell? ⟨gb189,3,none⟩=some (.bool a0_3):=kc BK189 3;have hfz8_0:=blk_frozen BK189.out 0;have hfz8_1:=blk_frozen BK189.out 1;have hfz8_2:=blk_frozen BK189.out 2;have hfz8_3:=blk_frozen BK189.out 3))
      go_ret
      exact ⟨by first|rfl|(simp [errW_none,errW_some]<;>rfl)|(simp [*,errW_none,errW_some]<;>rfl),bxs HB GE189⟩
     ·rw [if_neg c6] at H
      have c6b0:decide (a0_0≤(wrap64 (256 - a0_2)))=false:=decide_eq_false c6
      clear c6;obtain rfl:=Option.some.inj H
      go_enter Try.func44,Try.ntmps44
      go_wp2_with (first|((with_reducible refine gate_dst (N:=1) rfl ?_);refine box_event ?hg (N:=1) ?hd (cs:=#[.int .i64 a0_0,.int .i64 a0_1,.int .i64 a0_2,.bool a0_3]) (t:=24) ?hr ?_;(case hd=>rfl);(case hg=>rfl);(case hr=>first|(go_simp;done)|(go_simp;rfl));intro gb189 hg w9 hbox hb;have n0_:=bst HB hb;have n1_:=am (hbox);have n2_:=am ((gz hg HB));have n3_:=am ((gz hg HB));clear HB;have HB:=n0_;have BK189:=n1_;have GW189:=n2_;have GE189:=n3_;clear n0_ n1_ n2_ n3_;clear hb hbox hg;have hcz10_0:w9.cell? ⟨gb189,0,none⟩=some (.int .i64 a0_0):=kc BK189 0;have hcz10_1:w9.cell? ⟨gb189,1,none⟩=some (.int .i64 a0_1):=kc BK189 1;have hcz10_2:w9.cell? ⟨gb189,2,none⟩=some (.int .i64 a0_2):=kc BK189 2;have hcz10_3:w9.cell? ⟨gb189,3,none⟩=some (.bool a0_3):=kc BK189 3;have hfz10_0:=blk_frozen BK189.out 0;have hfz10_1:=blk_frozen BK189.out 1;have hfz10_2:=blk_frozen BK189.out 2;have hfz10_3:=blk_frozen BK189.out 3))
      go_ret
      exact ⟨by first|rfl|(simp [errW_none,errW_some]<;>rfl)|(simp [*,errW_none,errW_some]<;>rfl),bxs HB GE189⟩
    ·rw [if_neg c5] at H
     have c5b0:decide (a0_2≤256)=false:=decide_eq_false c5
     clear c5;obtain rfl:=Option.some.inj H
     go_enter Try.func44,Try.ntmps44
     go_wp2_with (first|((with_reducible refine gate_dst (N:=1) rfl ?_);refine box_event ?hg (N:=1) ?hd (cs:=#[.int .i64 a0_0,.int .i64 a0_1,.int .i64 a0_2,.bool a0_3]) (t:=24) ?hr ?_;(case hd=>rfl);(case hg=>rfl);(case hr=>first|(go_simp;done)|(go_simp;rfl));intro gb189 hg w11 hbox hb;have n0_:=bst HB hb;have n1_:=am (hbox);have n2_:=am ((gz hg HB));have n3_:=am ((gz hg HB));clear HB;have HB:=n0_;have BK189:=n1_;have GW189:=n2_;have GE189:=n3_;clear n0_ n1_ n2_ n3_;clear hb hbox hg;have hcz12_0:w11.cell? ⟨gb189,0,none⟩=some (.int .i64 a0_0):=kc BK189 0;have hcz12_1:w11.cell? ⟨gb189,1,none⟩=some (.int .i64 a0_1):=kc BK189 1;have hcz12_2:w11.cell? ⟨gb189,2,none⟩=some (.int .i64 a0_2):=kc BK189 2;have hcz12_3:w11.cell? ⟨gb189,3,none⟩=some (.bool a0_3):=kc BK189 3;have hfz12_0:=blk_frozen BK189.out 0;have hfz12_1:=blk_frozen BK189.out 1;have hfz12_2:=blk_frozen BK189.out 2;have hfz12_3:=blk_frozen BK189.out 3))
     go_ret
     exact ⟨by first|rfl|(simp [errW_none,errW_some]<;>rfl)|(simp [*,errW_none,errW_some]<;>rfl),bxs HB GE189⟩
   ·rw [if_neg c4] at H
    have c4b0:decide (1≤a0_2)=false:=decide_eq_false c4
    clear c4;obtain rfl:=Option.some.inj H
    go_enter Try.func44,Try.ntmps44
    go_wp2_with (first|((with_reducible refine gate_dst (N:=1) rfl ?_);refine box_event ?hg (N:=1) ?hd (cs:=#[.int .i64 a0_0,.int .i64 a0_1,.int .i64 a0_2,.bool a0_3]) (t:=24) ?hr ?_;(case hd=>rfl);(case hg=>rfl);(case hr=>first|(go_simp;done)|(go_simp;rfl));intro gb189 hg w13 hbox hb;have n0_:=bst HB hb;have n1_:=am (hbox);have n2_:=am ((gz hg HB));have n3_:=am ((gz hg HB));clear HB;have HB:=n0_;have BK189:=n1_;have GW189:=n2_;have GE189:=n3_;clear n0_ n1_ n2_ n3_;clear hb hbox hg;have hcz14_0:w13.cell? ⟨gb189,0,none⟩=some (.int .i64 a0_0):=kc BK189 0;have hcz14_1:w13.cell? ⟨gb189,1,none⟩=some (.int .i64 a0_1):=kc BK189 1;have hcz14_2:w13.cell? ⟨gb189,2,none⟩=some (.int .i64 a0_2):=kc BK189 2;have hcz14_3:w13.cell? ⟨gb189,3,none⟩=some (.bool a0_3):=kc BK189 3;have hfz14_0:=blk_frozen BK189.out 0;have hfz14_1:=blk_frozen BK189.out 1;have hfz14_2:=blk_frozen BK189.out 2;have hfz14_3:=blk_frozen BK189.out 3))
    go_ret
    exact ⟨by first|rfl|(simp [errW_none,errW_some]<;>rfl)|(simp [*,errW_none,errW_some]<;>rfl),bxs HB GE189⟩
  ·rw [if_neg c3] at H
   have c3b0:decide (1≤a0_1)=false:=decide_eq_false c3
   clear c3;obtain rfl:=Option.some.inj H
   go_enter Try.func44,Try.ntmps44
   go_wp2_with (first|((with_reducible refine gate_dst (N:=1) rfl ?_);refine box_event ?hg (N:=1) ?hd (cs:=#[.int .i64 a0_0,.int .i64 a0_1,.int .i64 a0_2,.bool a0_3]) (t:=24) ?hr ?_;(case hd=>rfl);(case hg=>rfl);(case hr=>first|(go_simp;done)|(go_simp;rfl));intro gb189 hg w15 hbox hb;have n0_:=bst HB hb;have n1_:=am (hbox);have n2_:=am ((gz hg HB));have n3_:=am ((gz hg HB));clear HB;have HB:=n0_;have BK189:=n1_;have GW189:=n2_;have GE189:=n3_;clear n0_ n1_ n2_ n3_;clear hb hbox hg;have hcz16_0:w15.cell? ⟨gb189,0,none⟩=some (.int .i64 a0_0):=kc BK189 0;have hcz16_1:w15.cell? ⟨gb189,1,none⟩=some (.int .i64 a0_1):=kc BK189 1;have hcz16_2:w15.cell? ⟨gb189,2,none⟩=some (.int .i64 a0_2):=kc BK189 2;have hcz16_3:w15.cell? ⟨gb189,3,none⟩=some (.bool a0_3):=kc BK189 3;have hfz16_0:=blk_frozen BK189.out 0;have hfz16_1:=blk_frozen BK189.out 1;have hfz16_2:=blk_frozen BK189.out 2;have hfz16_3:=blk_frozen BK189.out 3))
   go_ret
   exact ⟨by first|rfl|(simp [errW_none,errW_some]<;>rfl)|(simp [*,errW_none,errW_some]<;>rfl),bxs HB GE189⟩
 ·rw [if_neg c2] at H
  have c2b0:decide (0≤a0_0)=false:=decide_eq_false c2
  clear c2;obtain rfl:=Option.some.inj H
  go_enter Try.func44,Try.ntmps44
  go_wp2_with (first|((with_reducible refine gate_dst (N:=1) rfl ?_);refine box_event ?hg (N:=1) ?hd (cs:=#[.int .i64 a0_0,.int .i64 a0_1,.int .i64 a0_2,.bool a0_3]) (t:=24) ?hr ?_;(case hd=>rfl);(case hg=>rfl);(case hr=>first|(go_simp;done)|(go_simp;rfl));intro gb189 hg w17 hbox hb;have n0_:=bst HB hb;have n1_:=am (hbox);have n2_:=am ((gz hg HB));have n3_:=am ((gz hg HB));clear HB;have HB:=n0_;have BK189:=n1_;have GW189:=n2_;have GE189:=n3_;clear n0_ n1_ n2_ n3_;clear hb hbox hg;have hcz18_0:w17.cell? ⟨gb189,0,none⟩=some (.int .i64 a0_0):=kc BK189 0;have hcz18_1:w17.cell? ⟨gb189,1,none⟩=some (.int .i64 a0_1):=kc BK189 1;have hcz18_2:w17.cell? ⟨gb189,2,none⟩=some (.int .i64 a0_2):=kc BK189 2;have hcz18_3:w17.cell? ⟨gb189,3,none⟩=some (.bool a0_3):=kc BK189 3;have hfz18_0:=blk_frozen BK189.out 0;have hfz18_1:=blk_frozen BK189.out 1;have hfz18_2:=blk_frozen BK189.out 2;have hfz18_3:=blk_frozen BK189.out 3))
  go_ret
  exact ⟨by first|rfl|(simp [errW_none,errW_some]<;>rfl)|(simp [*,errW_none,errW_some]<;>rfl),bxs HB GE189⟩
def r_10_goes.f (a0_0:Int) (a0_1:Int) (a0_2:Int) (a0_3:Bool) (a1_0:Int) (a1_1:Int) (a1_2:Int) (a1_3:Bool):Option (Bool):=if (wrap64 (a0_0+a0_2))=a1_0 then (if (wrap64 (a0_1+a0_2))=a1_1 then (some (a0_3==a1_3)) else (some false)) else (some false)
set_option maxHeartbeats 8000000 in
set_option maxRecDepth 100000 in
theorem r_10_goes.calls (a0_0:Int) (a0_1:Int) (a0_2:Int) (a0_3:Bool) (a1_0:Int) (a1_1:Int) (a1_2:Int) (a1_3:Bool) (r:Bool) (w:World) (h:r_10_goes.f a0_0 a0_1 a0_2 a0_3 a1_0 a1_1 a1_2 a1_3=some r) :
  Calls Try.prog 47 #[.agg #[.int .i64 a0_0,.int .i64 a0_1,.int .i64 a0_2,.bool a0_3],.agg #[.int .i64 a1_0,.int .i64 a1_1,.int .i64 a1_2,.bool a1_3]] w fun e w'=>e=.returned (.bool r)∧Below w.heap.size w w':=by
 have hu24:=Try.underlying24
 have HB:=am (Below.refl w.heap.size w)
 have H:(if (wrap64 (a0_0+a0_2))=a1_0 then (if (wrap64 (a0_1+a0_2))=a1_1 then (some (a0_3==a1_3)) else (some false)) else (some false))=some r:=h
 clear h
 by_cases c3:(wrap64 (a0_0+a0_2))=a1_0
 ·rw [if_pos c3] at H
  have c3b0:((wrap64 (a0_0+a0_2))==a1_0)=true:=beq_iff_eq.mpr c3
  have c3b1:((wrap64 (a0_0+a0_2)) != a1_0)=false:=bne_eq_false_iff_eq.mpr c3
  clear c3
  by_cases c4:(wrap64 (a0_1+a0_2))=a1_1
  ·rw [if_pos c4] at H
   have c4b0:((wrap64 (a0_1+a0_2))==a1_1)=true:=beq_iff_eq.mpr c4
   have c4b1:((wrap64 (a0_1+a0_2)) != a1_1)=false:=bne_eq_false_iff_eq.mpr c4
   clear c4;obtain rfl:=Option.some.inj H
   go_enter Try.func47,Try.ntmps47
   go_wp2_with (first|((with_reducible refine gate_dst (N:=2) rfl ?_);refine box_event ?hg (N:=2) ?hd (cs:=#[.int .i64 a0_0,.int .i64 a0_1,.int .i64 a0_2,.bool a0_3]) (t:=24) ?hr ?_;(case hd=>rfl);(case hg=>rfl);(case hr=>first|(go_simp;done)|(go_simp;rfl));intro gb190 hg w5 hbox hb;have n0_:=bst HB hb;have n1_:=am (hbox);have n2_:=am ((gz hg HB));have n3_:=am ((gz hg HB));clear HB;have HB:=n0_;have BK190:=n1_;have GW190:=n2_;have GE190:=n3_;clear n0_ n1_ n2_ n3_;clear hb hbox hg)|((with_reducible refine gate_dst (N:=3) rfl ?_);refine box_event ?hg (N:=3) ?hd (cs:=#[.int .i64 a1_0,.int .i64 a1_1,.int .i64 a1_2,.bool a1_3]) (t:=24) ?hr ?_;(case hd=>rfl);(case hg=>rfl);(case hr=>first|(go_simp;done)|(go_simp;rfl));intro gb191 hg w6 hbox hb;have n0_:=am (blk_below (g:=gb190) (o:=.cells #[.int .i64 a0_0,.int .i64 a0_1,.int .i64 a0_2,.bool a0_3] 24 (0,0)) (rK BK190) hb);have n1_:=am (below_step (bxs HB GE190) hb);have n2_:=am (hbox);have n3_:=am ((by rw [hg];exact (below_size (bxs HB GE190)):w.heap.size≤gb191));have n4_:=am ((by rw [hg];exact (below_size (bxs HB GE190)):w.heap.size≤gb191));have n5_:=am ((by rw [hg];exact Nat.ne_of_lt (blk_lt (g:=gb190) (o:=.cells #[.int .i64 a0_0,.int .i64 a0_1,.int .i64 a0_2,.bool a0_3] 24 (0,0)) (rK BK190)):gb190≠gb191));have n6_:=am ((by rw [hg];exact Nat.ne_of_gt (blk_lt (g:=gb190) (o:=.cells #[.int .i64 a0_0,.int .i64 a0_1,.int .i64 a0_2,.bool a0_3] 24 (0,0)) (rK BK190)):gb191≠gb190));clear BK190;clear HB;have BK190:=n0_;have HB:=n1_;have BK191:=n2_;have GW191:=n3_;have GE191:=n4_;have NB190_191:=n5_;have NB191_190:=n6_;clear n0_ n1_ n2_ n3_ n4_ n5_ n6_;clear hb hbox hg;have hnb7:=NB190_191.out;have hnc7:=NB191_190.out;have hcz8_0:w6.cell? ⟨gb190,0,none⟩=some (.int .i64 a0_0):=kc BK190 0;have hcz8_1:w6.cell? ⟨gb190,1,none⟩=some (.int .i64 a0_1):=kc BK190 1;have hcz8_2:w6.cell? ⟨gb190,2,none⟩=some (.int .i64 a0_2):=kc BK190 2;have hcz8_3:w6.cell? ⟨gb190,3,none⟩=some (.bool a0_3):=kc BK190 3;have hfz8_0:=blk_frozen BK190.out 0;have hfz8_1:=blk_frozen BK190.out 1;have hfz8_2:=blk_frozen BK190.out 2;have hfz8_3:=blk_frozen BK190.out 3;have hcz9_0:w6.cell? ⟨gb191,0,none⟩=some (.int .i64 a1_0):=kc BK191 0;have hcz9_1:w6.cell? ⟨gb191,1,none⟩=some (.int .i64 a1_1):=kc BK191 1;have hcz9_2:w6.cell? ⟨gb191,2,none⟩=some (.int .i64 a1_2):=kc BK191 2;have hcz9_3:w6.cell? ⟨gb191,3,none⟩=some (.bool a1_3):=kc BK191 3;have hfz9_0:=blk_frozen BK191.out 0;have hfz9_1:=blk_frozen BK191.out 1;have hfz9_2:=blk_frozen BK191.out 2;have hfz9_3:=blk_frozen BK191.out 3))
   go_ret
   exact ⟨by first|rfl|(simp [errW_none,errW_some]<;>rfl)|(simp [*,errW_none,errW_some]<;>rfl),by repeat (first|(with_reducible first|exact HB.out|apply below_alloc|apply pw_below_drewN|apply below_drew1|refine below_set ?_ GE190.out|refine below_set ?_ GE191.out)|exact HB.out)⟩
  ·rw [if_neg c4] at H
   have c4b0:((wrap64 (a0_1+a0_2))==a1_1)=false:=beq_eq_false_iff_ne.mpr c4
   have c4b1:((wrap64 (a0_1+a0_2)) != a1_1)=true:=bne_iff_ne.mpr c4
   obtain rfl:=Option.some.inj H
   go_enter Try.func47,Try.ntmps47
   go_wp2_with (first|((with_reducible refine gate_dst (N:=2) rfl ?_);refine box_event ?hg (N:=2) ?hd (cs:=#[.int .i64 a0_0,.int .i64 a0_1,.int .i64 a0_2,.bool a0_3]) (t:=24) ?hr ?_;(case hd=>rfl);(case hg=>rfl);(case hr=>first|(go_simp;done)|(go_simp;rfl));intro gb190 hg w10 hbox hb;have n0_:=bst HB hb;have n1_:=am (hbox);have n2_:=am ((gz hg HB));have n3_:=am ((gz hg HB));clear HB;have HB:=n0_;have BK190:=n1_;have GW190:=n2_;have GE190:=n3_;clear n0_ n1_ n2_ n3_;clear hb hbox hg)|((with_reducible refine gate_dst (N:=3) rfl ?_);refine box_event ?hg (N:=3) ?hd (cs:=#[.int .i64 a1_0,.int .i64 a1_1,.int .i64 a1_2,.bool a1_3]) (t:=24) ?hr ?_;(case hd=>rfl);(case hg=>rfl);(case hr=>first|(go_simp;done)|(go_simp;rfl));intro gb191 hg w11 hbox hb;have n0_:=am (blk_below (g:=gb190) (o:=.cells #[.int .i64 a0_0,.int .i64 a0_1,.int .i64 a0_2,.bool a0_3] 24 (0,0)) (rK BK190) hb);have n1_:=am (below_step (bxs HB GE190) hb);have n2_:=am (hbox);have n3_:=am ((by rw [hg];exact (below_size (bxs HB GE190)):w.heap.size≤gb191));have n4_:=am ((by rw [hg];exact (below_size (bxs HB GE190)):w.heap.size≤gb191));have n5_:=am ((by rw [hg];exact Nat.ne_of_lt (blk_lt (g:=gb190) (o:=.cells #[.int .i64 a0_0,.int .i64 a0_1,.int .i64 a0_2,.bool a0_3] 24 (0,0)) (rK BK190)):gb190≠gb191));have n6_:=am ((by rw [hg];exact Nat.ne_of_gt (blk_lt (g:=gb190) (o:=.cells #[.int .i64 a0_0,.int .i64 a0_1,.int .i64 a0_2,.bool a0_3] 24 (0,0)) (rK BK190)):gb191≠gb190));clear BK190;clear HB;have BK190:=n0_;have HB:=n1_;have BK191:=n2_;have GW191:=n3_;have GE191:=n4_;have NB190_191:=n5_;have NB191_190:=n6_;clear n0_ n1_ n2_ n3_ n4_ n5_ n6_;clear hb hbox hg;have hnb12:=NB190_191.out;have hnc12:=NB191_190.out;have hcz13_0:w11.cell? ⟨gb190,0,none⟩=some (.int .i64 a0_0):=kc BK190 0;have hcz13_1:w11.cell? ⟨gb190,1,none⟩=some (.int .i64 a0_1):=kc BK190 1;have hcz13_2:w11.cell? ⟨gb190,2,none⟩=some (.int .i64 a0_2):=kc BK190 2;have hcz13_3:w11.cell? ⟨gb190,3,none⟩=some (.bool a0_3):=kc BK190 3;have hfz13_0:=blk_frozen BK190.out 0;have hfz13_1:=blk_frozen BK190.out 1;have hfz13_2:=blk_frozen BK190.out 2;have hfz13_3:=blk_frozen BK190.out 3;have hcz14_0:w11.cell? ⟨gb191,0,none⟩=some (.int .i64 a1_0):=kc BK191 0;have hcz14_1:w11.cell? ⟨gb191,1,none⟩=some (.int .i64 a1_1):=kc BK191 1;have hcz14_2:w11.cell? ⟨gb191,2,none⟩=some (.int .i64 a1_2):=kc BK191 2;have hcz14_3:w11.cell? ⟨gb191,3,none⟩=some (.bool a1_3):=kc BK191 3;have hfz14_0:=blk_frozen BK191.out 0;have hfz14_1:=blk_frozen BK191.out 1;have hfz14_2:=blk_frozen BK191.out 2;have hfz14_3:=blk_frozen BK191.out 3))
   go_ret
   exact ⟨by first|rfl|(simp [errW_none,errW_some]<;>rfl)|(simp [*,errW_none,errW_some]<;>rfl),by repeat (first|(with_reducible first|exact HB.out|apply below_alloc|apply pw_below_drewN|apply below_drew1|refine below_set ?_ GE190.out|refine below_set ?_ GE191.out)|exact HB.out)⟩
 ·rw [if_neg c3] at H
  have c3b0:((wrap64 (a0_0+a0_2))==a1_0)=false:=beq_eq_false_iff_ne.mpr c3
  have c3b1:((wrap64 (a0_0+a0_2)) != a1_0)=true:=bne_iff_ne.mpr c3
  obtain rfl:=Option.some.inj H
  go_enter Try.func47,Try.ntmps47
  go_wp2_with (first|((with_reducible refine gate_dst (N:=2) rfl ?_);refine box_event ?hg (N:=2) ?hd (cs:=#[.int .i64 a0_0,.int .i64 a0_1,.int .i64 a0_2,.bool a0_3]) (t:=24) ?hr ?_;(case hd=>rfl);(case hg=>rfl);(case hr=>first|(go_simp;done)|(go_simp;rfl));intro gb190 hg w15 hbox hb;have n0_:=bst HB hb;have n1_:=am (hbox);have n2_:=am ((gz hg HB));have n3_:=am ((gz hg HB));clear HB;have HB:=n0_;have BK190:=n1_;have GW190:=n2_;have GE190:=n3_;clear n0_ n1_ n2_ n3_;clear hb hbox hg)|((with_reducible refine gate_dst (N:=3) rfl ?_);refine box_event ?hg (N:=3) ?hd (cs:=#[.int .i64 a1_0,.int .i64 a1_1,.int .i64 a1_2,.bool a1_3]) (t:=24) ?hr ?_;(case hd=>rfl);(case hg=>rfl);(case hr=>first|(go_simp;done)|(go_simp;rfl));intro gb191 hg w16 hbox hb;have n0_:=am (blk_below (g:=gb190) (o:=.cells #[.int .i64 a0_0,.int .i64 a0_1,.int .i64 a0_2,.bool a0_3] 24 (0,0)) (rK BK190) hb);have n1_:=am (below_step (bxs HB GE190) hb);have n2_:=am (hbox);have n3_:=am ((by rw [hg];exact (below_size (bxs HB GE190)):w.heap.size≤gb191));have n4_:=am ((by rw [hg];exact (below_size (bxs HB GE190)):w.heap.size≤gb191));have n5_:=am ((by rw [hg];exact Nat.ne_of_lt (blk_lt (g:=gb190) (o:=.cells #[.int .i64 a0_0,.int .i64 a0_1,.int .i64 a0_2,.bool a0_3] 24 (0,0)) (rK BK190)):gb190≠gb191));have n6_:=am ((by rw [hg];exact Nat.ne_of_gt (blk_lt (g:=gb190) (o:=.cells #[.int .i64 a0_0,.int .i64 a0_1,.int .i64 a0_2,.bool a0_3] 24 (0,0)) (rK BK190)):gb191≠gb190));clear BK190;clear HB;have BK190:=n0_;have HB:=n1_;have BK191:=n2_;have GW191:=n3_;have GE191:=n4_;have NB190_191:=n5_;have NB191_190:=n6_;clear n0_ n1_ n2_ n3_ n4_ n5_ n6_;clear hb hbox hg;have hnb17:=NB190_191.out;have hnc17:=NB191_190.out;have hcz18_0:w16.cell? ⟨gb190,0,none⟩=some (.int .i64 a0_0):=kc BK190 0;have hcz18_1:w16.cell? ⟨gb190,1,none⟩=some (.int .i64 a0_1):=kc BK190 1;have hcz18_2:w16.cell? ⟨gb190,2,none⟩=some (.int .i64 a0_2):=kc BK190 2;have hcz18_3:w16.cell? ⟨gb190,3,none⟩=some (.bool a0_3):=kc BK190 3;have hfz18_0:=blk_frozen BK190.out 0;have hfz18_1:=blk_frozen BK190.out 1;have hfz18_2:=blk_frozen BK190.out 2;have hfz18_3:=blk_frozen BK190.out 3;have hcz19_0:w16.cell? ⟨gb191,0,none⟩=some (.int .i64 a1_0):=kc BK191 0;have hcz19_1:w16.cell? ⟨gb191,1,none⟩=some (.int .i64 a1_1):=kc BK191 1;have hcz19_2:w16.cell? ⟨gb191,2,none⟩=some (.int .i64 a1_2):=kc BK191 2;have hcz19_3:w16.cell? ⟨gb191,3,none⟩=some (.bool a1_3):=kc BK191 3;have hfz19_0:=blk_frozen BK191.out 0;have hfz19_1:=blk_frozen BK191.out 1;have hfz19_2:=blk_frozen BK191.out 2;have hfz19_3:=blk_frozen BK191.out 3))
  go_ret
  exact ⟨by first|rfl|(simp [errW_none,errW_some]<;>rfl)|(simp [*,errW_none,errW_some]<;>rfl),by repeat (first|(with_reducible first|exact HB.out|apply below_alloc|apply pw_below_drewN|apply below_drew1|refine below_set ?_ GE190.out|refine below_set ?_ GE191.out)|exact HB.out)⟩
mutual
def r_10_Check.l0:Nat→List (S24)→Int→Option (Int)
 | 0,_,_=>none
 | k+1,x0,x3=>if x3 < (x0.length:Int) then (if 0≤x3 then ((r_10_May.f ((rd_T24 x0 x3).f0) ((rd_T24 x0 x3).f1) ((rd_T24 x0 x3).f2) ((rd_T24 x0 x3).f3)).bind fun t193=>(if t193=true then (r_10_Check.l1 k x0 x3 0) else (some 1))) else (none)) else (some 0)
def r_10_Check.l1:Nat→List (S24)→Int→Int→Option (Int)
 | 0,_,_,_=>none
 | k+1,x0,x3,x4=>if x4 < x3 then (if 0≤x4 then (if x4 < (x0.length:Int) then (if 0≤x3 then (if x3 < (x0.length:Int) then (if ((rd_T24 x0 x4).f1) < (wrap64 (((rd_T24 x0 x3).f1)+((rd_T24 x0 x3).f2))) then (if ((rd_T24 x0 x3).f1) < (wrap64 (((rd_T24 x0 x4).f1)+((rd_T24 x0 x4).f2))) then (some 1) else (r_10_Check.l1 k x0 x3 (wrap64 (x4+1)))) else (r_10_Check.l1 k x0 x3 (wrap64 (x4+1)))) else (none)) else (none)) else (none)) else (none)) else (if x3 > 0 then (if 0≤x3 then (if x3 < (x0.length:Int) then (if 0≤(wrap64 (x3 - 1)) then (if (wrap64 (x3 - 1)) < (x0.length:Int) then (if ((rd_T24 x0 x3).f0) < (wrap64 (((rd_T24 x0 (wrap64 (x3 - 1))).f0)+((rd_T24 x0 (wrap64 (x3 - 1))).f2))) then (some 1) else ((r_10_goes.f ((rd_T24 x0 (wrap64 (x3 - 1))).f0) ((rd_T24 x0 (wrap64 (x3 - 1))).f1) ((rd_T24 x0 (wrap64 (x3 - 1))).f2) ((rd_T24 x0 (wrap64 (x3 - 1))).f3) ((rd_T24 x0 x3).f0) ((rd_T24 x0 x3).f1) ((rd_T24 x0 x3).f2) ((rd_T24 x0 x3).f3)).bind fun t205=>(if t205=true then (some 1) else (r_10_Check.l0 k x0 (wrap64 (x3+1)))))) else (none)) else (none)) else (none)) else (none)) else (r_10_Check.l0 k x0 (wrap64 (x3+1))))
end
def r_10_Check.f (k:Nat) (l0:List (S24)):Option (Int):=if (l0.length:Int) > 60 then (some 1) else (r_10_Check.l0 k l0 0)
def r_10_Check.T11:Bool×List (List Nat×List Nat):=(true,[([],[]),([],[]),([0,1],[0,1]),([2],[2]),([3],[3]),([],[]),([],[]),([5,6],[5,6]),([7],[7]),([8],[8]),([],[]),([],[]),([10,11],[10,11]),([12],[12]),([13],[13]),([9,14],[9,14]),([4,15],[4,15]),([16],[16]),([17],[17]),([17],[17]),([18,19,17],[17,18,19]),([20,17],[17,20]),([21,17],[17,21]),([17],[17]),([17],[17]),([23,24,17],[17,23,24]),([25,17],[17,25]),([26,17],[17,26]),([17],[17]),([17],[17]),([28,29,17],[17,28,29]),([30,17],[17,30]),([31,17],[17,31]),([27,32,17],[17,27,32]),([22,33,17],[17,22,33]),([17,34],[17,34])])
def r_10_Check.B11:List Nat:=[0,0,3,7,15,0,0,96,224,480,0,0,3072,7168,15360,32736,65535,131071,262143,262143,1048575,2097151,4194303,262143,262143,25427967,58982399,126091263,262143,262143,805568511,1879310335,4026793983,8581808127,17179869183,34359738367]
theorem r_10_Check.tab11:rtab .any (opsOf Try.f18 11)=r_10_Check.T11:=by kernel_rfl
theorem r_10_Check.bits11:waitsOk r_10_Check.T11.2 r_10_Check.B11=true:=by kernel_rfl
def r_10_Check.T13:Bool×List (List Nat×List Nat):=(true,[([],[]),([0],[0]),([1],[1]),([2],[2]),([2],[2]),([3,4,2],[2,3,4]),([5,2],[2,5]),([6,2],[2,6]),([2],[2]),([2],[2]),([9,2],[2,9]),([8,10,2],[2,8,10]),([11,2],[2,11]),([12,2],[2,12]),([2],[2]),([2],[2]),([15,2],[2,15]),([14,16,2],[2,14,16]),([17,2],[2,17]),([18,2],[2,18]),([13,19,2],[2,13,19]),([7,20,2],[2,7,20]),([21,2,2],[2,21]),([22],[22]),([22],[22]),([24,22],[22,24]),([23,25,22],[22,23,25]),([26,22],[22,26]),([22],[22]),([22],[22]),([28,29,22],[22,28,29]),([30,22],[22,30]),([27,31,22,22],[22,27,31]),([22,32,2],[2,22,32]),([2,33],[2,33])])
def r_10_Check.B13:List Nat:=[0,1,3,7,7,31,63,127,7,7,519,1799,3847,7943,7,7,32775,114695,245767,507911,1048327,2097151,4194303,8388607,8388607,25165823,67108863,134217727,8388607,8388607,813694975,1887436799,4294967295,8589934591,17179869183]
theorem r_10_Check.tab13:rtab .any (opsOf Try.f18 13)=r_10_Check.T13:=by kernel_rfl
theorem r_10_Check.bits13:waitsOk r_10_Check.T13.2 r_10_Check.B13=true:=by kernel_rfl
set_option maxHeartbeats 8000000 in
set_option maxRecDepth 100000 in
theorem r_10_Check.calls (k:Nat) (A0:Option Addr) (c0:Nat) (l0:List (S24)) (r:Int) (w:World) (hr0:Kd.C k24 w A0 l0.length l0) (hc0:l0.length≤c0) (h:r_10_Check.f k l0=some r) :
  Calls Try.prog 18 #[.slice A0 l0.length c0] w fun e w'=>e=.returned (.int .i64 r)∧Below w.heap.size w w':=by
 have hu24:=Try.underlying24
 have HR0:=am hr0
 have HC0:=am hc0
 clear hr0 hc0
 have HB:=am (Below.refl w.heap.size w)
 have H:(if (l0.length:Int) > 60 then (some 1) else (r_10_Check.l0 k l0 0))=some r:=h
 clear h
 by_cases c2:(l0.length:Int) > 60
 ·rw [if_pos c2] at H
  have c2b0:decide (60 < (l0.length:Int))=true:=decide_eq_true c2
  have c2b1:decide (60 < l0.length)=true:=decide_eq_true (by omega)
  clear c2;obtain rfl:=Option.some.inj H
  go_enter Try.func18,Try.ntmps18
  go_wp2;go_ret
  exact ⟨by first|rfl|(simp [errW_none,errW_some]<;>rfl)|(simp [*,errW_none,errW_some]<;>rfl),bb HB⟩
 ·rw [if_neg c2] at H
  have c2b0:decide (60 < (l0.length:Int))=false:=decide_eq_false c2
  have c2b1:decide (60 < l0.length)=false:=decide_eq_false (by omega)
  clear c2
  have H':=am H
  clear H
  go_enter Try.func18,Try.ntmps18
  go_wp2
  go_loopg [3] k (fun kq v3 w'=>∃ (x3_1:Int),v3=.int .i64 x3_1∧Aside0 (r_10_Check.l0 kq l0 x3_1=some r)∧Aside0 (kq≤k)∧Aside0 (Below w.heap.size w w'))
  case atStart=>exact ⟨(0),(by first|rfl|(simp;done)|(simp [*];done)),H',⟨Nat.le_refl _⟩,⟨bb HB⟩⟩
  case round =>
   clear H'
   try clear c1
   try clear c2
   try clear c2b0
   try clear c2b1
   try clear p2
   obtain ⟨x3_1,rfl,HA,HK1,HB⟩:=hrel
   cases gk with
   | zero=>exact absurd HA.out (by intro h_;cases h_)
   | succ k1 =>
    have H:=HA.out
    clear HA
    simp only [r_10_Check.l0] at H
    by_cases c3:x3_1 < (l0.length:Int)
    ·rw [if_pos c3] at H
     have c3b0:decide (x3_1 < (l0.length:Int))=true:=decide_eq_true c3
     clear c3
     by_cases c4:0≤x3_1
     ·rw [if_pos c4] at H
      have c4b0:decide (0≤x3_1)=true:=decide_eq_true c4
      clear c4
      replace H:=Option.bind_eq_some_iff.mp H
      obtain ⟨t193,A50,H⟩:=H
      replace H:(if t193=true then (r_10_Check.l1 k1 l0 x3_1 0) else (some 1))=some r:=H
      have A5:=am A50
      clear A50
      by_cases c6:t193=true
      ·subst c6
       have H1:(r_10_Check.l1 k1 l0 x3_1 0)=some r:=by rw [if_pos rfl] at H;exact H
       clear H;have H:=H1;clear H1
       have H':=am H
       clear H
       have p192:0≤(x3_1:Int):=od
       have q192:x3_1 < (l0.length:Int):=od
       obtain ⟨ad192,e192,hx192_0,hx192_1,hx192_2,hx192_3⟩:=at_T24 HR0.out x3_1 p192 q192
       cases e192
       replace hx192_0:=hB HB hx192_0
       replace hx192_1:=hB HB hx192_1
       replace hx192_2:=hB HB hx192_2
       replace hx192_3:=hB HB hx192_3
       replace p192:=eq_true p192;replace q192:=eq_true q192
       go_wp2_with (first|((with_reducible refine gate_callee (f:=44) rfl ?_);refine goesL_ (some 18) rfl rfl Try.func44 (by kernel_rfl) rfl #[.agg #[.int .i64 ((rd_T24 l0 x3_1).f0),.int .i64 ((rd_T24 l0 x3_1).f1),.int .i64 ((rd_T24 l0 x3_1).f2),.bool ((rd_T24 l0 x3_1).f3)]] rfl (by (try simp only [List.map_toArray,List.map_cons,List.map_nil]);first|done|rfl|(simp only [List.length_drop,List.length_take];rfl)) ?_;(with_reducible refine (r_10_May.calls ((rd_T24 l0 x3_1).f0) ((rd_T24 l0 x3_1).f1) ((rd_T24 l0 x3_1).f2) ((rd_T24 l0 x3_1).f3) true _ A5.out).mono ?_);rintro e w7 ⟨rfl,hb⟩;refine ⟨_,rfl,?_⟩;have n0_:=bst HB hb;clear HB;have HB:=n0_;clear n0_;(try clear hb);(try clear hb2);(try clear hk);(try clear hi)))
       go_loopg [4] k1 (fun kq v4 w'=>∃ (x4_2:Int),v4=.int .i64 x4_2∧Aside0 (r_10_Check.l1 kq l0 x3_1 x4_2=some r)∧Aside0 (kq≤k1)∧Aside0 (Below w.heap.size w w'))
       case atStart=>exact ⟨(0),(by first|rfl|(simp;done)|(simp [*];done)),H',⟨Nat.le_refl _⟩,⟨bb HB⟩⟩
       case round =>
        clear H'
        try clear c1
        try clear p1
        try clear q1
        try clear hx1
        try clear c2
        try clear c2b0
        try clear c2b1
        try clear p2
        try clear c3
        try clear c3b0
        try clear c4
        try clear c4b0
        try clear c6
        try clear hx192_0
        try clear hx192_1
        try clear hx192_2
        try clear hx192_3
        try clear p192
        try clear p2
        try clear q192
        obtain ⟨x4_2,rfl,HA,HK2,HB⟩:=hrel
        cases gk with
        | zero=>exact absurd HA.out (by intro h_;cases h_)
        | succ k2 =>
         have H:=HA.out
         clear HA
         simp only [r_10_Check.l1] at H
         by_cases c8:x4_2 < x3_1
         ·rw [if_pos c8] at H
          have c8b0:decide (x4_2 < x3_1)=true:=decide_eq_true c8
          clear c8
          by_cases c9:0≤x4_2
          ·rw [if_pos c9] at H
           have c9b0:decide (0≤x4_2)=true:=decide_eq_true c9
           clear c9
           by_cases c10:x4_2 < (l0.length:Int)
           ·rw [if_pos c10] at H
            have c10b0:decide (x4_2 < (l0.length:Int))=true:=decide_eq_true c10
            clear c10
            by_cases c11:0≤x3_1
            ·rw [if_pos c11] at H
             have c11b0:decide (0≤x3_1)=true:=decide_eq_true c11
             clear c11
             by_cases c12:x3_1 < (l0.length:Int)
             ·rw [if_pos c12] at H
              have c12b0:decide (x3_1 < (l0.length:Int))=true:=decide_eq_true c12
              clear c12
              by_cases c13:((rd_T24 l0 x4_2).f1) < (wrap64 (((rd_T24 l0 x3_1).f1)+((rd_T24 l0 x3_1).f2)))
              ·rw [if_pos c13] at H
               have c13b0:decide (((rd_T24 l0 x4_2).f1) < (wrap64 (((rd_T24 l0 x3_1).f1)+((rd_T24 l0 x3_1).f2))))=true:=decide_eq_true c13
               clear c13
               by_cases c14:((rd_T24 l0 x3_1).f1) < (wrap64 (((rd_T24 l0 x4_2).f1)+((rd_T24 l0 x4_2).f2)))
               ·rw [if_pos c14] at H
                have c14b0:decide (((rd_T24 l0 x3_1).f1) < (wrap64 (((rd_T24 l0 x4_2).f1)+((rd_T24 l0 x4_2).f2))))=true:=decide_eq_true c14
                clear c14;obtain rfl:=Option.some.inj H
                try go_wp2
                have n0_:=am (below_drew1 HB.out)
                clear HB;have HB:=n0_;clear n0_
                have p194:0≤(x4_2:Int):=od
                have q194:x4_2 < (l0.length:Int):=od
                obtain ⟨ad194,e194,hx194_0,hx194_1,hx194_2,hx194_3⟩:=at_T24 HR0.out x4_2 p194 q194
                have hw194_3:=hx194_3;have hw194_2:=hx194_2;have hw194_1:=hx194_1;have hw194_0:=hx194_0
                obtain rfl:ad192=ad194:=(by injection e194)
                replace hx194_0:=hB HB hx194_0
                replace hx194_1:=hB HB hx194_1
                replace hx194_2:=hB HB hx194_2
                replace hx194_3:=hB HB hx194_3
                replace p194:=eq_true p194;replace q194:=eq_true q194
                have p195:0≤(x3_1:Int):=od
                have q195:x3_1 < (l0.length:Int):=od
                obtain ⟨ad195,e195,hx195_0,hx195_1,hx195_2,hx195_3⟩:=at_T24 HR0.out x3_1 p195 q195
                have hw195_3:=hx195_3;have hw195_2:=hx195_2;have hw195_1:=hx195_1;have hw195_0:=hx195_0
                obtain rfl:ad192=ad195:=(by injection e195)
                replace hx195_0:=hB HB hx195_0
                replace hx195_1:=hB HB hx195_1
                replace hx195_2:=hB HB hx195_2
                replace hx195_3:=hB HB hx195_3
                replace p195:=eq_true p195;replace q195:=eq_true q195
                have p196:0≤(x3_1:Int):=od
                have q196:x3_1 < (l0.length:Int):=od
                obtain ⟨ad196,e196,hx196_0,hx196_1,hx196_2,hx196_3⟩:=at_T24 HR0.out x3_1 p196 q196
                have hw196_3:=hx196_3;have hw196_2:=hx196_2;have hw196_1:=hx196_1;have hw196_0:=hx196_0
                obtain rfl:ad192=ad196:=(by injection e196)
                replace hx196_0:=hB HB hx196_0
                replace hx196_1:=hB HB hx196_1
                replace hx196_2:=hB HB hx196_2
                replace hx196_3:=hB HB hx196_3
                replace p196:=eq_true p196;replace q196:=eq_true q196
                have p197:0≤(x3_1:Int):=od
                have q197:x3_1 < (l0.length:Int):=od
                obtain ⟨ad197,e197,hx197_0,hx197_1,hx197_2,hx197_3⟩:=at_T24 HR0.out x3_1 p197 q197
                have hw197_3:=hx197_3;have hw197_2:=hx197_2;have hw197_1:=hx197_1;have hw197_0:=hx197_0
                obtain rfl:ad192=ad197:=(by injection e197)
                replace hx197_0:=hB HB hx197_0
                replace hx197_1:=hB HB hx197_1
                replace hx197_2:=hB HB hx197_2
                replace hx197_3:=hB HB hx197_3
                replace p197:=eq_true p197;replace q197:=eq_true q197
                have p198:0≤(x4_2:Int):=od
                have q198:x4_2 < (l0.length:Int):=od
                obtain ⟨ad198,e198,hx198_0,hx198_1,hx198_2,hx198_3⟩:=at_T24 HR0.out x4_2 p198 q198
                have hw198_3:=hx198_3;have hw198_2:=hx198_2;have hw198_1:=hx198_1;have hw198_0:=hx198_0
                obtain rfl:ad192=ad198:=(by injection e198)
                replace hx198_0:=hB HB hx198_0
                replace hx198_1:=hB HB hx198_1
                replace hx198_2:=hB HB hx198_2
                replace hx198_3:=hB HB hx198_3
                replace p198:=eq_true p198;replace q198:=eq_true q198
                have p199:0≤(x4_2:Int):=od
                have q199:x4_2 < (l0.length:Int):=od
                obtain ⟨ad199,e199,hx199_0,hx199_1,hx199_2,hx199_3⟩:=at_T24 HR0.out x4_2 p199 q199
                have hw199_3:=hx199_3;have hw199_2:=hx199_2;have hw199_1:=hx199_1;have hw199_0:=hx199_0
                obtain rfl:ad192=ad199:=(by injection e199)
                replace hx199_0:=hB HB hx199_0
                replace hx199_1:=hB HB hx199_1
                replace hx199_2:=hB HB hx199_2
                replace hx199_3:=hB HB hx199_3
                replace p199:=eq_true p199;replace q199:=eq_true q199
                refine start_ (n:=36) (S:=fun w'=>w'.cell? (ad192.add ((x4_2).toNat*4))=some (.int .i64 ((rd_T24 l0 x4_2).f0))∧w'.cell? ⟨(ad192.add ((x4_2).toNat*4)).block,(ad192.add ((x4_2).toNat*4)).off+1,none⟩=some (.int .i64 ((rd_T24 l0 x4_2).f1))∧w'.cell? ⟨(ad192.add ((x4_2).toNat*4)).block,(ad192.add ((x4_2).toNat*4)).off+2,none⟩=some (.int .i64 ((rd_T24 l0 x4_2).f2))∧w'.cell? ⟨(ad192.add ((x4_2).toNat*4)).block,(ad192.add ((x4_2).toNat*4)).off+3,none⟩=some (.bool ((rd_T24 l0 x4_2).f3))∧w'.cell? (ad192.add ((x3_1).toNat*4))=some (.int .i64 ((rd_T24 l0 x3_1).f0))∧w'.cell? ⟨(ad192.add ((x3_1).toNat*4)).block,(ad192.add ((x3_1).toNat*4)).off+1,none⟩=some (.int .i64 ((rd_T24 l0 x3_1).f1))∧w'.cell? ⟨(ad192.add ((x3_1).toNat*4)).block,(ad192.add ((x3_1).toNat*4)).off+2,none⟩=some (.int .i64 ((rd_T24 l0 x3_1).f2))∧w'.cell? ⟨(ad192.add ((x3_1).toNat*4)).block,(ad192.add ((x3_1).toNat*4)).off+3,none⟩=some (.bool ((rd_T24 l0 x3_1).f3))∧w'.cell? (ad192.add ((x3_1).toNat*4))=some (.int .i64 ((rd_T24 l0 x3_1).f0))∧w'.cell? ⟨(ad192.add ((x3_1).toNat*4)).block,(ad192.add ((x3_1).toNat*4)).off+1,none⟩=some (.int .i64 ((rd_T24 l0 x3_1).f1))∧w'.cell? ⟨(ad192.add ((x3_1).toNat*4)).block,(ad192.add ((x3_1).toNat*4)).off+2,none⟩=some (.int .i64 ((rd_T24 l0 x3_1).f2))∧w'.cell? ⟨(ad192.add ((x3_1).toNat*4)).block,(ad192.add ((x3_1).toNat*4)).off+3,none⟩=some (.bool ((rd_T24 l0 x3_1).f3))∧w'.cell? (ad192.add ((x3_1).toNat*4))=some (.int .i64 ((rd_T24 l0 x3_1).f0))∧w'.cell? ⟨(ad192.add ((x3_1).toNat*4)).block,(ad192.add ((x3_1).toNat*4)).off+1,none⟩=some (.int .i64 ((rd_T24 l0 x3_1).f1))∧w'.cell? ⟨(ad192.add ((x3_1).toNat*4)).block,(ad192.add ((x3_1).toNat*4)).off+2,none⟩=some (.int .i64 ((rd_T24 l0 x3_1).f2))∧w'.cell? ⟨(ad192.add ((x3_1).toNat*4)).block,(ad192.add ((x3_1).toNat*4)).off+3,none⟩=some (.bool ((rd_T24 l0 x3_1).f3))∧w'.cell? (ad192.add ((x4_2).toNat*4))=some (.int .i64 ((rd_T24 l0 x4_2).f0))∧w'.cell? ⟨(ad192.add ((x4_2).toNat*4)).block,(ad192.add ((x4_2).toNat*4)).off+1,none⟩=some (.int .i64 ((rd_T24 l0 x4_2).f1))∧w'.cell? ⟨(ad192.add ((x4_2).toNat*4)).block,(ad192.add ((x4_2).toNat*4)).off+2,none⟩=some (.int .i64 ((rd_T24 l0 x4_2).f2))∧w'.cell? ⟨(ad192.add ((x4_2).toNat*4)).block,(ad192.add ((x4_2).toNat*4)).off+3,none⟩=some (.bool ((rd_T24 l0 x4_2).f3))∧w'.cell? (ad192.add ((x4_2).toNat*4))=some (.int .i64 ((rd_T24 l0 x4_2).f0))∧w'.cell? ⟨(ad192.add ((x4_2).toNat*4)).block,(ad192.add ((x4_2).toNat*4)).off+1,none⟩=some (.int .i64 ((rd_T24 l0 x4_2).f1))∧w'.cell? ⟨(ad192.add ((x4_2).toNat*4)).block,(ad192.add ((x4_2).toNat*4)).off+2,none⟩=some (.int .i64 ((rd_T24 l0 x4_2).f2))∧w'.cell? ⟨(ad192.add ((x4_2).toNat*4)).block,(ad192.add ((x4_2).toNat*4)).off+3,none⟩=some (.bool ((rd_T24 l0 x4_2).f3))) (ds:=[]) _ (by kernel_rfl) rfl rfl ⟨(hB HB hw194_0),(hB HB hw194_1),(hB HB hw194_2),(hB HB hw194_3),(hB HB hw195_0),(hB HB hw195_1),(hB HB hw195_2),(hB HB hw195_3),(hB HB hw196_0),(hB HB hw196_1),(hB HB hw196_2),(hB HB hw196_3),(hB HB hw197_0),(hB HB hw197_1),(hB HB hw197_2),(hB HB hw197_3),(hB HB hw198_0),(hB HB hw198_1),(hB HB hw198_2),(hB HB hw198_3),(hB HB hw199_0),(hB HB hw199_1),(hB HB hw199_2),(hB HB hw199_3)⟩ (fun hHeld=>?_);refine with_tabW r_10_Check.tab11 r_10_Check.bits11 (fun HT_ HW_=>?_)
                generalize wr.drew=w15 at HB hx194_0 hx194_1 hx194_2 hx194_3 hx195_0 hx195_1 hx195_2 hx195_3 hx196_0 hx196_1 hx196_2 hx196_3 hx197_0 hx197_1 hx197_2 hx197_3 hx198_0 hx198_1 hx198_2 hx198_3 hx199_0 hx199_1 hx199_2 hx199_3 hHeld ⊢
                refine pS 0 25 HT_ ?_;refine pS 1 26 HT_ ?_;refine pS 2 27 HT_ ?_;refine pS 3 28 HT_ ?_;refine pS 5 30 HT_ ?_;refine pS 6 31 HT_ ?_;refine pS 7 32 HT_ ?_;refine pS 8 33 HT_ ?_;refine pS 10 35 HT_ ?_;refine pS 11 36 HT_ ?_;refine pS 12 37 HT_ ?_;refine pS 13 38 HT_ ?_;refine tS 4 29 HT_ HW_ hHeld ?_ (hy:=by rintro w' ⟨s0,s1,s2,s3,s4,s5,s6,s7,s8,s9,s10,s11,s12,s13,s14,s15,s16,s17,s18,s19,s20,s21,s22,s23⟩;go_simp;with_reducible rfl);refine tS 9 34 HT_ HW_ hHeld ?_ (hy:=by rintro w' ⟨s0,s1,s2,s3,s4,s5,s6,s7,s8,s9,s10,s11,s12,s13,s14,s15,s16,s17,s18,s19,s20,s21,s22,s23⟩;go_simp;with_reducible rfl);refine tS 14 39 HT_ HW_ hHeld ?_ (hy:=by rintro w' ⟨s0,s1,s2,s3,s4,s5,s6,s7,s8,s9,s10,s11,s12,s13,s14,s15,s16,s17,s18,s19,s20,s21,s22,s23⟩;go_simp;with_reducible rfl);refine pS 15 40 HT_ ?_;refine pS 16 41 HT_ ?_;refine pS 17 42 HT_ ?_;refine pS 18 43 HT_ ?_;refine pS 19 44 HT_ ?_;refine pS 20 45 HT_ ?_;refine pS 21 46 HT_ ?_;refine pS 23 48 HT_ ?_;refine pS 24 49 HT_ ?_;refine pS 25 50 HT_ ?_;refine pS 26 51 HT_ ?_;refine pS 28 53 HT_ ?_;refine pS 29 54 HT_ ?_;refine pS 30 55 HT_ ?_;refine pS 31 56 HT_ ?_;refine tS 22 47 HT_ HW_ hHeld ?_ (hy:=by rintro w' ⟨s0,s1,s2,s3,s4,s5,s6,s7,s8,s9,s10,s11,s12,s13,s14,s15,s16,s17,s18,s19,s20,s21,s22,s23⟩;go_simp;with_reducible rfl);refine tS 27 52 HT_ HW_ hHeld ?_ (hy:=by rintro w' ⟨s0,s1,s2,s3,s4,s5,s6,s7,s8,s9,s10,s11,s12,s13,s14,s15,s16,s17,s18,s19,s20,s21,s22,s23⟩;go_simp;with_reducible rfl);refine tS 32 57 HT_ HW_ hHeld ?_ (hy:=by rintro w' ⟨s0,s1,s2,s3,s4,s5,s6,s7,s8,s9,s10,s11,s12,s13,s14,s15,s16,s17,s18,s19,s20,s21,s22,s23⟩;go_simp;with_reducible rfl);refine pS 33 58 HT_ ?_;refine pS 34 59 HT_ ?_;refine pS 35 60 HT_ ?_
                refine done_ (done_of HT_.out (by kernel_rfl)) ?_
                try go_wp2
                go_ret
                exact ⟨by first|rfl|(simp [errW_none,errW_some]<;>rfl)|(simp [*,errW_none,errW_some]<;>rfl),bb HB⟩
               ·rw [if_neg c14] at H
                have c14b0:decide (((rd_T24 l0 x3_1).f1) < (wrap64 (((rd_T24 l0 x4_2).f1)+((rd_T24 l0 x4_2).f2))))=false:=decide_eq_false c14
                clear c14
                have H':=am H
                clear H
                try go_wp2
                have n0_:=am (below_drew1 HB.out)
                clear HB;have HB:=n0_;clear n0_
                have p194:0≤(x4_2:Int):=od
                have q194:x4_2 < (l0.length:Int):=od
                obtain ⟨ad194,e194,hx194_0,hx194_1,hx194_2,hx194_3⟩:=at_T24 HR0.out x4_2 p194 q194
                have hw194_3:=hx194_3;have hw194_2:=hx194_2;have hw194_1:=hx194_1;have hw194_0:=hx194_0
                obtain rfl:ad192=ad194:=(by injection e194)
                replace hx194_0:=hB HB hx194_0
                replace hx194_1:=hB HB hx194_1
                replace hx194_2:=hB HB hx194_2
                replace hx194_3:=hB HB hx194_3
                replace p194:=eq_true p194;replace q194:=eq_true q194
                have p195:0≤(x3_1:Int):=od
                have q195:x3_1 < (l0.length:Int):=od
                obtain ⟨ad195,e195,hx195_0,hx195_1,hx195_2,hx195_3⟩:=at_T24 HR0.out x3_1 p195 q195
                have hw195_3:=hx195_3;have hw195_2:=hx195_2;have hw195_1:=hx195_1;have hw195_0:=hx195_0
                obtain rfl:ad192=ad195:=(by injection e195)
                replace hx195_0:=hB HB hx195_0
                replace hx195_1:=hB HB hx195_1
                replace hx195_2:=hB HB hx195_2
                replace hx195_3:=hB HB hx195_3
                replace p195:=eq_true p195;replace q195:=eq_true q195
                have p196:0≤(x3_1:Int):=od
                have q196:x3_1 < (l0.length:Int):=od
                obtain ⟨ad196,e196,hx196_0,hx196_1,hx196_2,hx196_3⟩:=at_T24 HR0.out x3_1 p196 q196
                have hw196_3:=hx196_3;have hw196_2:=hx196_2;have hw196_1:=hx196_1;have hw196_0:=hx196_0
                obtain rfl:ad192=ad196:=(by injection e196)
                replace hx196_0:=hB HB hx196_0
                replace hx196_1:=hB HB hx196_1
                replace hx196_2:=hB HB hx196_2
                replace hx196_3:=hB HB hx196_3
                replace p196:=eq_true p196;replace q196:=eq_true q196
                have p197:0≤(x3_1:Int):=od
                have q197:x3_1 < (l0.length:Int):=od
                obtain ⟨ad197,e197,hx197_0,hx197_1,hx197_2,hx197_3⟩:=at_T24 HR0.out x3_1 p197 q197
                have hw197_3:=hx197_3;have hw197_2:=hx197_2;have hw197_1:=hx197_1;have hw197_0:=hx197_0
                obtain rfl:ad192=ad197:=(by injection e197)
                replace hx197_0:=hB HB hx197_0
                replace hx197_1:=hB HB hx197_1
                replace hx197_2:=hB HB hx197_2
                replace hx197_3:=hB HB hx197_3
                replace p197:=eq_true p197;replace q197:=eq_true q197
                have p198:0≤(x4_2:Int):=od
                have q198:x4_2 < (l0.length:Int):=od
                obtain ⟨ad198,e198,hx198_0,hx198_1,hx198_2,hx198_3⟩:=at_T24 HR0.out x4_2 p198 q198
                have hw198_3:=hx198_3;have hw198_2:=hx198_2;have hw198_1:=hx198_1;have hw198_0:=hx198_0
                obtain rfl:ad192=ad198:=(by injection e198)
                replace hx198_0:=hB HB hx198_0
                replace hx198_1:=hB HB hx198_1
                replace hx198_2:=hB HB hx198_2
                replace hx198_3:=hB HB hx198_3
                replace p198:=eq_true p198;replace q198:=eq_true q198
                have p199:0≤(x4_2:Int):=od
                have q199:x4_2 < (l0.length:Int):=od
                obtain ⟨ad199,e199,hx199_0,hx199_1,hx199_2,hx199_3⟩:=at_T24 HR0.out x4_2 p199 q199
                have hw199_3:=hx199_3;have hw199_2:=hx199_2;have hw199_1:=hx199_1;have hw199_0:=hx199_0
                obtain rfl:ad192=ad199:=(by injection e199)
                replace hx199_0:=hB HB hx199_0
                replace hx199_1:=hB HB hx199_1
                replace hx199_2:=hB HB hx199_2
                replace hx199_3:=hB HB hx199_3
                replace p199:=eq_true p199;replace q199:=eq_true q199
                refine start_ (n:=36) (S:=fun w'=>w'.cell? (ad192.add ((x4_2).toNat*4))=some (.int .i64 ((rd_T24 l0 x4_2).f0))∧w'.cell? ⟨(ad192.add ((x4_2).toNat*4)).block,(ad192.add ((x4_2).toNat*4)).off+1,none⟩=some (.int .i64 ((rd_T24 l0 x4_2).f1))∧w'.cell? ⟨(ad192.add ((x4_2).toNat*4)).block,(ad192.add ((x4_2).toNat*4)).off+2,none⟩=some (.int .i64 ((rd_T24 l0 x4_2).f2))∧w'.cell? ⟨(ad192.add ((x4_2).toNat*4)).block,(ad192.add ((x4_2).toNat*4)).off+3,none⟩=some (.bool ((rd_T24 l0 x4_2).f3))∧w'.cell? (ad192.add ((x3_1).toNat*4))=some (.int .i64 ((rd_T24 l0 x3_1).f0))∧w'.cell? ⟨(ad192.add ((x3_1).toNat*4)).block,(ad192.add ((x3_1).toNat*4)).off+1,none⟩=some (.int .i64 ((rd_T24 l0 x3_1).f1))∧w'.cell? ⟨(ad192.add ((x3_1).toNat*4)).block,(ad192.add ((x3_1).toNat*4)).off+2,none⟩=some (.int .i64 ((rd_T24 l0 x3_1).f2))∧w'.cell? ⟨(ad192.add ((x3_1).toNat*4)).block,(ad192.add ((x3_1).toNat*4)).off+3,none⟩=some (.bool ((rd_T24 l0 x3_1).f3))∧w'.cell? (ad192.add ((x3_1).toNat*4))=some (.int .i64 ((rd_T24 l0 x3_1).f0))∧w'.cell? ⟨(ad192.add ((x3_1).toNat*4)).block,(ad192.add ((x3_1).toNat*4)).off+1,none⟩=some (.int .i64 ((rd_T24 l0 x3_1).f1))∧w'.cell? ⟨(ad192.add ((x3_1).toNat*4)).block,(ad192.add ((x3_1).toNat*4)).off+2,none⟩=some (.int .i64 ((rd_T24 l0 x3_1).f2))∧w'.cell? ⟨(ad192.add ((x3_1).toNat*4)).block,(ad192.add ((x3_1).toNat*4)).off+3,none⟩=some (.bool ((rd_T24 l0 x3_1).f3))∧w'.cell? (ad192.add ((x3_1).toNat*4))=some (.int .i64 ((rd_T24 l0 x3_1).f0))∧w'.cell? ⟨(ad192.add ((x3_1).toNat*4)).block,(ad192.add ((x3_1).toNat*4)).off+1,none⟩=some (.int .i64 ((rd_T24 l0 x3_1).f1))∧w'.cell? ⟨(ad192.add ((x3_1).toNat*4)).block,(ad192.add ((x3_1).toNat*4)).off+2,none⟩=some (.int .i64 ((rd_T24 l0 x3_1).f2))∧w'.cell? ⟨(ad192.add ((x3_1).toNat*4)).block,(ad192.add ((x3_1).toNat*4)).off+3,none⟩=some (.bool ((rd_T24 l0 x3_1).f3))∧w'.cell? (ad192.add ((x4_2).toNat*4))=some (.int .i64 ((rd_T24 l0 x4_2).f0))∧w'.cell? ⟨(ad192.add ((x4_2).toNat*4)).block,(ad192.add ((x4_2).toNat*4)).off+1,none⟩=some (.int .i64 ((rd_T24 l0 x4_2).f1))∧w'.cell? ⟨(ad192.add ((x4_2).toNat*4)).block,(ad192.add ((x4_2).toNat*4)).off+2,none⟩=some (.int .i64 ((rd_T24 l0 x4_2).f2))∧w'.cell? ⟨(ad192.add ((x4_2).toNat*4)).block,(ad192.add ((x4_2).toNat*4)).off+3,none⟩=some (.bool ((rd_T24 l0 x4_2).f3))∧w'.cell? (ad192.add ((x4_2).toNat*4))=some (.int .i64 ((rd_T24 l0 x4_2).f0))∧w'.cell? ⟨(ad192.add ((x4_2).toNat*4)).block,(ad192.add ((x4_2).toNat*4)).off+1,none⟩=some (.int .i64 ((rd_T24 l0 x4_2).f1))∧w'.cell? ⟨(ad192.add ((x4_2).toNat*4)).block,(ad192.add ((x4_2).toNat*4)).off+2,none⟩=some (.int .i64 ((rd_T24 l0 x4_2).f2))∧w'.cell? ⟨(ad192.add ((x4_2).toNat*4)).block,(ad192.add ((x4_2).toNat*4)).off+3,none⟩=some (.bool ((rd_T24 l0 x4_2).f3))) (ds:=[]) _ (by kernel_rfl) rfl rfl ⟨(hB HB hw194_0),(hB HB hw194_1),(hB HB hw194_2),(hB HB hw194_3),(hB HB hw195_0),(hB HB hw195_1),(hB HB hw195_2),(hB HB hw195_3),(hB HB hw196_0),(hB HB hw196_1),(hB HB hw196_2),(hB HB hw196_3),(hB HB hw197_0),(hB HB hw197_1),(hB HB hw197_2),(hB HB hw197_3),(hB HB hw198_0),(hB HB hw198_1),(hB HB hw198_2),(hB HB hw198_3),(hB HB hw199_0),(hB HB hw199_1),(hB HB hw199_2),(hB HB hw199_3)⟩ (fun hHeld=>?_);refine with_tabW r_10_Check.tab11 r_10_Check.bits11 (fun HT_ HW_=>?_)
                generalize wr.drew=w16 at HB hx194_0 hx194_1 hx194_2 hx194_3 hx195_0 hx195_1 hx195_2 hx195_3 hx196_0 hx196_1 hx196_2 hx196_3 hx197_0 hx197_1 hx197_2 hx197_3 hx198_0 hx198_1 hx198_2 hx198_3 hx199_0 hx199_1 hx199_2 hx199_3 hHeld ⊢
                refine pS 0 25 HT_ ?_;refine pS 1 26 HT_ ?_;refine pS 2 27 HT_ ?_;refine pS 3 28 HT_ ?_;refine pS 5 30 HT_ ?_;refine pS 6 31 HT_ ?_;refine pS 7 32 HT_ ?_;refine pS 8 33 HT_ ?_;refine pS 10 35 HT_ ?_;refine pS 11 36 HT_ ?_;refine pS 12 37 HT_ ?_;refine pS 13 38 HT_ ?_;refine tS 4 29 HT_ HW_ hHeld ?_ (hy:=by rintro w' ⟨s0,s1,s2,s3,s4,s5,s6,s7,s8,s9,s10,s11,s12,s13,s14,s15,s16,s17,s18,s19,s20,s21,s22,s23⟩;go_simp;with_reducible rfl);refine tS 9 34 HT_ HW_ hHeld ?_ (hy:=by rintro w' ⟨s0,s1,s2,s3,s4,s5,s6,s7,s8,s9,s10,s11,s12,s13,s14,s15,s16,s17,s18,s19,s20,s21,s22,s23⟩;go_simp;with_reducible rfl);refine tS 14 39 HT_ HW_ hHeld ?_ (hy:=by rintro w' ⟨s0,s1,s2,s3,s4,s5,s6,s7,s8,s9,s10,s11,s12,s13,s14,s15,s16,s17,s18,s19,s20,s21,s22,s23⟩;go_simp;with_reducible rfl);refine pS 15 40 HT_ ?_;refine pS 16 41 HT_ ?_;refine pS 17 42 HT_ ?_;refine pS 18 43 HT_ ?_;refine pS 19 44 HT_ ?_;refine pS 20 45 HT_ ?_;refine pS 21 46 HT_ ?_;refine pS 23 48 HT_ ?_;refine pS 24 49 HT_ ?_;refine pS 25 50 HT_ ?_;refine pS 26 51 HT_ ?_;refine pS 28 53 HT_ ?_;refine pS 29 54 HT_ ?_;refine pS 30 55 HT_ ?_;refine pS 31 56 HT_ ?_;refine tS 22 47 HT_ HW_ hHeld ?_ (hy:=by rintro w' ⟨s0,s1,s2,s3,s4,s5,s6,s7,s8,s9,s10,s11,s12,s13,s14,s15,s16,s17,s18,s19,s20,s21,s22,s23⟩;go_simp;with_reducible rfl);refine tS 27 52 HT_ HW_ hHeld ?_ (hy:=by rintro w' ⟨s0,s1,s2,s3,s4,s5,s6,s7,s8,s9,s10,s11,s12,s13,s14,s15,s16,s17,s18,s19,s20,s21,s22,s23⟩;go_simp;with_reducible rfl);refine tS 32 57 HT_ HW_ hHeld ?_ (hy:=by rintro w' ⟨s0,s1,s2,s3,s4,s5,s6,s7,s8,s9,s10,s11,s12,s13,s14,s15,s16,s17,s18,s19,s20,s21,s22,s23⟩;go_simp;with_reducible rfl);refine pS 33 58 HT_ ?_;refine pS 34 59 HT_ ?_;refine pS 35 60 HT_ ?_
                refine done_ (done_of HT_.out (by kernel_rfl)) ?_
                try go_wp2
                go_roundg k2
                case measure=>have:=HK1.out;have:=HK2.out;omega
                case rel=>exact ⟨(wrap64 (x4_2+1)),(by first|rfl|(simp;done)|(simp [*];done)),H',⟨by have:=HK1.out;have:=HK2.out;omega⟩,⟨bb HB⟩⟩
              ·rw [if_neg c13] at H
               have c13b0:decide (((rd_T24 l0 x4_2).f1) < (wrap64 (((rd_T24 l0 x3_1).f1)+((rd_T24 l0 x3_1).f2))))=false:=decide_eq_false c13
               clear c13
               have H':=am H
               clear H
               try go_wp2
               have n0_:=am (below_drew1 HB.out)
               clear HB;have HB:=n0_;clear n0_
               have p194:0≤(x4_2:Int):=od
               have q194:x4_2 < (l0.length:Int):=od
               obtain ⟨ad194,e194,hx194_0,hx194_1,hx194_2,hx194_3⟩:=at_T24 HR0.out x4_2 p194 q194
               have hw194_3:=hx194_3;have hw194_2:=hx194_2;have hw194_1:=hx194_1;have hw194_0:=hx194_0
               obtain rfl:ad192=ad194:=(by injection e194)
               replace hx194_0:=hB HB hx194_0
               replace hx194_1:=hB HB hx194_1
               replace hx194_2:=hB HB hx194_2
               replace hx194_3:=hB HB hx194_3
               replace p194:=eq_true p194;replace q194:=eq_true q194
               have p195:0≤(x3_1:Int):=od
               have q195:x3_1 < (l0.length:Int):=od
               obtain ⟨ad195,e195,hx195_0,hx195_1,hx195_2,hx195_3⟩:=at_T24 HR0.out x3_1 p195 q195
               have hw195_3:=hx195_3;have hw195_2:=hx195_2;have hw195_1:=hx195_1;have hw195_0:=hx195_0
               obtain rfl:ad192=ad195:=(by injection e195)
               replace hx195_0:=hB HB hx195_0
               replace hx195_1:=hB HB hx195_1
               replace hx195_2:=hB HB hx195_2
               replace hx195_3:=hB HB hx195_3
               replace p195:=eq_true p195;replace q195:=eq_true q195
               have p196:0≤(x3_1:Int):=od
               have q196:x3_1 < (l0.length:Int):=od
               obtain ⟨ad196,e196,hx196_0,hx196_1,hx196_2,hx196_3⟩:=at_T24 HR0.out x3_1 p196 q196
               have hw196_3:=hx196_3;have hw196_2:=hx196_2;have hw196_1:=hx196_1;have hw196_0:=hx196_0
               obtain rfl:ad192=ad196:=(by injection e196)
               replace hx196_0:=hB HB hx196_0
               replace hx196_1:=hB HB hx196_1
               replace hx196_2:=hB HB hx196_2
               replace hx196_3:=hB HB hx196_3
               replace p196:=eq_true p196;replace q196:=eq_true q196
               refine start_ (n:=36) (S:=fun w'=>w'.cell? (ad192.add ((x4_2).toNat*4))=some (.int .i64 ((rd_T24 l0 x4_2).f0))∧w'.cell? ⟨(ad192.add ((x4_2).toNat*4)).block,(ad192.add ((x4_2).toNat*4)).off+1,none⟩=some (.int .i64 ((rd_T24 l0 x4_2).f1))∧w'.cell? ⟨(ad192.add ((x4_2).toNat*4)).block,(ad192.add ((x4_2).toNat*4)).off+2,none⟩=some (.int .i64 ((rd_T24 l0 x4_2).f2))∧w'.cell? ⟨(ad192.add ((x4_2).toNat*4)).block,(ad192.add ((x4_2).toNat*4)).off+3,none⟩=some (.bool ((rd_T24 l0 x4_2).f3))∧w'.cell? (ad192.add ((x3_1).toNat*4))=some (.int .i64 ((rd_T24 l0 x3_1).f0))∧w'.cell? ⟨(ad192.add ((x3_1).toNat*4)).block,(ad192.add ((x3_1).toNat*4)).off+1,none⟩=some (.int .i64 ((rd_T24 l0 x3_1).f1))∧w'.cell? ⟨(ad192.add ((x3_1).toNat*4)).block,(ad192.add ((x3_1).toNat*4)).off+2,none⟩=some (.int .i64 ((rd_T24 l0 x3_1).f2))∧w'.cell? ⟨(ad192.add ((x3_1).toNat*4)).block,(ad192.add ((x3_1).toNat*4)).off+3,none⟩=some (.bool ((rd_T24 l0 x3_1).f3))∧w'.cell? (ad192.add ((x3_1).toNat*4))=some (.int .i64 ((rd_T24 l0 x3_1).f0))∧w'.cell? ⟨(ad192.add ((x3_1).toNat*4)).block,(ad192.add ((x3_1).toNat*4)).off+1,none⟩=some (.int .i64 ((rd_T24 l0 x3_1).f1))∧w'.cell? ⟨(ad192.add ((x3_1).toNat*4)).block,(ad192.add ((x3_1).toNat*4)).off+2,none⟩=some (.int .i64 ((rd_T24 l0 x3_1).f2))∧w'.cell? ⟨(ad192.add ((x3_1).toNat*4)).block,(ad192.add ((x3_1).toNat*4)).off+3,none⟩=some (.bool ((rd_T24 l0 x3_1).f3))) (ds:=[]) _ (by kernel_rfl) rfl rfl ⟨(hB HB hw194_0),(hB HB hw194_1),(hB HB hw194_2),(hB HB hw194_3),(hB HB hw195_0),(hB HB hw195_1),(hB HB hw195_2),(hB HB hw195_3),(hB HB hw196_0),(hB HB hw196_1),(hB HB hw196_2),(hB HB hw196_3)⟩ (fun hHeld=>?_);refine with_tabW r_10_Check.tab11 r_10_Check.bits11 (fun HT_ HW_=>?_)
               generalize wr.drew=w17 at HB hx194_0 hx194_1 hx194_2 hx194_3 hx195_0 hx195_1 hx195_2 hx195_3 hx196_0 hx196_1 hx196_2 hx196_3 hHeld ⊢
               refine pS 0 25 HT_ ?_;refine pS 1 26 HT_ ?_;refine pS 2 27 HT_ ?_;refine pS 3 28 HT_ ?_;refine pS 5 30 HT_ ?_;refine pS 6 31 HT_ ?_;refine pS 7 32 HT_ ?_;refine pS 8 33 HT_ ?_;refine pS 10 35 HT_ ?_;refine pS 11 36 HT_ ?_;refine pS 12 37 HT_ ?_;refine pS 13 38 HT_ ?_;refine tS 4 29 HT_ HW_ hHeld ?_ (hy:=by rintro w' ⟨s0,s1,s2,s3,s4,s5,s6,s7,s8,s9,s10,s11⟩;go_simp;with_reducible rfl);refine tS 9 34 HT_ HW_ hHeld ?_ (hy:=by rintro w' ⟨s0,s1,s2,s3,s4,s5,s6,s7,s8,s9,s10,s11⟩;go_simp;with_reducible rfl);refine tS 14 39 HT_ HW_ hHeld ?_ (hy:=by rintro w' ⟨s0,s1,s2,s3,s4,s5,s6,s7,s8,s9,s10,s11⟩;go_simp;with_reducible rfl);refine pS 15 40 HT_ ?_;refine pS 16 41 HT_ ?_;refine pS 17 42 HT_ ?_;refine uS 18 43 HT_ ?_;refine uS 19 44 HT_ ?_;refine uS 20 45 HT_ ?_;refine uS 21 46 HT_ ?_;refine uS 22 47 HT_ ?_;refine uS 23 48 HT_ ?_;refine uS 24 49 HT_ ?_;refine uS 25 50 HT_ ?_;refine uS 26 51 HT_ ?_;refine uS 27 52 HT_ ?_;refine uS 28 53 HT_ ?_;refine uS 29 54 HT_ ?_;refine uS 30 55 HT_ ?_;refine uS 31 56 HT_ ?_;refine uS 32 57 HT_ ?_;refine uS 33 58 HT_ ?_;refine uS 34 59 HT_ ?_;refine pS 35 60 HT_ ?_
               refine done_ (done_of HT_.out (by kernel_rfl)) ?_
               try go_wp2
               go_roundg k2
               case measure=>have:=HK1.out;have:=HK2.out;omega
               case rel=>exact ⟨(wrap64 (x4_2+1)),(by first|rfl|(simp;done)|(simp [*];done)),H',⟨by have:=HK1.out;have:=HK2.out;omega⟩,⟨bb HB⟩⟩
             ·rw [if_neg c12] at H
              exact absurd H (by simp)
            ·rw [if_neg c11] at H
             exact absurd H (by simp)
           ·rw [if_neg c10] at H
            exact absurd H (by simp)
          ·rw [if_neg c9] at H
           exact absurd H (by simp)
         ·rw [if_neg c8] at H
          have c8b0:decide (x4_2 < x3_1)=false:=decide_eq_false c8
          clear c8
          by_cases c18:x3_1 > 0
          ·rw [if_pos c18] at H
           have c18b0:decide (0 < x3_1)=true:=decide_eq_true c18
           clear c18
           by_cases c19:0≤x3_1
           ·rw [if_pos c19] at H
            have c19b0:decide (0≤x3_1)=true:=decide_eq_true c19
            clear c19
            by_cases c20:x3_1 < (l0.length:Int)
            ·rw [if_pos c20] at H
             have c20b0:decide (x3_1 < (l0.length:Int))=true:=decide_eq_true c20
             clear c20
             obtain ⟨ji21,hji21⟩:∃ j_:Int,(wrap64 (x3_1 - 1))=j_:=⟨_,rfl⟩
             replace H:(if 0≤(ji21) then (if (ji21) < (l0.length:Int) then (if ((rd_T24 l0 x3_1).f0) < (wrap64 (((rd_T24 l0 (ji21)).f0)+((rd_T24 l0 (ji21)).f2))) then (some 1) else ((r_10_goes.f ((rd_T24 l0 (ji21)).f0) ((rd_T24 l0 (ji21)).f1) ((rd_T24 l0 (ji21)).f2) ((rd_T24 l0 (ji21)).f3) ((rd_T24 l0 x3_1).f0) ((rd_T24 l0 x3_1).f1) ((rd_T24 l0 x3_1).f2) ((rd_T24 l0 x3_1).f3)).bind fun t205=>(if t205=true then (some 1) else (r_10_Check.l0 k2 l0 (wrap64 (x3_1+1)))))) else (none)) else (none))=some r:=by first|(rw [hji21] at H;exact H)|(simp only [hji21] at H ⊢;exact H)
             have hji21w:(IntKind.i64.wrap (x3_1 - 1))=ji21:=(i64_w _).trans hji21
             (try rw [hji21] at c2b0)
             (try rw [hji21] at c2b1)
             (try rw [hji21] at c3b0)
             (try rw [hji21] at c4b0)
             (try rw [hji21] at c8b0)
             (try rw [hji21] at c18b0)
             (try rw [hji21] at c19b0)
             (try rw [hji21] at c20b0)
             by_cases c22:0≤(ji21)
             ·rw [if_pos c22] at H
              have c22b0:decide (0≤(ji21))=true:=decide_eq_true c22
              clear c22
              by_cases c23:(ji21) < (l0.length:Int)
              ·rw [if_pos c23] at H
               have c23b0:decide ((ji21) < (l0.length:Int))=true:=decide_eq_true c23
               clear c23
               by_cases c24:((rd_T24 l0 x3_1).f0) < (wrap64 (((rd_T24 l0 (ji21)).f0)+((rd_T24 l0 (ji21)).f2)))
               ·rw [if_pos c24] at H
                have c24b0:decide (((rd_T24 l0 x3_1).f0) < (wrap64 (((rd_T24 l0 (ji21)).f0)+((rd_T24 l0 (ji21)).f2))))=true:=decide_eq_true c24
                clear c24;obtain rfl:=Option.some.inj H
                try go_wp2
                have n0_:=am (below_drew1 HB.out)
                clear HB;have HB:=n0_;clear n0_
                have p200:0≤(x3_1:Int):=od
                have q200:x3_1 < (l0.length:Int):=od
                obtain ⟨ad200,e200,hx200_0,hx200_1,hx200_2,hx200_3⟩:=at_T24 HR0.out x3_1 p200 q200
                have hw200_3:=hx200_3;have hw200_2:=hx200_2;have hw200_1:=hx200_1;have hw200_0:=hx200_0
                obtain rfl:ad192=ad200:=(by injection e200)
                replace hx200_0:=hB HB hx200_0
                replace hx200_1:=hB HB hx200_1
                replace hx200_2:=hB HB hx200_2
                replace hx200_3:=hB HB hx200_3
                replace p200:=eq_true p200;replace q200:=eq_true q200
                have p201:0≤((ji21):Int):=od
                have q201:(ji21) < (l0.length:Int):=od
                obtain ⟨ad201,e201,hx201_0,hx201_1,hx201_2,hx201_3⟩:=at_T24 HR0.out (ji21) p201 q201
                have hw201_3:=hx201_3;have hw201_2:=hx201_2;have hw201_1:=hx201_1;have hw201_0:=hx201_0
                obtain rfl:ad192=ad201:=(by injection e201)
                replace hx201_0:=hB HB hx201_0
                replace hx201_1:=hB HB hx201_1
                replace hx201_2:=hB HB hx201_2
                replace hx201_3:=hB HB hx201_3
                replace p201:=eq_true p201;replace q201:=eq_true q201
                have p202:0≤((ji21):Int):=od
                have q202:(ji21) < (l0.length:Int):=od
                obtain ⟨ad202,e202,hx202_0,hx202_1,hx202_2,hx202_3⟩:=at_T24 HR0.out (ji21) p202 q202
                have hw202_3:=hx202_3;have hw202_2:=hx202_2;have hw202_1:=hx202_1;have hw202_0:=hx202_0
                obtain rfl:ad192=ad202:=(by injection e202)
                replace hx202_0:=hB HB hx202_0
                replace hx202_1:=hB HB hx202_1
                replace hx202_2:=hB HB hx202_2
                replace hx202_3:=hB HB hx202_3
                replace p202:=eq_true p202;replace q202:=eq_true q202
                refine start_ (n:=35) (S:=fun w'=>w'.cell? (ad192.add ((x3_1).toNat*4))=some (.int .i64 ((rd_T24 l0 x3_1).f0))∧w'.cell? ⟨(ad192.add ((x3_1).toNat*4)).block,(ad192.add ((x3_1).toNat*4)).off+1,none⟩=some (.int .i64 ((rd_T24 l0 x3_1).f1))∧w'.cell? ⟨(ad192.add ((x3_1).toNat*4)).block,(ad192.add ((x3_1).toNat*4)).off+2,none⟩=some (.int .i64 ((rd_T24 l0 x3_1).f2))∧w'.cell? ⟨(ad192.add ((x3_1).toNat*4)).block,(ad192.add ((x3_1).toNat*4)).off+3,none⟩=some (.bool ((rd_T24 l0 x3_1).f3))∧w'.cell? (ad192.add (((ji21)).toNat*4))=some (.int .i64 ((rd_T24 l0 (ji21)).f0))∧w'.cell? ⟨(ad192.add (((ji21)).toNat*4)).block,(ad192.add (((ji21)).toNat*4)).off+1,none⟩=some (.int .i64 ((rd_T24 l0 (ji21)).f1))∧w'.cell? ⟨(ad192.add (((ji21)).toNat*4)).block,(ad192.add (((ji21)).toNat*4)).off+2,none⟩=some (.int .i64 ((rd_T24 l0 (ji21)).f2))∧w'.cell? ⟨(ad192.add (((ji21)).toNat*4)).block,(ad192.add (((ji21)).toNat*4)).off+3,none⟩=some (.bool ((rd_T24 l0 (ji21)).f3))∧w'.cell? (ad192.add (((ji21)).toNat*4))=some (.int .i64 ((rd_T24 l0 (ji21)).f0))∧w'.cell? ⟨(ad192.add (((ji21)).toNat*4)).block,(ad192.add (((ji21)).toNat*4)).off+1,none⟩=some (.int .i64 ((rd_T24 l0 (ji21)).f1))∧w'.cell? ⟨(ad192.add (((ji21)).toNat*4)).block,(ad192.add (((ji21)).toNat*4)).off+2,none⟩=some (.int .i64 ((rd_T24 l0 (ji21)).f2))∧w'.cell? ⟨(ad192.add (((ji21)).toNat*4)).block,(ad192.add (((ji21)).toNat*4)).off+3,none⟩=some (.bool ((rd_T24 l0 (ji21)).f3))) (ds:=[]) _ (by kernel_rfl) rfl rfl ⟨(hB HB hw200_0),(hB HB hw200_1),(hB HB hw200_2),(hB HB hw200_3),(hB HB hw201_0),(hB HB hw201_1),(hB HB hw201_2),(hB HB hw201_3),(hB HB hw202_0),(hB HB hw202_1),(hB HB hw202_2),(hB HB hw202_3)⟩ (fun hHeld=>?_);refine with_tabW r_10_Check.tab13 r_10_Check.bits13 (fun HT_ HW_=>?_)
                generalize wr.drew=w25 at HB hx200_0 hx200_1 hx200_2 hx200_3 hx201_0 hx201_1 hx201_2 hx201_3 hx202_0 hx202_1 hx202_2 hx202_3 hHeld ⊢
                refine pS 0 61 HT_ ?_;refine pS 1 62 HT_ ?_;refine pS 2 63 HT_ ?_;refine pS 3 64 HT_ ?_;refine pS 4 65 HT_ ?_;refine pS 5 66 HT_ ?_;refine pS 6 67 HT_ ?_;refine pS 8 69 HT_ ?_;refine pS 9 70 HT_ ?_;refine pS 10 71 HT_ ?_;refine pS 11 72 HT_ ?_;refine pS 12 73 HT_ ?_;refine pS 14 75 HT_ ?_;refine pS 15 76 HT_ ?_;refine pS 16 77 HT_ ?_;refine pS 17 78 HT_ ?_;refine pS 18 79 HT_ ?_;refine tS 7 68 HT_ HW_ hHeld ?_ (hy:=by rintro w' ⟨s0,s1,s2,s3,s4,s5,s6,s7,s8,s9,s10,s11⟩;go_simp;with_reducible rfl);refine tS 13 74 HT_ HW_ hHeld ?_ (hy:=by rintro w' ⟨s0,s1,s2,s3,s4,s5,s6,s7,s8,s9,s10,s11⟩;go_simp;with_reducible rfl);refine tS 19 80 HT_ HW_ hHeld ?_ (hy:=by rintro w' ⟨s0,s1,s2,s3,s4,s5,s6,s7,s8,s9,s10,s11⟩;go_simp;with_reducible rfl);refine pS 20 81 HT_ ?_;refine pS 21 82 HT_ ?_;refine pS 22 83 HT_ ?_;refine uS 23 84 HT_ ?_;refine uS 24 85 HT_ ?_;refine uS 25 86 HT_ ?_;refine uS 26 87 HT_ ?_;refine uS 27 88 HT_ ?_;refine uS 28 89 HT_ ?_;refine uS 29 90 HT_ ?_;refine uS 30 91 HT_ ?_;refine uS 31 92 HT_ ?_;refine uS 32 93 HT_ ?_;refine pS 33 94 HT_ ?_;refine pS 34 95 HT_ ?_
                refine done_ (done_of HT_.out (by kernel_rfl)) ?_
                try go_wp2
                go_ret
                exact ⟨by first|rfl|(simp [errW_none,errW_some]<;>rfl)|(simp only [← hji21];first|rfl|(simp [errW_none,errW_some]<;>rfl))|(simp [*,errW_none,errW_some]<;>rfl),bb HB⟩
               ·rw [if_neg c24] at H
                have c24b0:decide (((rd_T24 l0 x3_1).f0) < (wrap64 (((rd_T24 l0 (ji21)).f0)+((rd_T24 l0 (ji21)).f2))))=false:=decide_eq_false c24
                clear c24
                replace H:=Option.bind_eq_some_iff.mp H
                obtain ⟨t205,A260,H⟩:=H
                replace H:(if t205=true then (some 1) else (r_10_Check.l0 k2 l0 (wrap64 (x3_1+1))))=some r:=H
                have A26:=am A260
                clear A260
                by_cases c27:t205=true
                ·subst c27
                 have H1:(some 1)=some r:=by rw [if_pos rfl] at H;exact H
                 clear H;have H:=H1;clear H1;obtain rfl:=Option.some.inj H
                 try go_wp2
                 have n0_:=am (below_drew1 HB.out)
                 clear HB;have HB:=n0_;clear n0_
                 have p200:0≤(x3_1:Int):=od
                 have q200:x3_1 < (l0.length:Int):=od
                 obtain ⟨ad200,e200,hx200_0,hx200_1,hx200_2,hx200_3⟩:=at_T24 HR0.out x3_1 p200 q200
                 have hw200_3:=hx200_3;have hw200_2:=hx200_2;have hw200_1:=hx200_1;have hw200_0:=hx200_0
                 obtain rfl:ad192=ad200:=(by injection e200)
                 replace hx200_0:=hB HB hx200_0
                 replace hx200_1:=hB HB hx200_1
                 replace hx200_2:=hB HB hx200_2
                 replace hx200_3:=hB HB hx200_3
                 replace p200:=eq_true p200;replace q200:=eq_true q200
                 have p201:0≤((ji21):Int):=od
                 have q201:(ji21) < (l0.length:Int):=od
                 obtain ⟨ad201,e201,hx201_0,hx201_1,hx201_2,hx201_3⟩:=at_T24 HR0.out (ji21) p201 q201
                 have hw201_3:=hx201_3;have hw201_2:=hx201_2;have hw201_1:=hx201_1;have hw201_0:=hx201_0
                 obtain rfl:ad192=ad201:=(by injection e201)
                 replace hx201_0:=hB HB hx201_0
                 replace hx201_1:=hB HB hx201_1
                 replace hx201_2:=hB HB hx201_2
                 replace hx201_3:=hB HB hx201_3
                 replace p201:=eq_true p201;replace q201:=eq_true q201
                 have p202:0≤((ji21):Int):=od
                 have q202:(ji21) < (l0.length:Int):=od
                 obtain ⟨ad202,e202,hx202_0,hx202_1,hx202_2,hx202_3⟩:=at_T24 HR0.out (ji21) p202 q202
                 have hw202_3:=hx202_3;have hw202_2:=hx202_2;have hw202_1:=hx202_1;have hw202_0:=hx202_0
                 obtain rfl:ad192=ad202:=(by injection e202)
                 replace hx202_0:=hB HB hx202_0
                 replace hx202_1:=hB HB hx202_1
                 replace hx202_2:=hB HB hx202_2
                 replace hx202_3:=hB HB hx202_3
                 replace p202:=eq_true p202;replace q202:=eq_true q202
                 have p203:0≤((ji21):Int):=od
                 have q203:(ji21) < (l0.length:Int):=od
                 obtain ⟨ad203,e203,hx203_0,hx203_1,hx203_2,hx203_3⟩:=at_T24 HR0.out (ji21) p203 q203
                 have hw203_3:=hx203_3;have hw203_2:=hx203_2;have hw203_1:=hx203_1;have hw203_0:=hx203_0
                 obtain rfl:ad192=ad203:=(by injection e203)
                 replace hx203_0:=hB HB hx203_0
                 replace hx203_1:=hB HB hx203_1
                 replace hx203_2:=hB HB hx203_2
                 replace hx203_3:=hB HB hx203_3
                 replace p203:=eq_true p203;replace q203:=eq_true q203
                 have p204:0≤(x3_1:Int):=od
                 have q204:x3_1 < (l0.length:Int):=od
                 obtain ⟨ad204,e204,hx204_0,hx204_1,hx204_2,hx204_3⟩:=at_T24 HR0.out x3_1 p204 q204
                 have hw204_3:=hx204_3;have hw204_2:=hx204_2;have hw204_1:=hx204_1;have hw204_0:=hx204_0
                 obtain rfl:ad192=ad204:=(by injection e204)
                 replace hx204_0:=hB HB hx204_0
                 replace hx204_1:=hB HB hx204_1
                 replace hx204_2:=hB HB hx204_2
                 replace hx204_3:=hB HB hx204_3
                 replace p204:=eq_true p204;replace q204:=eq_true q204
                 refine start_ (n:=35) (S:=fun w'=>w'.cell? (ad192.add ((x3_1).toNat*4))=some (.int .i64 ((rd_T24 l0 x3_1).f0))∧w'.cell? ⟨(ad192.add ((x3_1).toNat*4)).block,(ad192.add ((x3_1).toNat*4)).off+1,none⟩=some (.int .i64 ((rd_T24 l0 x3_1).f1))∧w'.cell? ⟨(ad192.add ((x3_1).toNat*4)).block,(ad192.add ((x3_1).toNat*4)).off+2,none⟩=some (.int .i64 ((rd_T24 l0 x3_1).f2))∧w'.cell? ⟨(ad192.add ((x3_1).toNat*4)).block,(ad192.add ((x3_1).toNat*4)).off+3,none⟩=some (.bool ((rd_T24 l0 x3_1).f3))∧w'.cell? (ad192.add (((ji21)).toNat*4))=some (.int .i64 ((rd_T24 l0 (ji21)).f0))∧w'.cell? ⟨(ad192.add (((ji21)).toNat*4)).block,(ad192.add (((ji21)).toNat*4)).off+1,none⟩=some (.int .i64 ((rd_T24 l0 (ji21)).f1))∧w'.cell? ⟨(ad192.add (((ji21)).toNat*4)).block,(ad192.add (((ji21)).toNat*4)).off+2,none⟩=some (.int .i64 ((rd_T24 l0 (ji21)).f2))∧w'.cell? ⟨(ad192.add (((ji21)).toNat*4)).block,(ad192.add (((ji21)).toNat*4)).off+3,none⟩=some (.bool ((rd_T24 l0 (ji21)).f3))∧w'.cell? (ad192.add (((ji21)).toNat*4))=some (.int .i64 ((rd_T24 l0 (ji21)).f0))∧w'.cell? ⟨(ad192.add (((ji21)).toNat*4)).block,(ad192.add (((ji21)).toNat*4)).off+1,none⟩=some (.int .i64 ((rd_T24 l0 (ji21)).f1))∧w'.cell? ⟨(ad192.add (((ji21)).toNat*4)).block,(ad192.add (((ji21)).toNat*4)).off+2,none⟩=some (.int .i64 ((rd_T24 l0 (ji21)).f2))∧w'.cell? ⟨(ad192.add (((ji21)).toNat*4)).block,(ad192.add (((ji21)).toNat*4)).off+3,none⟩=some (.bool ((rd_T24 l0 (ji21)).f3))∧w'.cell? (ad192.add (((ji21)).toNat*4))=some (.int .i64 ((rd_T24 l0 (ji21)).f0))∧w'.cell? ⟨(ad192.add (((ji21)).toNat*4)).block,(ad192.add (((ji21)).toNat*4)).off+1,none⟩=some (.int .i64 ((rd_T24 l0 (ji21)).f1))∧w'.cell? ⟨(ad192.add (((ji21)).toNat*4)).block,(ad192.add (((ji21)).toNat*4)).off+2,none⟩=some (.int .i64 ((rd_T24 l0 (ji21)).f2))∧w'.cell? ⟨(ad192.add (((ji21)).toNat*4)).block,(ad192.add (((ji21)).toNat*4)).off+3,none⟩=some (.bool ((rd_T24 l0 (ji21)).f3))∧w'.cell? (ad192.add ((x3_1).toNat*4))=some (.int .i64 ((rd_T24 l0 x3_1).f0))∧w'.cell? ⟨(ad192.add ((x3_1).toNat*4)).block,(ad192.add ((x3_1).toNat*4)).off+1,none⟩=some (.int .i64 ((rd_T24 l0 x3_1).f1))∧w'.cell? ⟨(ad192.add ((x3_1).toNat*4)).block,(ad192.add ((x3_1).toNat*4)).off+2,none⟩=some (.int .i64 ((rd_T24 l0 x3_1).f2))∧w'.cell? ⟨(ad192.add ((x3_1).toNat*4)).block,(ad192.add ((x3_1).toNat*4)).off+3,none⟩=some (.bool ((rd_T24 l0 x3_1).f3))) (ds:=[]) _ (by kernel_rfl) rfl rfl ⟨(hB HB hw200_0),(hB HB hw200_1),(hB HB hw200_2),(hB HB hw200_3),(hB HB hw201_0),(hB HB hw201_1),(hB HB hw201_2),(hB HB hw201_3),(hB HB hw202_0),(hB HB hw202_1),(hB HB hw202_2),(hB HB hw202_3),(hB HB hw203_0),(hB HB hw203_1),(hB HB hw203_2),(hB HB hw203_3),(hB HB hw204_0),(hB HB hw204_1),(hB HB hw204_2),(hB HB hw204_3)⟩ (fun hHeld=>?_);refine with_tabW r_10_Check.tab13 r_10_Check.bits13 (fun HT_ HW_=>?_)
                 generalize wr.drew=w28 at HB hx200_0 hx200_1 hx200_2 hx200_3 hx201_0 hx201_1 hx201_2 hx201_3 hx202_0 hx202_1 hx202_2 hx202_3 hx203_0 hx203_1 hx203_2 hx203_3 hx204_0 hx204_1 hx204_2 hx204_3 hHeld ⊢
                 refine pS 0 61 HT_ ?_;refine pS 1 62 HT_ ?_;refine pS 2 63 HT_ ?_;refine pS 3 64 HT_ ?_;refine pS 4 65 HT_ ?_;refine pS 5 66 HT_ ?_;refine pS 6 67 HT_ ?_;refine pS 8 69 HT_ ?_;refine pS 9 70 HT_ ?_;refine pS 10 71 HT_ ?_;refine pS 11 72 HT_ ?_;refine pS 12 73 HT_ ?_;refine pS 14 75 HT_ ?_;refine pS 15 76 HT_ ?_;refine pS 16 77 HT_ ?_;refine pS 17 78 HT_ ?_;refine pS 18 79 HT_ ?_;refine tS 7 68 HT_ HW_ hHeld ?_ (hy:=by rintro w' ⟨s0,s1,s2,s3,s4,s5,s6,s7,s8,s9,s10,s11,s12,s13,s14,s15,s16,s17,s18,s19⟩;go_simp;with_reducible rfl);refine tS 13 74 HT_ HW_ hHeld ?_ (hy:=by rintro w' ⟨s0,s1,s2,s3,s4,s5,s6,s7,s8,s9,s10,s11,s12,s13,s14,s15,s16,s17,s18,s19⟩;go_simp;with_reducible rfl);refine tS 19 80 HT_ HW_ hHeld ?_ (hy:=by rintro w' ⟨s0,s1,s2,s3,s4,s5,s6,s7,s8,s9,s10,s11,s12,s13,s14,s15,s16,s17,s18,s19⟩;go_simp;with_reducible rfl);refine pS 20 81 HT_ ?_;refine pS 21 82 HT_ ?_;refine pS 22 83 HT_ ?_;refine pS 23 84 HT_ ?_;refine pS 24 85 HT_ ?_;refine pS 25 86 HT_ ?_;refine pS 26 87 HT_ ?_;refine pS 28 89 HT_ ?_;refine pS 29 90 HT_ ?_;refine pS 30 91 HT_ ?_;refine tS 27 88 HT_ HW_ hHeld ?_ (hy:=by rintro w' ⟨s0,s1,s2,s3,s4,s5,s6,s7,s8,s9,s10,s11,s12,s13,s14,s15,s16,s17,s18,s19⟩;go_simp;with_reducible rfl);refine tS 31 92 HT_ HW_ hHeld ?_ (hy:=by rintro w' ⟨s0,s1,s2,s3,s4,s5,s6,s7,s8,s9,s10,s11,s12,s13,s14,s15,s16,s17,s18,s19⟩;go_simp;with_reducible rfl)
                 refine oS 32 (some 93) HT_ (fun K hK=>?_)
                 refine goes_ Try.func47 (by kernel_rfl) rfl #[.agg #[.int .i64 ((rd_T24 l0 (ji21)).f0),.int .i64 ((rd_T24 l0 (ji21)).f1),.int .i64 ((rd_T24 l0 (ji21)).f2),.bool ((rd_T24 l0 (ji21)).f3)],.agg #[.int .i64 ((rd_T24 l0 x3_1).f0),.int .i64 ((rd_T24 l0 x3_1).f1),.int .i64 ((rd_T24 l0 x3_1).f2),.bool ((rd_T24 l0 x3_1).f3)]] (by rfl) rfl rfl (by (try simp only [List.map_toArray,List.map_cons,List.map_nil]);first|done|(simp only [hji21];rfl)|rfl|(simp only [List.length_drop,List.length_take];rfl)) ?_
                 with_reducible refine (r_10_goes.calls ((rd_T24 l0 (ji21)).f0) ((rd_T24 l0 (ji21)).f1) ((rd_T24 l0 (ji21)).f2) ((rd_T24 l0 (ji21)).f3) ((rd_T24 l0 x3_1).f0) ((rd_T24 l0 x3_1).f1) ((rd_T24 l0 x3_1).f2) ((rd_T24 l0 x3_1).f3) true _ A26.out).mono ?_
                 rintro e w29 ⟨rfl,hb⟩
                 refine ⟨_,rfl,?_⟩
                 have n0_:=bst HB hb
                 clear HB;have HB:=n0_;clear n0_
                 (try clear hb)
                 (try clear hb2)
                 (try clear hk)
                 (try clear hi)
                 refine hK.out _ _ ⟨(hB HB hw200_0),(hB HB hw200_1),(hB HB hw200_2),(hB HB hw200_3),(hB HB hw201_0),(hB HB hw201_1),(hB HB hw201_2),(hB HB hw201_3),(hB HB hw202_0),(hB HB hw202_1),(hB HB hw202_2),(hB HB hw202_3),(hB HB hw203_0),(hB HB hw203_1),(hB HB hw203_2),(hB HB hw203_3),(hB HB hw204_0),(hB HB hw204_1),(hB HB hw204_2),(hB HB hw204_3)⟩ (fun hHeld=>?_)
                 clear hK K;refine norm_ (a':=?_) ?_ ?_;rotate_left
                 ·show Act.put _ (some 93) _=_
                  simp only [Act.put,sIb,sC0,sCs,i64_w,i32_w];rfl
                 refine pS 33 94 HT_ ?_;refine pS 34 95 HT_ ?_
                 refine done_ (done_of HT_.out (by kernel_rfl)) ?_
                 try go_wp2
                 go_ret
                 exact ⟨by first|rfl|(simp [errW_none,errW_some]<;>rfl)|(simp only [← hji21];first|rfl|(simp [errW_none,errW_some]<;>rfl))|(simp [*,errW_none,errW_some]<;>rfl),bb HB⟩
                ·replace c27:=Bool.eq_false_iff.mpr c27
                 subst c27
                 have H1:(r_10_Check.l0 k2 l0 (wrap64 (x3_1+1)))=some r:=by rw [if_neg (show ¬ (false=true) by decide)] at H;exact H
                 clear H;have H:=H1;clear H1
                 have H':=am H
                 clear H
                 try go_wp2
                 have n0_:=am (below_drew1 HB.out)
                 clear HB;have HB:=n0_;clear n0_
                 have p200:0≤(x3_1:Int):=od
                 have q200:x3_1 < (l0.length:Int):=od
                 obtain ⟨ad200,e200,hx200_0,hx200_1,hx200_2,hx200_3⟩:=at_T24 HR0.out x3_1 p200 q200
                 have hw200_3:=hx200_3;have hw200_2:=hx200_2;have hw200_1:=hx200_1;have hw200_0:=hx200_0
                 obtain rfl:ad192=ad200:=(by injection e200)
                 replace hx200_0:=hB HB hx200_0
                 replace hx200_1:=hB HB hx200_1
                 replace hx200_2:=hB HB hx200_2
                 replace hx200_3:=hB HB hx200_3
                 replace p200:=eq_true p200;replace q200:=eq_true q200
                 have p201:0≤((ji21):Int):=od
                 have q201:(ji21) < (l0.length:Int):=od
                 obtain ⟨ad201,e201,hx201_0,hx201_1,hx201_2,hx201_3⟩:=at_T24 HR0.out (ji21) p201 q201
                 have hw201_3:=hx201_3;have hw201_2:=hx201_2;have hw201_1:=hx201_1;have hw201_0:=hx201_0
                 obtain rfl:ad192=ad201:=(by injection e201)
                 replace hx201_0:=hB HB hx201_0
                 replace hx201_1:=hB HB hx201_1
                 replace hx201_2:=hB HB hx201_2
                 replace hx201_3:=hB HB hx201_3
                 replace p201:=eq_true p201;replace q201:=eq_true q201
                 have p202:0≤((ji21):Int):=od
                 have q202:(ji21) < (l0.length:Int):=od
                 obtain ⟨ad202,e202,hx202_0,hx202_1,hx202_2,hx202_3⟩:=at_T24 HR0.out (ji21) p202 q202
                 have hw202_3:=hx202_3;have hw202_2:=hx202_2;have hw202_1:=hx202_1;have hw202_0:=hx202_0
                 obtain rfl:ad192=ad202:=(by injection e202)
                 replace hx202_0:=hB HB hx202_0
                 replace hx202_1:=hB HB hx202_1
                 replace hx202_2:=hB HB hx202_2
                 replace hx202_3:=hB HB hx202_3
                 replace p202:=eq_true p202;replace q202:=eq_true q202
                 have p203:0≤((ji21):Int):=od
                 have q203:(ji21) < (l0.length:Int):=od
                 obtain ⟨ad203,e203,hx203_0,hx203_1,hx203_2,hx203_3⟩:=at_T24 HR0.out (ji21) p203 q203
                 have hw203_3:=hx203_3;have hw203_2:=hx203_2;have hw203_1:=hx203_1;have hw203_0:=hx203_0
                 obtain rfl:ad192=ad203:=(by injection e203)
                 replace hx203_0:=hB HB hx203_0
                 replace hx203_1:=hB HB hx203_1
                 replace hx203_2:=hB HB hx203_2
                 replace hx203_3:=hB HB hx203_3
                 replace p203:=eq_true p203;replace q203:=eq_true q203
                 have p204:0≤(x3_1:Int):=od
                 have q204:x3_1 < (l0.length:Int):=od
                 obtain ⟨ad204,e204,hx204_0,hx204_1,hx204_2,hx204_3⟩:=at_T24 HR0.out x3_1 p204 q204
                 have hw204_3:=hx204_3;have hw204_2:=hx204_2;have hw204_1:=hx204_1;have hw204_0:=hx204_0
                 obtain rfl:ad192=ad204:=(by injection e204)
                 replace hx204_0:=hB HB hx204_0
                 replace hx204_1:=hB HB hx204_1
                 replace hx204_2:=hB HB hx204_2
                 replace hx204_3:=hB HB hx204_3
                 replace p204:=eq_true p204;replace q204:=eq_true q204
                 refine start_ (n:=35) (S:=fun w'=>w'.cell? (ad192.add ((x3_1).toNat*4))=some (.int .i64 ((rd_T24 l0 x3_1).f0))∧w'.cell? ⟨(ad192.add ((x3_1).toNat*4)).block,(ad192.add ((x3_1).toNat*4)).off+1,none⟩=some (.int .i64 ((rd_T24 l0 x3_1).f1))∧w'.cell? ⟨(ad192.add ((x3_1).toNat*4)).block,(ad192.add ((x3_1).toNat*4)).off+2,none⟩=some (.int .i64 ((rd_T24 l0 x3_1).f2))∧w'.cell? ⟨(ad192.add ((x3_1).toNat*4)).block,(ad192.add ((x3_1).toNat*4)).off+3,none⟩=some (.bool ((rd_T24 l0 x3_1).f3))∧w'.cell? (ad192.add (((ji21)).toNat*4))=some (.int .i64 ((rd_T24 l0 (ji21)).f0))∧w'.cell? ⟨(ad192.add (((ji21)).toNat*4)).block,(ad192.add (((ji21)).toNat*4)).off+1,none⟩=some (.int .i64 ((rd_T24 l0 (ji21)).f1))∧w'.cell? ⟨(ad192.add (((ji21)).toNat*4)).block,(ad192.add (((ji21)).toNat*4)).off+2,none⟩=some (.int .i64 ((rd_T24 l0 (ji21)).f2))∧w'.cell? ⟨(ad192.add (((ji21)).toNat*4)).block,(ad192.add (((ji21)).toNat*4)).off+3,none⟩=some (.bool ((rd_T24 l0 (ji21)).f3))∧w'.cell? (ad192.add (((ji21)).toNat*4))=some (.int .i64 ((rd_T24 l0 (ji21)).f0))∧w'.cell? ⟨(ad192.add (((ji21)).toNat*4)).block,(ad192.add (((ji21)).toNat*4)).off+1,none⟩=some (.int .i64 ((rd_T24 l0 (ji21)).f1))∧w'.cell? ⟨(ad192.add (((ji21)).toNat*4)).block,(ad192.add (((ji21)).toNat*4)).off+2,none⟩=some (.int .i64 ((rd_T24 l0 (ji21)).f2))∧w'.cell? ⟨(ad192.add (((ji21)).toNat*4)).block,(ad192.add (((ji21)).toNat*4)).off+3,none⟩=some (.bool ((rd_T24 l0 (ji21)).f3))∧w'.cell? (ad192.add (((ji21)).toNat*4))=some (.int .i64 ((rd_T24 l0 (ji21)).f0))∧w'.cell? ⟨(ad192.add (((ji21)).toNat*4)).block,(ad192.add (((ji21)).toNat*4)).off+1,none⟩=some (.int .i64 ((rd_T24 l0 (ji21)).f1))∧w'.cell? ⟨(ad192.add (((ji21)).toNat*4)).block,(ad192.add (((ji21)).toNat*4)).off+2,none⟩=some (.int .i64 ((rd_T24 l0 (ji21)).f2))∧w'.cell? ⟨(ad192.add (((ji21)).toNat*4)).block,(ad192.add (((ji21)).toNat*4)).off+3,none⟩=some (.bool ((rd_T24 l0 (ji21)).f3))∧w'.cell? (ad192.add ((x3_1).toNat*4))=some (.int .i64 ((rd_T24 l0 x3_1).f0))∧w'.cell? ⟨(ad192.add ((x3_1).toNat*4)).block,(ad192.add ((x3_1).toNat*4)).off+1,none⟩=some (.int .i64 ((rd_T24 l0 x3_1).f1))∧w'.cell? ⟨(ad192.add ((x3_1).toNat*4)).block,(ad192.add ((x3_1).toNat*4)).off+2,none⟩=some (.int .i64 ((rd_T24 l0 x3_1).f2))∧w'.cell? ⟨(ad192.add ((x3_1).toNat*4)).block,(ad192.add ((x3_1).toNat*4)).off+3,none⟩=some (.bool ((rd_T24 l0 x3_1).f3))) (ds:=[]) _ (by kernel_rfl) rfl rfl ⟨(hB HB hw200_0),(hB HB hw200_1),(hB HB hw200_2),(hB HB hw200_3),(hB HB hw201_0),(hB HB hw201_1),(hB HB hw201_2),(hB HB hw201_3),(hB HB hw202_0),(hB HB hw202_1),(hB HB hw202_2),(hB HB hw202_3),(hB HB hw203_0),(hB HB hw203_1),(hB HB hw203_2),(hB HB hw203_3),(hB HB hw204_0),(hB HB hw204_1),(hB HB hw204_2),(hB HB hw204_3)⟩ (fun hHeld=>?_);refine with_tabW r_10_Check.tab13 r_10_Check.bits13 (fun HT_ HW_=>?_)
                 generalize wr.drew=w30 at HB hx200_0 hx200_1 hx200_2 hx200_3 hx201_0 hx201_1 hx201_2 hx201_3 hx202_0 hx202_1 hx202_2 hx202_3 hx203_0 hx203_1 hx203_2 hx203_3 hx204_0 hx204_1 hx204_2 hx204_3 hHeld ⊢
                 refine pS 0 61 HT_ ?_;refine pS 1 62 HT_ ?_;refine pS 2 63 HT_ ?_;refine pS 3 64 HT_ ?_;refine pS 4 65 HT_ ?_;refine pS 5 66 HT_ ?_;refine pS 6 67 HT_ ?_;refine pS 8 69 HT_ ?_;refine pS 9 70 HT_ ?_;refine pS 10 71 HT_ ?_;refine pS 11 72 HT_ ?_;refine pS 12 73 HT_ ?_;refine pS 14 75 HT_ ?_;refine pS 15 76 HT_ ?_;refine pS 16 77 HT_ ?_;refine pS 17 78 HT_ ?_;refine pS 18 79 HT_ ?_;refine tS 7 68 HT_ HW_ hHeld ?_ (hy:=by rintro w' ⟨s0,s1,s2,s3,s4,s5,s6,s7,s8,s9,s10,s11,s12,s13,s14,s15,s16,s17,s18,s19⟩;go_simp;with_reducible rfl);refine tS 13 74 HT_ HW_ hHeld ?_ (hy:=by rintro w' ⟨s0,s1,s2,s3,s4,s5,s6,s7,s8,s9,s10,s11,s12,s13,s14,s15,s16,s17,s18,s19⟩;go_simp;with_reducible rfl);refine tS 19 80 HT_ HW_ hHeld ?_ (hy:=by rintro w' ⟨s0,s1,s2,s3,s4,s5,s6,s7,s8,s9,s10,s11,s12,s13,s14,s15,s16,s17,s18,s19⟩;go_simp;with_reducible rfl);refine pS 20 81 HT_ ?_;refine pS 21 82 HT_ ?_;refine pS 22 83 HT_ ?_;refine pS 23 84 HT_ ?_;refine pS 24 85 HT_ ?_;refine pS 25 86 HT_ ?_;refine pS 26 87 HT_ ?_;refine pS 28 89 HT_ ?_;refine pS 29 90 HT_ ?_;refine pS 30 91 HT_ ?_;refine tS 27 88 HT_ HW_ hHeld ?_ (hy:=by rintro w' ⟨s0,s1,s2,s3,s4,s5,s6,s7,s8,s9,s10,s11,s12,s13,s14,s15,s16,s17,s18,s19⟩;go_simp;with_reducible rfl);refine tS 31 92 HT_ HW_ hHeld ?_ (hy:=by rintro w' ⟨s0,s1,s2,s3,s4,s5,s6,s7,s8,s9,s10,s11,s12,s13,s14,s15,s16,s17,s18,s19⟩;go_simp;with_reducible rfl)
                 refine oS 32 (some 93) HT_ (fun K hK=>?_)
                 refine goes_ Try.func47 (by kernel_rfl) rfl #[.agg #[.int .i64 ((rd_T24 l0 (ji21)).f0),.int .i64 ((rd_T24 l0 (ji21)).f1),.int .i64 ((rd_T24 l0 (ji21)).f2),.bool ((rd_T24 l0 (ji21)).f3)],.agg #[.int .i64 ((rd_T24 l0 x3_1).f0),.int .i64 ((rd_T24 l0 x3_1).f1),.int .i64 ((rd_T24 l0 x3_1).f2),.bool ((rd_T24 l0 x3_1).f3)]] (by rfl) rfl rfl (by (try simp only [List.map_toArray,List.map_cons,List.map_nil]);first|done|(simp only [hji21];rfl)|rfl|(simp only [List.length_drop,List.length_take];rfl)) ?_
                 with_reducible refine (r_10_goes.calls ((rd_T24 l0 (ji21)).f0) ((rd_T24 l0 (ji21)).f1) ((rd_T24 l0 (ji21)).f2) ((rd_T24 l0 (ji21)).f3) ((rd_T24 l0 x3_1).f0) ((rd_T24 l0 x3_1).f1) ((rd_T24 l0 x3_1).f2) ((rd_T24 l0 x3_1).f3) false _ A26.out).mono ?_
                 rintro e w31 ⟨rfl,hb⟩
                 refine ⟨_,rfl,?_⟩
                 have n0_:=bst HB hb
                 clear HB;have HB:=n0_;clear n0_
                 (try clear hb)
                 (try clear hb2)
                 (try clear hk)
                 (try clear hi)
                 refine hK.out _ _ ⟨(hB HB hw200_0),(hB HB hw200_1),(hB HB hw200_2),(hB HB hw200_3),(hB HB hw201_0),(hB HB hw201_1),(hB HB hw201_2),(hB HB hw201_3),(hB HB hw202_0),(hB HB hw202_1),(hB HB hw202_2),(hB HB hw202_3),(hB HB hw203_0),(hB HB hw203_1),(hB HB hw203_2),(hB HB hw203_3),(hB HB hw204_0),(hB HB hw204_1),(hB HB hw204_2),(hB HB hw204_3)⟩ (fun hHeld=>?_)
                 clear hK K;refine norm_ (a':=?_) ?_ ?_;rotate_left
                 ·show Act.put _ (some 93) _=_
                  simp only [Act.put,sIb,sC0,sCs,i64_w,i32_w];rfl
                 refine pS 33 94 HT_ ?_;refine pS 34 95 HT_ ?_
                 refine done_ (done_of HT_.out (by kernel_rfl)) ?_
                 try go_wp2
                 go_roundg k2
                 case measure=>have:=HK1.out;have:=HK2.out;omega
                 case rel=>exact ⟨(wrap64 (x3_1+1)),(by first|rfl|(simp;done)|(simp [*];done)),H',⟨by have:=HK1.out;have:=HK2.out;omega⟩,⟨bb HB⟩⟩
              ·rw [if_neg c23] at H
               exact absurd H (by simp)
             ·rw [if_neg c22] at H
              exact absurd H (by simp)
            ·rw [if_neg c20] at H
             exact absurd H (by simp)
           ·rw [if_neg c19] at H
            exact absurd H (by simp)
          ·rw [if_neg c18] at H
           have c18b0:decide (0 < x3_1)=false:=decide_eq_false c18
           clear c18
           have H':=am H
           clear H
           try go_wp2
           have n0_:=am (below_drew1 HB.out)
           clear HB;have HB:=n0_;clear n0_
           refine start_ (n:=35) (S:=fun w'=>True) (ds:=[]) _ (by kernel_rfl) rfl rfl trivial (fun hHeld=>?_);refine with_tabW r_10_Check.tab13 r_10_Check.bits13 (fun HT_ HW_=>?_)
           generalize wr.drew=w32 at HB hHeld ⊢
           refine pS 0 61 HT_ ?_;refine pS 1 62 HT_ ?_;refine pS 2 63 HT_ ?_;refine uS 3 64 HT_ ?_;refine uS 4 65 HT_ ?_;refine uS 5 66 HT_ ?_;refine uS 6 67 HT_ ?_;refine uS 7 68 HT_ ?_;refine uS 8 69 HT_ ?_;refine uS 9 70 HT_ ?_;refine uS 10 71 HT_ ?_;refine uS 11 72 HT_ ?_;refine uS 12 73 HT_ ?_;refine uS 13 74 HT_ ?_;refine uS 14 75 HT_ ?_;refine uS 15 76 HT_ ?_;refine uS 16 77 HT_ ?_;refine uS 17 78 HT_ ?_;refine uS 18 79 HT_ ?_;refine uS 19 80 HT_ ?_;refine uS 20 81 HT_ ?_;refine uS 21 82 HT_ ?_;refine uS 22 83 HT_ ?_;refine uS 23 84 HT_ ?_;refine uS 24 85 HT_ ?_;refine uS 25 86 HT_ ?_;refine uS 26 87 HT_ ?_;refine uS 27 88 HT_ ?_;refine uS 28 89 HT_ ?_;refine uS 29 90 HT_ ?_;refine uS 30 91 HT_ ?_;refine uS 31 92 HT_ ?_;refine uS 32 93 HT_ ?_;refine uS 33 94 HT_ ?_;refine pS 34 95 HT_ ?_
           refine done_ (done_of HT_.out (by kernel_rfl)) ?_
           try go_wp2
           go_roundg k2
           case measure=>have:=HK1.out;have:=HK2.out;omega
           case rel=>exact ⟨(wrap64 (x3_1+1)),(by first|rfl|(simp;done)|(simp [*];done)),H',⟨by have:=HK1.out;have:=HK2.out;omega⟩,⟨bb HB⟩⟩
      ·replace c6:=Bool.eq_false_iff.mpr c6
       subst c6
       have H1:(some 1)=some r:=by rw [if_neg (show ¬ (false=true) by decide)] at H;exact H
       clear H;have H:=H1;clear H1;obtain rfl:=Option.some.inj H
       have p192:0≤(x3_1:Int):=od
       have q192:x3_1 < (l0.length:Int):=od
       obtain ⟨ad192,e192,hx192_0,hx192_1,hx192_2,hx192_3⟩:=at_T24 HR0.out x3_1 p192 q192
       cases e192
       replace hx192_0:=hB HB hx192_0
       replace hx192_1:=hB HB hx192_1
       replace hx192_2:=hB HB hx192_2
       replace hx192_3:=hB HB hx192_3
       replace p192:=eq_true p192;replace q192:=eq_true q192
       go_wp2_with (first|((with_reducible refine gate_callee (f:=44) rfl ?_);refine goesL_ (some 18) rfl rfl Try.func44 (by kernel_rfl) rfl #[.agg #[.int .i64 ((rd_T24 l0 x3_1).f0),.int .i64 ((rd_T24 l0 x3_1).f1),.int .i64 ((rd_T24 l0 x3_1).f2),.bool ((rd_T24 l0 x3_1).f3)]] rfl (by (try simp only [List.map_toArray,List.map_cons,List.map_nil]);first|done|rfl|(simp only [List.length_drop,List.length_take];rfl)) ?_;(with_reducible refine (r_10_May.calls ((rd_T24 l0 x3_1).f0) ((rd_T24 l0 x3_1).f1) ((rd_T24 l0 x3_1).f2) ((rd_T24 l0 x3_1).f3) false _ A5.out).mono ?_);rintro e w33 ⟨rfl,hb⟩;refine ⟨_,rfl,?_⟩;have n0_:=bst HB hb;clear HB;have HB:=n0_;clear n0_;(try clear hb);(try clear hb2);(try clear hk);(try clear hi)))
       go_ret
       exact ⟨by first|rfl|(simp [errW_none,errW_some]<;>rfl)|(simp [*,errW_none,errW_some]<;>rfl),bb HB⟩
     ·rw [if_neg c4] at H
      exact absurd H (by simp)
    ·rw [if_neg c3] at H
     have c3b0:decide (x3_1 < (l0.length:Int))=false:=decide_eq_false c3
     clear c3;obtain rfl:=Option.some.inj H;go_wp2;go_ret
     exact ⟨by first|rfl|(simp [errW_none,errW_some]<;>rfl)|(simp [*,errW_none,errW_some]<;>rfl),bb HB⟩
def extent_may.f (a0_0:Int) (a0_1:Int) (a0_2:Int) (a0_3:Bool):Option (Bool):=if a0_0≥0 then (if a0_1 > 0 then (if a0_2 > 0 then (if a0_2≤256 then ((extent_end.f a0_0 a0_1 a0_2 a0_3).bind fun t104=>(if t104≤256 then (if a0_1 < 1024 then ((extent_last.f a0_0 a0_1 a0_2 a0_3).bind fun t105=>(if t105≤1024 then (some (decide (a0_0 < 256))) else (some false))) else (some false)) else (some false))) else (some false)) else (some false)) else (some false)) else (some false)
set_option maxHeartbeats 8000000 in
set_option maxRecDepth 100000 in
theorem extent_may.calls (a0_0:Int) (a0_1:Int) (a0_2:Int) (a0_3:Bool) (r:Bool) (w:World) (h:extent_may.f a0_0 a0_1 a0_2 a0_3=some r) :
  Calls Try.prog 34 #[.agg #[.int .i64 a0_0,.int .i64 a0_1,.int .i64 a0_2,.bool a0_3]] w fun e w'=>e=.returned (.bool r)∧Below w.heap.size w w':=by
 have hu24:=Try.underlying24
 have HB:=am (Below.refl w.heap.size w)
 have H:(if a0_0≥0 then (if a0_1 > 0 then (if a0_2 > 0 then (if a0_2≤256 then ((extent_end.f a0_0 a0_1 a0_2 a0_3).bind fun t104=>(if t104≤256 then (if a0_1 < 1024 then ((extent_last.f a0_0 a0_1 a0_2 a0_3).bind fun t105=>(if t105≤1024 then (some (decide (a0_0 < 256))) else (some false))) else (some false)) else (some false))) else (some false)) else (some false)) else (some false)) else (some false))=some r:=h
 clear h
 by_cases c2:a0_0≥0
 ·rw [if_pos c2] at H
  have c2b0:decide (0≤a0_0)=true:=decide_eq_true c2
  clear c2
  by_cases c3:a0_1 > 0
  ·rw [if_pos c3] at H
   have c3b0:decide (0 < a0_1)=true:=decide_eq_true c3
   clear c3
   by_cases c4:a0_2 > 0
   ·rw [if_pos c4] at H
    have c4b0:decide (0 < a0_2)=true:=decide_eq_true c4
    clear c4
    by_cases c5:a0_2≤256
    ·rw [if_pos c5] at H
     have c5b0:decide (a0_2≤256)=true:=decide_eq_true c5
     clear c5
     replace H:=Option.bind_eq_some_iff.mp H
     obtain ⟨t104,A60,H⟩:=H
     replace H:(if t104≤256 then (if a0_1 < 1024 then ((extent_last.f a0_0 a0_1 a0_2 a0_3).bind fun t105=>(if t105≤1024 then (some (decide (a0_0 < 256))) else (some false))) else (some false)) else (some false))=some r:=H
     have A6:=am A60
     clear A60
     by_cases c7:t104≤256
     ·rw [if_pos c7] at H
      have c7b0:decide (t104≤256)=true:=decide_eq_true c7
      clear c7
      by_cases c8:a0_1 < 1024
      ·rw [if_pos c8] at H
       have c8b0:decide (a0_1 < 1024)=true:=decide_eq_true c8
       clear c8
       replace H:=Option.bind_eq_some_iff.mp H
       obtain ⟨t105,A90,H⟩:=H
       replace H:(if t105≤1024 then (some (decide (a0_0 < 256))) else (some false))=some r:=H
       have A9:=am A90
       clear A90
       by_cases c10:t105≤1024
       ·rw [if_pos c10] at H
        have c10b0:decide (t105≤1024)=true:=decide_eq_true c10
        clear c10;obtain rfl:=Option.some.inj H
        go_enter Try.func34,Try.ntmps34
        go_wp2_with (first|((with_reducible refine gate_dst (N:=1) rfl ?_);refine box_event ?hg (N:=1) ?hd (cs:=#[.int .i64 a0_0,.int .i64 a0_1,.int .i64 a0_2,.bool a0_3]) (t:=24) ?hr ?_;(case hd=>rfl);(case hg=>rfl);(case hr=>first|(go_simp;done)|(go_simp;rfl));intro gb103 hg w11 hbox hb;have n0_:=bst HB hb;have n1_:=am (hbox);have n2_:=am ((gz hg HB));have n3_:=am ((gz hg HB));clear HB;have HB:=n0_;have BK103:=n1_;have GW103:=n2_;have GE103:=n3_;clear n0_ n1_ n2_ n3_;clear hb hbox hg;have hcz12_0:w11.cell? ⟨gb103,0,none⟩=some (.int .i64 a0_0):=kc BK103 0;have hcz12_1:w11.cell? ⟨gb103,1,none⟩=some (.int .i64 a0_1):=kc BK103 1;have hcz12_2:w11.cell? ⟨gb103,2,none⟩=some (.int .i64 a0_2):=kc BK103 2;have hcz12_3:w11.cell? ⟨gb103,3,none⟩=some (.bool a0_3):=kc BK103 3;have hfz12_0:=blk_frozen BK103.out 0;have hfz12_1:=blk_frozen BK103.out 1;have hfz12_2:=blk_frozen BK103.out 2;have hfz12_3:=blk_frozen BK103.out 3)|(go_at_call 35;(with_reducible refine (extent_end.calls a0_0 a0_1 a0_2 a0_3 t104 _ A6.out).mono ?_);rintro e w13 ⟨rfl,hb⟩;have n0_:=am (blk_below (g:=gb103) (o:=.cells #[.int .i64 a0_0,.int .i64 a0_1,.int .i64 a0_2,.bool a0_3] 24 (0,0)) (rK BK103) hb);have n1_:=am (below_step (bxs HB GE103) hb);clear BK103;clear HB;have BK103:=n0_;have HB:=n1_;clear n0_ n1_;(try clear hb);(try clear hb2);(try clear hk);(try clear hi);have hcz14_0:w13.cell? ⟨gb103,0,none⟩=some (.int .i64 a0_0):=kc BK103 0;have hcz14_1:w13.cell? ⟨gb103,1,none⟩=some (.int .i64 a0_1):=kc BK103 1;have hcz14_2:w13.cell? ⟨gb103,2,none⟩=some (.int .i64 a0_2):=kc BK103 2;have hcz14_3:w13.cell? ⟨gb103,3,none⟩=some (.bool a0_3):=kc BK103 3;have hfz14_0:=blk_frozen BK103.out 0;have hfz14_1:=blk_frozen BK103.out 1;have hfz14_2:=blk_frozen BK103.out 2;have hfz14_3:=blk_frozen BK103.out 3)|(go_at_call 65;(with_reducible refine (extent_last.calls a0_0 a0_1 a0_2 a0_3 t105 _ A9.out).mono ?_);rintro e w15 ⟨rfl,hb⟩;have n0_:=am (blk_below (g:=gb103) (o:=.cells #[.int .i64 a0_0,.int .i64 a0_1,.int .i64 a0_2,.bool a0_3] 24 (0,0)) (rK BK103) hb);have n1_:=am (below_step (bxs HB GE103) hb);clear BK103;clear HB;have BK103:=n0_;have HB:=n1_;clear n0_ n1_;(try clear hb);(try clear hb2);(try clear hk);(try clear hi);have hcz16_0:w15.cell? ⟨gb103,0,none⟩=some (.int .i64 a0_0):=kc BK103 0;have hcz16_1:w15.cell? ⟨gb103,1,none⟩=some (.int .i64 a0_1):=kc BK103 1;have hcz16_2:w15.cell? ⟨gb103,2,none⟩=some (.int .i64 a0_2):=kc BK103 2;have hcz16_3:w15.cell? ⟨gb103,3,none⟩=some (.bool a0_3):=kc BK103 3;have hfz16_0:=blk_frozen BK103.out 0;have hfz16_1:=blk_frozen BK103.out 1;have hfz16_2:=blk_frozen BK103.out 2;have hfz16_3:=blk_frozen BK103.out 3))
        go_ret
        exact ⟨by first|rfl|(simp [errW_none,errW_some]<;>rfl)|(simp [*,errW_none,errW_some]<;>rfl),bxs HB GE103⟩
       ·rw [if_neg c10] at H
        have c10b0:decide (t105≤1024)=false:=decide_eq_false c10
        clear c10;obtain rfl:=Option.some.inj H
        go_enter Try.func34,Try.ntmps34
        go_wp2_with (first|((with_reducible refine gate_dst (N:=1) rfl ?_);refine box_event ?hg (N:=1) ?hd (cs:=#[.int .i64 a0_0,.int .i64 a0_1,.int .i64 a0_2,.bool a0_3]) (t:=24) ?hr ?_;(case hd=>rfl);(case hg=>rfl);(case hr=>first|(go_simp;done)|(go_simp;rfl));intro gb103 hg w17 hbox hb;have n0_:=bst HB hb;have n1_:=am (hbox);have n2_:=am ((gz hg HB));have n3_:=am ((gz hg HB));clear HB;have HB:=n0_;have BK103:=n1_;have GW103:=n2_;have GE103:=n3_;clear n0_ n1_ n2_ n3_;clear hb hbox hg;have hcz18_0:w17.cell? ⟨gb103,0,none⟩=some (.int .i64 a0_0):=kc BK103 0;have hcz18_1:w17.cell? ⟨gb103,1,none⟩=some (.int .i64 a0_1):=kc BK103 1;have hcz18_2:w17.cell? ⟨gb103,2,none⟩=some (.int .i64 a0_2):=kc BK103 2;have hcz18_3:w17.cell? ⟨gb103,3,none⟩=some (.bool a0_3):=kc BK103 3;have hfz18_0:=blk_frozen BK103.out 0;have hfz18_1:=blk_frozen BK103.out 1;have hfz18_2:=blk_frozen BK103.out 2;have hfz18_3:=blk_frozen BK103.out 3)|(go_at_call 35;(with_reducible refine (extent_end.calls a0_0 a0_1 a0_2 a0_3 t104 _ A6.out).mono ?_);rintro e w19 ⟨rfl,hb⟩;have n0_:=am (blk_below (g:=gb103) (o:=.cells #[.int .i64 a0_0,.int .i64 a0_1,.int .i64 a0_2,.bool a0_3] 24 (0,0)) (rK BK103) hb);have n1_:=am (below_step (bxs HB GE103) hb);clear BK103;clear HB;have BK103:=n0_;have HB:=n1_;clear n0_ n1_;(try clear hb);(try clear hb2);(try clear hk);(try clear hi);have hcz20_0:w19.cell? ⟨gb103,0,none⟩=some (.int .i64 a0_0):=kc BK103 0;have hcz20_1:w19.cell? ⟨gb103,1,none⟩=some (.int .i64 a0_1):=kc BK103 1;have hcz20_2:w19.cell? ⟨gb103,2,none⟩=some (.int .i64 a0_2):=kc BK103 2;have hcz20_3:w19.cell? ⟨gb103,3,none⟩=some (.bool a0_3):=kc BK103 3;have hfz20_0:=blk_frozen BK103.out 0;have hfz20_1:=blk_frozen BK103.out 1;have hfz20_2:=blk_frozen BK103.out 2;have hfz20_3:=blk_frozen BK103.out 3)|(go_at_call 65;(with_reducible refine (extent_last.calls a0_0 a0_1 a0_2 a0_3 t105 _ A9.out).mono ?_);rintro e w21 ⟨rfl,hb⟩;have n0_:=am (blk_below (g:=gb103) (o:=.cells #[.int .i64 a0_0,.int .i64 a0_1,.int .i64 a0_2,.bool a0_3] 24 (0,0)) (rK BK103) hb);have n1_:=am (below_step (bxs HB GE103) hb);clear BK103;clear HB;have BK103:=n0_;have HB:=n1_;clear n0_ n1_;(try clear hb);(try clear hb2);(try clear hk);(try clear hi)))
        go_ret
        exact ⟨by first|rfl|(simp [errW_none,errW_some]<;>rfl)|(simp [*,errW_none,errW_some]<;>rfl),bxs HB GE103⟩
      ·rw [if_neg c8] at H
       have c8b0:decide (a0_1 < 1024)=false:=decide_eq_false c8
       clear c8;obtain rfl:=Option.some.inj H
       go_enter Try.func34,Try.ntmps34
       go_wp2_with (first|((with_reducible refine gate_dst (N:=1) rfl ?_);refine box_event ?hg (N:=1) ?hd (cs:=#[.int .i64 a0_0,.int .i64 a0_1,.int .i64 a0_2,.bool a0_3]) (t:=24) ?hr ?_;(case hd=>rfl);(case hg=>rfl);(case hr=>first|(go_simp;done)|(go_simp;rfl));intro gb103 hg w22 hbox hb;have n0_:=bst HB hb;have n1_:=am (hbox);have n2_:=am ((gz hg HB));have n3_:=am ((gz hg HB));clear HB;have HB:=n0_;have BK103:=n1_;have GW103:=n2_;have GE103:=n3_;clear n0_ n1_ n2_ n3_;clear hb hbox hg;have hcz23_0:w22.cell? ⟨gb103,0,none⟩=some (.int .i64 a0_0):=kc BK103 0;have hcz23_1:w22.cell? ⟨gb103,1,none⟩=some (.int .i64 a0_1):=kc BK103 1;have hcz23_2:w22.cell? ⟨gb103,2,none⟩=some (.int .i64 a0_2):=kc BK103 2;have hcz23_3:w22.cell? ⟨gb103,3,none⟩=some (.bool a0_3):=kc BK103 3;have hfz23_0:=blk_frozen BK103.out 0;have hfz23_1:=blk_frozen BK103.out 1;have hfz23_2:=blk_frozen BK103.out 2;have hfz23_3:=blk_frozen BK103.out 3)|(go_at_call 35;(with_reducible refine (extent_end.calls a0_0 a0_1 a0_2 a0_3 t104 _ A6.out).mono ?_);rintro e w24 ⟨rfl,hb⟩;have n0_:=am (blk_below (g:=gb103) (o:=.cells #[.int .i64 a0_0,.int .i64 a0_1,.int .i64 a0_2,.bool a0_3] 24 (0,0)) (rK BK103) hb);have n1_:=am (below_step (bxs HB GE103) hb);clear BK103;clear HB;have BK103:=n0_;have HB:=n1_;clear n0_ n1_;(try clear hb);(try clear hb2);(try clear hk);(try clear hi);have hcz25_0:w24.cell? ⟨gb103,0,none⟩=some (.int .i64 a0_0):=kc BK103 0;have hcz25_1:w24.cell? ⟨gb103,1,none⟩=some (.int .i64 a0_1):=kc BK103 1;have hcz25_2:w24.cell? ⟨gb103,2,none⟩=some (.int .i64 a0_2):=kc BK103 2;have hcz25_3:w24.cell? ⟨gb103,3,none⟩=some (.bool a0_3):=kc BK103 3;have hfz25_0:=blk_frozen BK103.out 0;have hfz25_1:=blk_frozen BK103.out 1;have hfz25_2:=blk_frozen BK103.out 2;have hfz25_3:=blk_frozen BK103.out 3))
       go_ret
       exact ⟨by first|rfl|(simp [errW_none,errW_some]<;>rfl)|(simp [*,errW_none,errW_some]<;>rfl),bxs HB GE103⟩
     ·rw [if_neg c7] at H
      have c7b0:decide (t104≤256)=false:=decide_eq_false c7
      clear c7;obtain rfl:=Option.some.inj H
      go_enter Try.func34,Try.ntmps34
      go_wp2_with (first|((with_reducible refine gate_dst (N:=1) rfl ?_);refine box_event ?hg (N:=1) ?hd (cs:=#[.int .i64 a0_0,.int .i64 a0_1,.int .i64 a0_2,.bool a0_3]) (t:=24) ?hr ?_;(case hd=>rfl);(case hg=>rfl);(case hr=>first|(go_simp;done)|(go_simp;rfl));intro gb103 hg w26 hbox hb;have n0_:=bst HB hb;have n1_:=am (hbox);have n2_:=am ((gz hg HB));have n3_:=am ((gz hg HB));clear HB;have HB:=n0_;have BK103:=n1_;have GW103:=n2_;have GE103:=n3_;clear n0_ n1_ n2_ n3_;clear hb hbox hg;have hcz27_0:w26.cell? ⟨gb103,0,none⟩=some (.int .i64 a0_0):=kc BK103 0;have hcz27_1:w26.cell? ⟨gb103,1,none⟩=some (.int .i64 a0_1):=kc BK103 1;have hcz27_2:w26.cell? ⟨gb103,2,none⟩=some (.int .i64 a0_2):=kc BK103 2;have hcz27_3:w26.cell? ⟨gb103,3,none⟩=some (.bool a0_3):=kc BK103 3;have hfz27_0:=blk_frozen BK103.out 0;have hfz27_1:=blk_frozen BK103.out 1;have hfz27_2:=blk_frozen BK103.out 2;have hfz27_3:=blk_frozen BK103.out 3)|(go_at_call 35;(with_reducible refine (extent_end.calls a0_0 a0_1 a0_2 a0_3 t104 _ A6.out).mono ?_);rintro e w28 ⟨rfl,hb⟩;have n0_:=am (blk_below (g:=gb103) (o:=.cells #[.int .i64 a0_0,.int .i64 a0_1,.int .i64 a0_2,.bool a0_3] 24 (0,0)) (rK BK103) hb);have n1_:=am (below_step (bxs HB GE103) hb);clear BK103;clear HB;have BK103:=n0_;have HB:=n1_;clear n0_ n1_;(try clear hb);(try clear hb2);(try clear hk);(try clear hi)))
      go_ret
      exact ⟨by first|rfl|(simp [errW_none,errW_some]<;>rfl)|(simp [*,errW_none,errW_some]<;>rfl),bxs HB GE103⟩
    ·rw [if_neg c5] at H
     have c5b0:decide (a0_2≤256)=false:=decide_eq_false c5
     clear c5;obtain rfl:=Option.some.inj H
     go_enter Try.func34,Try.ntmps34
     go_wp2_with (first|((with_reducible refine gate_dst (N:=1) rfl ?_);refine box_event ?hg (N:=1) ?hd (cs:=#[.int .i64 a0_0,.int .i64 a0_1,.int .i64 a0_2,.bool a0_3]) (t:=24) ?hr ?_;(case hd=>rfl);(case hg=>rfl);(case hr=>first|(go_simp;done)|(go_simp;rfl));intro gb103 hg w29 hbox hb;have n0_:=bst HB hb;have n1_:=am (hbox);have n2_:=am ((gz hg HB));have n3_:=am ((gz hg HB));clear HB;have HB:=n0_;have BK103:=n1_;have GW103:=n2_;have GE103:=n3_;clear n0_ n1_ n2_ n3_;clear hb hbox hg;have hcz30_0:w29.cell? ⟨gb103,0,none⟩=some (.int .i64 a0_0):=kc BK103 0;have hcz30_1:w29.cell? ⟨gb103,1,none⟩=some (.int .i64 a0_1):=kc BK103 1;have hcz30_2:w29.cell? ⟨gb103,2,none⟩=some (.int .i64 a0_2):=kc BK103 2;have hcz30_3:w29.cell? ⟨gb103,3,none⟩=some (.bool a0_3):=kc BK103 3;have hfz30_0:=blk_frozen BK103.out 0;have hfz30_1:=blk_frozen BK103.out 1;have hfz30_2:=blk_frozen BK103.out 2;have hfz30_3:=blk_frozen BK103.out 3))
     go_ret
     exact ⟨by first|rfl|(simp [errW_none,errW_some]<;>rfl)|(simp [*,errW_none,errW_some]<;>rfl),bxs HB GE103⟩
   ·rw [if_neg c4] at H
    have c4b0:decide (0 < a0_2)=false:=decide_eq_false c4
    clear c4;obtain rfl:=Option.some.inj H
    go_enter Try.func34,Try.ntmps34
    go_wp2_with (first|((with_reducible refine gate_dst (N:=1) rfl ?_);refine box_event ?hg (N:=1) ?hd (cs:=#[.int .i64 a0_0,.int .i64 a0_1,.int .i64 a0_2,.bool a0_3]) (t:=24) ?hr ?_;(case hd=>rfl);(case hg=>rfl);(case hr=>first|(go_simp;done)|(go_simp;rfl));intro gb103 hg w31 hbox hb;have n0_:=bst HB hb;have n1_:=am (hbox);have n2_:=am ((gz hg HB));have n3_:=am ((gz hg HB));clear HB;have HB:=n0_;have BK103:=n1_;have GW103:=n2_;have GE103:=n3_;clear n0_ n1_ n2_ n3_;clear hb hbox hg;have hcz32_0:w31.cell? ⟨gb103,0,none⟩=some (.int .i64 a0_0):=kc BK103 0;have hcz32_1:w31.cell? ⟨gb103,1,none⟩=some (.int .i64 a0_1):=kc BK103 1;have hcz32_2:w31.cell? ⟨gb103,2,none⟩=some (.int .i64 a0_2):=kc BK103 2;have hcz32_3:w31.cell? ⟨gb103,3,none⟩=some (.bool a0_3):=kc BK103 3;have hfz32_0:=blk_frozen BK103.out 0;have hfz32_1:=blk_frozen BK103.out 1;have hfz32_2:=blk_frozen BK103.out 2;have hfz32_3:=blk_frozen BK103.out 3))
    go_ret
    exact ⟨by first|rfl|(simp [errW_none,errW_some]<;>rfl)|(simp [*,errW_none,errW_some]<;>rfl),bxs HB GE103⟩
  ·rw [if_neg c3] at H
   have c3b0:decide (0 < a0_1)=false:=decide_eq_false c3
   clear c3;obtain rfl:=Option.some.inj H
   go_enter Try.func34,Try.ntmps34
   go_wp2_with (first|((with_reducible refine gate_dst (N:=1) rfl ?_);refine box_event ?hg (N:=1) ?hd (cs:=#[.int .i64 a0_0,.int .i64 a0_1,.int .i64 a0_2,.bool a0_3]) (t:=24) ?hr ?_;(case hd=>rfl);(case hg=>rfl);(case hr=>first|(go_simp;done)|(go_simp;rfl));intro gb103 hg w33 hbox hb;have n0_:=bst HB hb;have n1_:=am (hbox);have n2_:=am ((gz hg HB));have n3_:=am ((gz hg HB));clear HB;have HB:=n0_;have BK103:=n1_;have GW103:=n2_;have GE103:=n3_;clear n0_ n1_ n2_ n3_;clear hb hbox hg;have hcz34_0:w33.cell? ⟨gb103,0,none⟩=some (.int .i64 a0_0):=kc BK103 0;have hcz34_1:w33.cell? ⟨gb103,1,none⟩=some (.int .i64 a0_1):=kc BK103 1;have hcz34_2:w33.cell? ⟨gb103,2,none⟩=some (.int .i64 a0_2):=kc BK103 2;have hcz34_3:w33.cell? ⟨gb103,3,none⟩=some (.bool a0_3):=kc BK103 3;have hfz34_0:=blk_frozen BK103.out 0;have hfz34_1:=blk_frozen BK103.out 1;have hfz34_2:=blk_frozen BK103.out 2;have hfz34_3:=blk_frozen BK103.out 3))
   go_ret
   exact ⟨by first|rfl|(simp [errW_none,errW_some]<;>rfl)|(simp [*,errW_none,errW_some]<;>rfl),bxs HB GE103⟩
 ·rw [if_neg c2] at H
  have c2b0:decide (0≤a0_0)=false:=decide_eq_false c2
  clear c2;obtain rfl:=Option.some.inj H
  go_enter Try.func34,Try.ntmps34
  go_wp2_with (first|((with_reducible refine gate_dst (N:=1) rfl ?_);refine box_event ?hg (N:=1) ?hd (cs:=#[.int .i64 a0_0,.int .i64 a0_1,.int .i64 a0_2,.bool a0_3]) (t:=24) ?hr ?_;(case hd=>rfl);(case hg=>rfl);(case hr=>first|(go_simp;done)|(go_simp;rfl));intro gb103 hg w35 hbox hb;have n0_:=bst HB hb;have n1_:=am (hbox);have n2_:=am ((gz hg HB));have n3_:=am ((gz hg HB));clear HB;have HB:=n0_;have BK103:=n1_;have GW103:=n2_;have GE103:=n3_;clear n0_ n1_ n2_ n3_;clear hb hbox hg;have hcz36_0:w35.cell? ⟨gb103,0,none⟩=some (.int .i64 a0_0):=kc BK103 0;have hcz36_1:w35.cell? ⟨gb103,1,none⟩=some (.int .i64 a0_1):=kc BK103 1;have hcz36_2:w35.cell? ⟨gb103,2,none⟩=some (.int .i64 a0_2):=kc BK103 2;have hcz36_3:w35.cell? ⟨gb103,3,none⟩=some (.bool a0_3):=kc BK103 3;have hfz36_0:=blk_frozen BK103.out 0;have hfz36_1:=blk_frozen BK103.out 1;have hfz36_2:=blk_frozen BK103.out 2;have hfz36_3:=blk_frozen BK103.out 3))
  go_ret
  exact ⟨by first|rfl|(simp [errW_none,errW_some]<;>rfl)|(simp [*,errW_none,errW_some]<;>rfl),bxs HB GE103⟩
def extent_apart.f (l0:List S24):Option Bool:=if l0.all mayD=true∧l0.length < 4398046511104 then some (apartL l0) else none
set_option maxHeartbeats 8000000 in
set_option maxRecDepth 100000 in
theorem extent_apart.calls (A0:Option Addr) (c0:Nat) (l0:List (S24)) (r:Bool) (w:World) (hr0:Kd.C k24 w A0 l0.length l0) (hc0:l0.length≤c0) (h:extent_apart.f l0=some r) :
  Calls Try.prog 37 #[.slice A0 l0.length c0] w fun e w'=>e=.returned (.bool r)∧Below w.heap.size w w':=by
 unfold extent_apart.f at h
 by_cases hall:l0.all mayD=true∧l0.length < 4398046511104
 ·rw [if_pos hall] at h
  have HL4:=am hall.2
  replace hall:=hall.1
  obtain rfl:=Option.some.inj h
  clear h
  have hu24:=Try.underlying24
  have HR0:=am hr0
  have HC0:=am hc0
  have HM:=am hall
  clear hr0 hc0 hall
  go_enter Try.func37,Try.ntmps37
  go_wp2
  go_loopg [9] l0.length (fun kq v9 w'=>∃ (i:Nat) (ws:List Nat),v9=.int .i64 (i:Int)∧Aside0 (i+kq=l0.length)∧Aside0 (apartL (l0.take i)=true)∧Aside0 (Taken ws (fun b=>∃ e∈l0.take i,inD e b))∧Aside0 (w'.heap[w.heap.size]? = some (.cells (wordsV ws) 92 (0,0)))∧Aside0 (Below w.heap.size w w'))
  case atStart=>exact ⟨0,List.replicate 16 0,rfl,⟨by omega⟩,⟨rfl⟩,⟨by simpa using Taken.none⟩,⟨blk_new w _⟩,⟨(Below.refl _ _).alloc (Nat.le_refl _) _⟩⟩
  case round =>
   obtain ⟨i,ws,rfl,HK,HA,HT,HG,HB⟩:=hrel
   cases gk with
   | zero =>
    have ei:i=l0.length:=by have:=HK.out;omega
    have hlt:decide (i < l0.length)=false:=decide_eq_false (by omega)
    have hr:apartL l0=true:=by have:=HA.out;rwa [ei,List.take_length] at this
    have HR:=am hr
    clear ei hr;go_wp2;go_ret
    exact ⟨by rw [HR.out];rfl,HB.out⟩
   | succ g =>
    have hil:i < l0.length:=by have:=HK.out;omega
    have hlt:decide (i < l0.length)=true:=decide_eq_true (by omega)
    have hmay:mayD (rd_T24 l0 (i:Int))=true:=mayD_at HM.out hil
    have hi0:(0:Int)≤(i:Int):=by omega
    have hi1:(i:Int) < (l0.length:Int):=by omega
    obtain ⟨ad,ead,hca,hcb,hcc,hcd⟩:=at_T24 HR0.out (i:Int) hi0 hi1
    cases ead
    simp only [Int.toNat_natCast] at hca hcb hcc hcd
    replace hca:=hB HB hca
    replace hcb:=hB HB hcb
    replace hcc:=hB HB hcc
    replace hcd:=hB HB hcd
    obtain ⟨e,he⟩:∃ e,e=rd_T24 l0 (i:Int):=⟨_,rfl⟩
    rw [← he] at hca hcb hcc hcd
    rw [← he] at hmay
    have HE:=am he
    obtain ⟨hm1,hm2,hm3⟩:=of_decide_eq_true hmay
    have HM1:=am hm1
    have HM2:=am hm2
    have HM3:=am hm3
    clear he hmay hm1 hm2 hm3;go_wp2
    obtain ⟨lo,hlo⟩:∃ lo:Nat,e.f1=(lo:Int):=⟨e.f1.toNat,by have:=HM1.out;omega⟩
    obtain ⟨hi,hhi⟩:∃ hi:Nat,e.f1+e.f2=(hi:Int):=⟨(e.f1+e.f2).toNat,by have:=HM1.out;have:=HM2.out;omega⟩
    have HG1:=am (blk_alloc HG.out (.cells #[.int .i64 e.f0,.int .i64 e.f1,.int .i64 e.f2,.bool e.f3] 24))
    have HE1:=am (blk_new wr (.cells #[.int .i64 e.f0,.int .i64 e.f1,.int .i64 e.f2,.bool e.f3] 24))
    have HB1:=am (HB.out.alloc HB.out.size (.cells #[.int .i64 e.f0,.int .i64 e.f1,.int .i64 e.f2,.bool e.f3] 24))
    have HNE:=am (show w.heap.size≠wr.heap.size from fun h=>by have:=blk_lt HG.out;omega)
    have HLO:=am (⟨hlo,hhi⟩:e.f1=(lo:Int)∧e.f1+e.f2=(hi:Int))
    have HHI:=am (show lo < hi∧hi≤1024 by have:=HM2.out;have:=HM3.out;omega)
    clear hca hcb hcc hcd HG HB hlo hhi
    generalize hW:wr.alloc (.cells #[.int .i64 e.f0,.int .i64 e.f1,.int .i64 e.f2,.bool e.f3] 24)=W1 at HG1 HE1 HB1 ⊢
    generalize hEB:wr.heap.size=eb at HE1 HNE ⊢
    clear hW hEB
    have hst:e.f1=(lo:Int):=HLO.out.1
    go_loopg [6] (hi - lo) (fun kq v6 w'=>∃ (b:Nat) (us:List Nat),v6=.int .i64 (b:Int)∧Aside0 (b+kq=hi)∧Aside0 (lo≤b)∧Aside0 (∀ x:Int,lo≤x→x < b→¬ ∃ e∈l0.take i,inD e x)∧Aside0 (Taken us (fun x=>(∃ e∈l0.take i,inD e x)∨((lo:Int)≤x∧x < b)))∧Aside0 (w'.heap[w.heap.size]? = some (.cells (wordsV us) 92 (0,0)))∧Aside0 (w'.heap[eb]? = some (.cells #[.int .i64 e.f0,.int .i64 e.f1,.int .i64 e.f2,.bool e.f3] 24 (0,0)))∧Aside0 (Below w.heap.size w w'))
    case atStart=>exact ⟨lo,ws,by rw [hst],⟨by have:=HHI.out;omega⟩,⟨Nat.le_refl _⟩,⟨fun x h1 h2=>by omega⟩,⟨by
     have:=HT.out
     have e0:(fun x:Int=>(∃ e∈l0.take i,inD e x)∨((lo:Int)≤x∧x < lo))=(fun x=>∃ e∈l0.take i,inD e x):=funext fun x=>propext ⟨fun h=>h.elim id (fun h=>by omega),Or.inl⟩
     rw [e0];exact this⟩,HG1,HE1,HB1⟩
    case round =>
     obtain ⟨b,us,rfl,HK2,HLB,HNO,HT2,HG2,HE2,HB2⟩:=hrel
     have hc0:=kc HE2 0
     have hc1:=kc HE2 1
     have hc2:=kc HE2 2
     have hc3:=kc HE2 3
     have hlast:extent_last.f e.f0 e.f1 e.f2 e.f3=some (hi:Int):=by
      unfold extent_last.f
      have h1:=HLO.out.2
      have h2:=HHI.out.2
      have:wrap64 (e.f1+e.f2)=(hi:Int):=by rw [h1];unfold wrap64;omega
      rw [this]
     have HLA:=am hlast
     clear hlast hst
     cases gk with
     | zero =>
      have hbh:decide (b < hi)=false:=decide_eq_false (by have:=HK2.out;omega)
      go_wp2_with (go_at_call 65;refine (extent_last.calls e.f0 e.f1 e.f2 e.f3 (hi:Int) _ HLA.out).mono ?_;rintro e3 w3 ⟨rfl,hb3⟩;have HG3:=am (blk_below HG2.out hb3);have HB3:=am (HB2.out.trans (hb3.mono HB2.out.size));clear hb3)
      have hw1:wrap64 ((i:Int)+1)=((i+1:Nat):Int):=by have:=HL4.out;have:=HK.out;unfold wrap64;omega
      go_roundg g
      case measure=>omega
      case rel =>
       have eb0:b=hi:=by have:=HK2.out;omega
       have htk:l0.take (i+1)=l0.take i++[e]:=by rw [List.take_succ_eq_append_getElem hil,HE.out,rd_in hil]
       refine ⟨i+1,us,by rw [hw1],⟨by have:=HK.out;omega⟩,⟨?_⟩,⟨?_⟩,HG3,HB3⟩
       ·rw [htk,apartL_snoc,HA.out,Bool.true_and]
        refine List.all_eq_true.2 fun x hx=>disj_of (List.all_eq_true.1 HM.out x (List.mem_of_mem_take hx)) HM2.out fun y h1 h2 h3=>?_
        exact HNO.out y (by have:=HLO.out.1;omega) (by have:=HLO.out.2;omega) ⟨x,hx,h3⟩
       ·have h9:=HT2.out
        have e0:(fun x:Int=>(∃ e∈l0.take i,inD e x)∨((lo:Int)≤x∧x < b))=(fun x=>∃ e∈l0.take (i+1),inD e x):=funext fun x=>propext ⟨fun h=>by
         rcases h with ⟨y,h1,h2⟩|h
         ·exact ⟨y,by rw [htk];exact List.mem_append_left _ h1,h2⟩
         ·exact ⟨e,by rw [htk];exact List.mem_append_right _ (by simp),by have:=HLO.out.1;omega,by have:=HLO.out.2;omega⟩,fun h=>by
         obtain ⟨y,h1,h2,h3⟩:=h
         rw [htk] at h1
         rcases List.mem_append.1 h1 with h1|h1
         ·exact Or.inl ⟨y,h1,h2,h3⟩
         ·rw [List.mem_singleton.1 h1] at h2 h3
          exact Or.inr (by have:=HLO.out.1;have:=HLO.out.2;omega)⟩
        rw [← e0]
        exact h9
     | succ g2 =>
      have hbh:decide (b < hi)=true:=decide_eq_true (by have:=HK2.out;omega)
      have htn:((b:Int) / 64).toNat=b / 64:=by omega
      have hb16:(0:Int)≤(b:Int) / 64∧(b:Int) / 64 < 16:=by have:=HK2.out;have:=HHI.out;omega
      obtain ⟨n,hn⟩:∃ n,us.getD (b / 64) 0=n:=⟨_,rfl⟩
      have HN:=am hn
      have hbl:b / 64 < us.length:=by have:=HT2.out.len;have:=HK2.out;have:=HHI.out;omega
      have HW:=am (wordsV_get hbl)
      rw [hn] at HW
      have hn64:n < 18446744073709551616:=by rw [← hn];exact HT2.out.lt _
      have hb1024:b < 1024:=by have:=HK2.out;have:=HHI.out;omega
      obtain ⟨c,hc⟩:∃ c,b % 64=c:=⟨_,rfl⟩
      have hcl:c≤64:=by omega
      have hand:bits .and .i64 (b:Int) 63=(c:Int):=by rw [and63 b hb1024,hc]
      obtain ⟨m,hm⟩:∃ m,n / 2 ^ c=m:=⟨_,rfl⟩
      have hdiv:(n:Int) / 2 ^ c=(m:Int):=by rw [← hm];push_cast;rfl
      have hm64:m < 18446744073709551616:=by rw [← hm];exact Nat.lt_of_le_of_lt (Nat.div_le_self _ _) hn64
      have htb:n.testBit c=decide (m % 2=1):=by rw [← hm,Nat.testBit_eq_decide_div_mod_eq]
      have hbit:=HT2.out.bit b hb1024
      rw [hn,hc,htb,decide_eq_true_eq] at hbit
      have HC:=am hc
      have HBIT:=am hbit
      have HN64:=am hn64
      clear hn hbl hc hm htb hbit
      by_cases hq:m % 2=1
      ·have hone:bits .and .u64 (m:Int) 1=1:=by rw [bit1 m hm64,hq];rfl
       have HRES:=am (show apartL l0=false by
        obtain ⟨x,hx,hxb⟩:=(HBIT.out.1 hq).elim id (fun h=>absurd h.2 (by omega))
        have hsp:l0=l0.take (i+1)++l0.drop (i+1):=(List.take_append_drop _ _).symm
        rw [hsp]
        refine apartL_app _ _ ?_
        rw [List.take_succ_eq_append_getElem hil,apartL_snoc]
        have he:l0[i]=e:=by rw [HE.out,rd_in hil]
        rw [he]
        have hf:(l0.take i).all (fun x=>disjD x e)=false:=by
         refine Bool.eq_false_iff.2 fun h=>?_
         have h1:=List.all_eq_true.1 h x hx
         rw [disj_not hxb ⟨by have:=HLO.out.1;have:=HLB.out;omega,by have:=HLO.out.2;have:=HK2.out;omega⟩] at h1
         cases h1
        rw [hf,Bool.and_false])
       clear hq hm64 hb1024
       go_wp2_with (go_at_call 65;refine (extent_last.calls e.f0 e.f1 e.f2 e.f3 (hi:Int) _ HLA.out).mono ?_;rintro e3 w3 ⟨rfl,hb3⟩;have HG3:=am (blk_below HG2.out hb3);have HE3:=am (blk_below HE2.out hb3);have hc3w:=(blk_cell HG3.out (b / 64)).trans HW.out;have HB3:=am (HB2.out.trans (hb3.mono HB2.out.size));clear hb3)
       go_ret
       exact ⟨by rw [HRES.out];rfl,HB3.out⟩
      ·have hone:bits .and .u64 (m:Int) 1=0:=by rw [bit1 m hm64,show m % 2=0 by omega];rfl
       obtain ⟨p,hp⟩:∃ p:Nat,2 ^ c=p:=⟨_,rfl⟩
       have hp64:p < 18446744073709551616:=by rw [← hp];exact Nat.pow_lt_pow_right (by decide) (show c < 64 by have:=HC.out;omega)
       have hpw:IntKind.u64.wrap ((2:Int) ^ c)=(p:Int):=by
        have:((2:Int) ^ c)=((2 ^ c:Nat):Int):=by push_cast;rfl
        rw [this,hp,u64_nat p hp64]
       obtain ⟨o,ho⟩:∃ o:Nat,n ||| p=o:=⟨_,rfl⟩
       have hor:bits .or .u64 (n:Int) (p:Int)=(o:Int):=by rw [or64 n p HN64.out hp64,ho]
       have HO:=am (show n ||| 2 ^ c=o by rw [hp];exact ho)
       have HNB:=am (show ¬ ∃ e∈l0.take i,inD e (b:Int) from fun h=>hq (HBIT.out.2 (Or.inl h)))
       have HB10:=am hb1024
       clear hq hm64 hb1024 hp hp64 ho
       go_wp2_with (go_at_call 65;refine (extent_last.calls e.f0 e.f1 e.f2 e.f3 (hi:Int) _ HLA.out).mono ?_;rintro e3 w3 ⟨rfl,hb3⟩;have HG3:=am (blk_below HG2.out hb3);have HE3:=am (blk_below HE2.out hb3);have hc3w:=(blk_cell HG3.out (b / 64)).trans HW.out;have HB3:=am (HB2.out.trans (hb3.mono HB2.out.size));clear hb3)
       have hf3:=blk_frozen HG3.out (b / 64)
       refine start_ (n:=10) (S:=fun w'=>w'.cell? ⟨w.heap.size,b / 64,none⟩=some (.int .u64 (n:Int))) (ds:=[9]) _ (by kernel_rfl) rfl rfl (hc3w) (fun hHeld=>?_)
       refine pK 0 30 ?_;refine pK 1 31 ?_;refine pK 2 32 ?_;refine pK 4 34 ?_;refine pK 5 35 ?_;refine pK 6 36 ?_;refine tK 3 33 hHeld ?_ (hy:=by intro w' s0;go_simp;with_reducible rfl);refine pK 7 37 ?_;refine pK 8 38 ?_
       refine last_ (i:=9) (N:=none) #[true,true,true,true,true,true,true,true,true,true] rfl rfl (by kernel_rfl) (by decide) (fun K hK=>?_)
       refine skip_ (w1:=?_) (by rfl) rfl ?_ ?_
       rotate_left;(go_simp;rfl);refine hK.out _ _ ?_;clear hK K
       refine done_ (by kernel_rfl) ?_
       clear hf3 hc3w htn hb16 hand hdiv hone hpw hor;go_wp2
       have hw1:wrap64 ((b:Int)+1)=((b+1:Nat):Int):=by have:=HK2.out;have:=HHI.out;unfold wrap64;omega
       go_roundg g2
       case measure=>omega
       case rel =>
        refine ⟨b+1,us.set (b / 64) o,by rw [hw1],⟨by have:=HK2.out;omega⟩,⟨by have:=HLB.out;omega⟩,⟨fun x h1 h2=>?_⟩,⟨?_⟩,⟨?_⟩,⟨?_⟩,⟨?_⟩⟩
        ·by_cases hxb:x < b
         ·exact HNO.out x h1 hxb
         ·obtain rfl:x=b:=by omega
          exact HNB.out
        ·have h9:=HT2.out.more HB10.out
         rw [HC.out,HN.out,HO.out] at h9
         have e0:(fun x:Int=>((∃ e∈l0.take i,inD e x)∨((lo:Int)≤x∧x < b))∨x=b)=(fun x=>(∃ e∈l0.take i,inD e x)∨((lo:Int)≤x∧x < ((b+1:Nat):Int))):=funext fun x=>propext ⟨fun h=>by
          rcases h with (h|h)|h
          ·exact Or.inl h
          ·exact Or.inr (by omega)
          ·exact Or.inr (by have:=HLB.out;omega),fun h=>by
          rcases h with h|h
          ·exact Or.inl (Or.inl h)
          ·by_cases hxb:x < b
           ·exact Or.inl (Or.inr ⟨h.1,hxb⟩)
           ·exact Or.inr (by omega)⟩
         rw [← e0]
         exact h9
        ·exact blk_drew (blk_put HG3.out (b / 64) (.int .u64 (o:Int)) (wordsV_set us (b / 64) o))
        ·exact blk_drew (blk_far HE3.out (p:=⟨w.heap.size,b / 64,none⟩) (fun h=>HNE.out h.symm) _)
        ·exact below_drew1 (Hl.below_set_ HB3.out (Nat.le_refl _))
 ·rw [if_neg hall] at h
  cases h
end Go.Proofs.Ytopmjjnkolfciaa.Pr
end
section
namespace Go.Proofs.Ytopmjjnkolfciaa.Pr
open Go.RowKit Go.Proofs.YtopmjjnkolfciaaW.PrintWords Go.Proofs.YtopmjjnkolfciaaW.PrintLast Go.Proofs.YtopmjjnkolfciaaW.PrintMore
attribute [local go_sem] max2_int min2_int max_two min_two max_three min_three max_four min_four
attribute [local go_sem] Go.Proofs.Ytopmjjnkolfciaa.Hl.str_geq Go.Proofs.Ytopmjjnkolfciaa.Hl.str_gtr Go.Proofs.Ytopmjjnkolfciaa.Hl.str_leq
set_option linter.unusedVariables false
set_option linter.unusedSimpArgs false
def extent_Check.l0:Nat→List (S24)→List (S24)→Int→Int→Option (Int)
 | 0,_,_,_,_=>none
 | k+1,x0,x8,x9,x10=>if x10 < x9 then (if 0≤x10 then (if x10 < (x8.length:Int) then ((extent_may.f ((rd_T24 x8 x10).f0) ((rd_T24 x8 x10).f1) ((rd_T24 x8 x10).f2) ((rd_T24 x8 x10).f3)).bind fun t113=>(if t113=true then (if x10 > 0 then (if 0≤(wrap64 (x10 - 1)) then (if (wrap64 (x10 - 1)) < (x0.length:Int) then ((extent_end.f ((rd_T24 x0 (wrap64 (x10 - 1))).f0) ((rd_T24 x0 (wrap64 (x10 - 1))).f1) ((rd_T24 x0 (wrap64 (x10 - 1))).f2) ((rd_T24 x0 (wrap64 (x10 - 1))).f3)).bind fun t115=>(if ((rd_T24 x8 x10).f0) < t115 then (some 1) else ((extent_goes.f ((rd_T24 x0 (wrap64 (x10 - 1))).f0) ((rd_T24 x0 (wrap64 (x10 - 1))).f1) ((rd_T24 x0 (wrap64 (x10 - 1))).f2) ((rd_T24 x0 (wrap64 (x10 - 1))).f3) ((rd_T24 x8 x10).f0) ((rd_T24 x8 x10).f1) ((rd_T24 x8 x10).f2) ((rd_T24 x8 x10).f3)).bind fun t117=>(if t117=true then (some 1) else (extent_Check.l0 k x0 x8 x9 (wrap64 (x10+1))))))) else (none)) else (none)) else (extent_Check.l0 k x0 x8 x9 (wrap64 (x10+1)))) else (some 1))) else (none)) else (none)) else ((extent_apart.f x0).bind fun t110=>(if t110=true then (some 0) else (some 1)))
def extent_Check.f (k:Nat) (l0:List (S24)):Option (Int):=if (l0.length:Int) > 60 then (some 1) else (extent_Check.l0 k l0 l0 (l0.length:Int) 0)
def extent_Check.T6:Bool×List (List Nat×List Nat):=(true,[([],[]),([0],[0]),([1],[1]),([2,1],[2]),([3],[3]),([4,3],[3,4]),([5,3,3],[3,5]),([6],[6]),([7,6],[6,7]),([6],[6]),([6],[6]),([10,6],[6,10]),([9,11,6],[6,9,11]),([12,6],[6,12]),([13,6,6],[6,13]),([8,14,6],[6,8,14]),([15,14,6],[6,15]),([16],[16]),([16],[16]),([18,16],[16,18]),([17,19,16],[16,17,19]),([20,16],[16,20]),([16],[16]),([21,22,16,16],[16,21,22]),([16,23,6],[6,16,23]),([6,24,3],[3,6,24]),([3,25],[3,25])])
def extent_Check.B6:List Nat:=[0,1,3,7,15,31,63,127,255,127,127,1151,3711,7807,15999,32767,65535,131071,131071,393215,1048575,2097151,131071,8388607,16777215,33554431,67108863]
theorem extent_Check.tab6:rtab .any (opsOf Try.f12 6)=extent_Check.T6:=by kernel_rfl
theorem extent_Check.bits6:waitsOk extent_Check.T6.2 extent_Check.B6=true:=by kernel_rfl
set_option maxHeartbeats 8000000 in
set_option maxRecDepth 100000 in
theorem extent_Check.calls (k:Nat) (A0:Option Addr) (c0:Nat) (l0:List (S24)) (r:Int) (w:World) (hr0:Kd.C k24 w A0 l0.length l0) (hc0:l0.length≤c0) (h:extent_Check.f k l0=some r) :
  Calls Try.prog 12 #[.slice A0 l0.length c0] w fun e w'=>e=.returned (.int .i64 r)∧Below w.heap.size w w':=by
 have hu24:=Try.underlying24
 have HR0:=am hr0
 have HC0:=am hc0
 clear hr0 hc0
 have HB:=am (Below.refl w.heap.size w)
 have H:(if (l0.length:Int) > 60 then (some 1) else (extent_Check.l0 k l0 l0 (l0.length:Int) 0))=some r:=h
 clear h
 by_cases c2:(l0.length:Int) > 60
 ·rw [if_pos c2] at H
  have c2b0:decide (60 < (l0.length:Int))=true:=decide_eq_true c2
  have c2b1:decide (60 < l0.length)=true:=decide_eq_true (by omega)
  clear c2;obtain rfl:=Option.some.inj H
  go_enter Try.func12,Try.ntmps12
  go_wp2;go_ret
  exact ⟨by first|rfl|(simp [errW_none,errW_some]<;>rfl)|(simp [*,errW_none,errW_some]<;>rfl),bb HB⟩
 ·rw [if_neg c2] at H
  have c2b0:decide (60 < (l0.length:Int))=false:=decide_eq_false c2
  have c2b1:decide (60 < l0.length)=false:=decide_eq_false (by omega)
  clear c2
  have H':=am H
  clear H
  go_enter Try.func12,Try.ntmps12
  go_wp2
  go_loopg [10] k (fun kq v10 w'=>∃ (x10_1:Int),v10=.int .i64 x10_1∧Aside0 (extent_Check.l0 kq l0 l0 (l0.length:Int) x10_1=some r)∧Aside0 (kq≤k)∧Aside0 (Below w.heap.size w w'))
  case atStart=>exact ⟨(0),(by first|rfl|(simp;done)|(simp [*];done)),H',⟨Nat.le_refl _⟩,⟨bb HB⟩⟩
  case round =>
   clear H'
   try clear c1
   try clear c2
   try clear c2b0
   try clear c2b1
   try clear p2
   obtain ⟨x10_1,rfl,HA,HK1,HB⟩:=hrel
   cases gk with
   | zero=>exact absurd HA.out (by intro h_;cases h_)
   | succ k1 =>
    have H:=HA.out
    clear HA
    simp only [extent_Check.l0] at H
    by_cases c3:x10_1 < (l0.length:Int)
    ·rw [if_pos c3] at H
     have c3b0:decide (x10_1 < (l0.length:Int))=true:=decide_eq_true c3
     clear c3
     by_cases c4:0≤x10_1
     ·rw [if_pos c4] at H
      have c4b0:decide (0≤x10_1)=true:=decide_eq_true c4
      clear c4
      by_cases c5:x10_1 < (l0.length:Int)
      ·rw [if_pos c5] at H
       have c5b0:decide (x10_1 < (l0.length:Int))=true:=decide_eq_true c5
       clear c5
       replace H:=Option.bind_eq_some_iff.mp H
       obtain ⟨t113,A60,H⟩:=H
       replace H:(if t113=true then (if x10_1 > 0 then (if 0≤(wrap64 (x10_1 - 1)) then (if (wrap64 (x10_1 - 1)) < (l0.length:Int) then ((extent_end.f ((rd_T24 l0 (wrap64 (x10_1 - 1))).f0) ((rd_T24 l0 (wrap64 (x10_1 - 1))).f1) ((rd_T24 l0 (wrap64 (x10_1 - 1))).f2) ((rd_T24 l0 (wrap64 (x10_1 - 1))).f3)).bind fun t115=>(if ((rd_T24 l0 x10_1).f0) < t115 then (some 1) else ((extent_goes.f ((rd_T24 l0 (wrap64 (x10_1 - 1))).f0) ((rd_T24 l0 (wrap64 (x10_1 - 1))).f1) ((rd_T24 l0 (wrap64 (x10_1 - 1))).f2) ((rd_T24 l0 (wrap64 (x10_1 - 1))).f3) ((rd_T24 l0 x10_1).f0) ((rd_T24 l0 x10_1).f1) ((rd_T24 l0 x10_1).f2) ((rd_T24 l0 x10_1).f3)).bind fun t117=>(if t117=true then (some 1) else (extent_Check.l0 k1 l0 l0 (l0.length:Int) (wrap64 (x10_1+1))))))) else (none)) else (none)) else (extent_Check.l0 k1 l0 l0 (l0.length:Int) (wrap64 (x10_1+1)))) else (some 1))=some r:=H
       have A6:=am A60
       clear A60
       by_cases c7:t113=true
       ·subst c7
        have H1:(if x10_1 > 0 then (if 0≤(wrap64 (x10_1 - 1)) then (if (wrap64 (x10_1 - 1)) < (l0.length:Int) then ((extent_end.f ((rd_T24 l0 (wrap64 (x10_1 - 1))).f0) ((rd_T24 l0 (wrap64 (x10_1 - 1))).f1) ((rd_T24 l0 (wrap64 (x10_1 - 1))).f2) ((rd_T24 l0 (wrap64 (x10_1 - 1))).f3)).bind fun t115=>(if ((rd_T24 l0 x10_1).f0) < t115 then (some 1) else ((extent_goes.f ((rd_T24 l0 (wrap64 (x10_1 - 1))).f0) ((rd_T24 l0 (wrap64 (x10_1 - 1))).f1) ((rd_T24 l0 (wrap64 (x10_1 - 1))).f2) ((rd_T24 l0 (wrap64 (x10_1 - 1))).f3) ((rd_T24 l0 x10_1).f0) ((rd_T24 l0 x10_1).f1) ((rd_T24 l0 x10_1).f2) ((rd_T24 l0 x10_1).f3)).bind fun t117=>(if t117=true then (some 1) else (extent_Check.l0 k1 l0 l0 (l0.length:Int) (wrap64 (x10_1+1))))))) else (none)) else (none)) else (extent_Check.l0 k1 l0 l0 (l0.length:Int) (wrap64 (x10_1+1))))=some r:=by rw [if_pos rfl] at H;exact H
        clear H;have H:=H1;clear H1
        by_cases c8:x10_1 > 0
        ·rw [if_pos c8] at H
         have c8b0:decide (0 < x10_1)=true:=decide_eq_true c8
         clear c8
         obtain ⟨ji9,hji9⟩:∃ j_:Int,(wrap64 (x10_1 - 1))=j_:=⟨_,rfl⟩
         replace H:(if 0≤(ji9) then (if (ji9) < (l0.length:Int) then ((extent_end.f ((rd_T24 l0 (ji9)).f0) ((rd_T24 l0 (ji9)).f1) ((rd_T24 l0 (ji9)).f2) ((rd_T24 l0 (ji9)).f3)).bind fun t115=>(if ((rd_T24 l0 x10_1).f0) < t115 then (some 1) else ((extent_goes.f ((rd_T24 l0 (ji9)).f0) ((rd_T24 l0 (ji9)).f1) ((rd_T24 l0 (ji9)).f2) ((rd_T24 l0 (ji9)).f3) ((rd_T24 l0 x10_1).f0) ((rd_T24 l0 x10_1).f1) ((rd_T24 l0 x10_1).f2) ((rd_T24 l0 x10_1).f3)).bind fun t117=>(if t117=true then (some 1) else (extent_Check.l0 k1 l0 l0 (l0.length:Int) (wrap64 (x10_1+1))))))) else (none)) else (none))=some r:=by first|(rw [hji9] at H;exact H)|(simp only [hji9] at H ⊢;exact H)
         (try rw [hji9] at A6)
         have hji9w:(IntKind.i64.wrap (x10_1 - 1))=ji9:=(i64_w _).trans hji9
         (try rw [hji9] at c2b0)
         (try rw [hji9] at c2b1)
         (try rw [hji9] at c3b0)
         (try rw [hji9] at c4b0)
         (try rw [hji9] at c5b0)
         (try rw [hji9] at c8b0)
         by_cases c10:0≤(ji9)
         ·rw [if_pos c10] at H
          have c10b0:decide (0≤(ji9))=true:=decide_eq_true c10
          clear c10
          by_cases c11:(ji9) < (l0.length:Int)
          ·rw [if_pos c11] at H
           have c11b0:decide ((ji9) < (l0.length:Int))=true:=decide_eq_true c11
           clear c11
           replace H:=Option.bind_eq_some_iff.mp H
           obtain ⟨t115,A120,H⟩:=H
           replace H:(if ((rd_T24 l0 x10_1).f0) < t115 then (some 1) else ((extent_goes.f ((rd_T24 l0 (ji9)).f0) ((rd_T24 l0 (ji9)).f1) ((rd_T24 l0 (ji9)).f2) ((rd_T24 l0 (ji9)).f3) ((rd_T24 l0 x10_1).f0) ((rd_T24 l0 x10_1).f1) ((rd_T24 l0 x10_1).f2) ((rd_T24 l0 x10_1).f3)).bind fun t117=>(if t117=true then (some 1) else (extent_Check.l0 k1 l0 l0 (l0.length:Int) (wrap64 (x10_1+1))))))=some r:=H
           have A12:=am A120
           clear A120
           by_cases c13:((rd_T24 l0 x10_1).f0) < t115
           ·rw [if_pos c13] at H
            have c13b0:decide (((rd_T24 l0 x10_1).f0) < t115)=true:=decide_eq_true c13
            clear c13;obtain rfl:=Option.some.inj H
            have p111:0≤(x10_1:Int):=od
            have q111:x10_1 < (l0.length:Int):=od
            obtain ⟨ad111,e111,hx111_0,hx111_1,hx111_2,hx111_3⟩:=at_T24 HR0.out x10_1 p111 q111
            cases e111
            replace hx111_0:=hB HB hx111_0
            replace hx111_1:=hB HB hx111_1
            replace hx111_2:=hB HB hx111_2
            replace hx111_3:=hB HB hx111_3
            replace p111:=eq_true p111;replace q111:=eq_true q111
            try go_wp2_with (first|((with_reducible refine gate_dst (N:=4) rfl ?_);refine box_event ?hg (N:=4) ?hd (cs:=#[.int .i64 0,.int .i64 0,.int .i64 0,.bool false]) (t:=24) ?hr ?_;(case hd=>rfl);(case hg=>rfl);(case hr=>first|(go_simp;done)|(go_simp;rfl));intro gb112 hg w14 hbox hb;have n0_:=bst HB hb;have n1_:=am (hbox);have n2_:=am ((gz hg HB));have n3_:=am ((gz hg HB));clear HB;have HB:=n0_;have BK112:=n1_;have GW112:=n2_;have GE112:=n3_;clear n0_ n1_ n2_ n3_;clear hb hbox hg;have hcz15_0:w14.cell? ⟨gb112,0,none⟩=some (.int .i64 0):=kc BK112 0;have hcz15_1:w14.cell? ⟨gb112,1,none⟩=some (.int .i64 0):=kc BK112 1;have hcz15_2:w14.cell? ⟨gb112,2,none⟩=some (.int .i64 0):=kc BK112 2;have hcz15_3:w14.cell? ⟨gb112,3,none⟩=some (.bool false):=kc BK112 3;have hfz15_0:=blk_frozen BK112.out 0;have hfz15_1:=blk_frozen BK112.out 1;have hfz15_2:=blk_frozen BK112.out 2;have hfz15_3:=blk_frozen BK112.out 3))
            have n0_:Aside0 (((((w14.setCell ⟨gb112,0,none⟩ (.int .i64 ((rd_T24 l0 x10_1).f0))).setCell ⟨gb112,1,none⟩ (.int .i64 ((rd_T24 l0 x10_1).f1))).setCell ⟨gb112,2,none⟩ (.int .i64 ((rd_T24 l0 x10_1).f2))).setCell ⟨gb112,3,none⟩ (.bool ((rd_T24 l0 x10_1).f3))).heap[gb112]? = some (.cells #[.int .i64 ((rd_T24 l0 x10_1).f0),.int .i64 ((rd_T24 l0 x10_1).f1),.int .i64 ((rd_T24 l0 x10_1).f2),.bool ((rd_T24 l0 x10_1).f3)] 24 (0,0))):=⟨by (with_reducible repeat (first|refine blk_drewN ?_ _|refine blk_drew ?_|refine blk_alloc ?_ _));refine blk_put (cs:=#[.int .i64 ((rd_T24 l0 x10_1).f0),.int .i64 ((rd_T24 l0 x10_1).f1),.int .i64 ((rd_T24 l0 x10_1).f2),.bool false]) ?_ 3 _ rfl;(with_reducible repeat (first|refine blk_drewN ?_ _|refine blk_drew ?_|refine blk_alloc ?_ _));refine blk_put (cs:=#[.int .i64 ((rd_T24 l0 x10_1).f0),.int .i64 ((rd_T24 l0 x10_1).f1),.int .i64 0,.bool false]) ?_ 2 _ rfl;(with_reducible repeat (first|refine blk_drewN ?_ _|refine blk_drew ?_|refine blk_alloc ?_ _));refine blk_put (cs:=#[.int .i64 ((rd_T24 l0 x10_1).f0),.int .i64 0,.int .i64 0,.bool false]) ?_ 1 _ rfl;(with_reducible repeat (first|refine blk_drewN ?_ _|refine blk_drew ?_|refine blk_alloc ?_ _));refine blk_put (cs:=#[.int .i64 0,.int .i64 0,.int .i64 0,.bool false]) ?_ 0 _ rfl;(with_reducible repeat (first|refine blk_drewN ?_ _|refine blk_drew ?_|refine blk_alloc ?_ _));exact BK112.out⟩
            have n1_:Aside0 (Below w.heap.size w ((((w14.setCell ⟨gb112,0,none⟩ (.int .i64 ((rd_T24 l0 x10_1).f0))).setCell ⟨gb112,1,none⟩ (.int .i64 ((rd_T24 l0 x10_1).f1))).setCell ⟨gb112,2,none⟩ (.int .i64 ((rd_T24 l0 x10_1).f2))).setCell ⟨gb112,3,none⟩ (.bool ((rd_T24 l0 x10_1).f3)))):=⟨bxs HB GE112⟩
            (try clear BK112)
            (try clear HB)
            generalize ((((w14.setCell ⟨gb112,0,none⟩ (.int .i64 ((rd_T24 l0 x10_1).f0))).setCell ⟨gb112,1,none⟩ (.int .i64 ((rd_T24 l0 x10_1).f1))).setCell ⟨gb112,2,none⟩ (.int .i64 ((rd_T24 l0 x10_1).f2))).setCell ⟨gb112,3,none⟩ (.bool ((rd_T24 l0 x10_1).f3)))=w16 at n0_ n1_ ⊢
            have BK112:=n0_;have HB:=n1_;clear n0_ n1_
            have n0_:=am (blk_drew BK112.out)
            have n1_:=am (below_drew1 HB.out)
            clear BK112;clear HB;have BK112:=n0_;have HB:=n1_;clear n0_ n1_
            have p114:0≤((ji9):Int):=od
            have q114:(ji9) < (l0.length:Int):=od
            obtain ⟨ad114,e114,hx114_0,hx114_1,hx114_2,hx114_3⟩:=at_T24 HR0.out (ji9) p114 q114
            have hw114_3:=hx114_3;have hw114_2:=hx114_2;have hw114_1:=hx114_1;have hw114_0:=hx114_0
            obtain rfl:ad111=ad114:=(by injection e114)
            replace hx114_0:=hB HB hx114_0
            replace hx114_1:=hB HB hx114_1
            replace hx114_2:=hB HB hx114_2
            replace hx114_3:=hB HB hx114_3
            replace p114:=eq_true p114;replace q114:=eq_true q114
            refine start_ (n:=27) (S:=fun w'=>w'.cell? ⟨gb112,0,none⟩=some (.int .i64 ((rd_T24 l0 x10_1).f0))∧w'.cell? ⟨gb112,1,none⟩=some (.int .i64 ((rd_T24 l0 x10_1).f1))∧w'.cell? ⟨gb112,2,none⟩=some (.int .i64 ((rd_T24 l0 x10_1).f2))∧w'.cell? ⟨gb112,3,none⟩=some (.bool ((rd_T24 l0 x10_1).f3))∧w'.cell? (ad111.add (((ji9)).toNat*4))=some (.int .i64 ((rd_T24 l0 (ji9)).f0))∧w'.cell? ⟨(ad111.add (((ji9)).toNat*4)).block,(ad111.add (((ji9)).toNat*4)).off+1,none⟩=some (.int .i64 ((rd_T24 l0 (ji9)).f1))∧w'.cell? ⟨(ad111.add (((ji9)).toNat*4)).block,(ad111.add (((ji9)).toNat*4)).off+2,none⟩=some (.int .i64 ((rd_T24 l0 (ji9)).f2))∧w'.cell? ⟨(ad111.add (((ji9)).toNat*4)).block,(ad111.add (((ji9)).toNat*4)).off+3,none⟩=some (.bool ((rd_T24 l0 (ji9)).f3))) (ds:=[]) _ (by kernel_rfl) rfl rfl ⟨kc BK112 0,kc BK112 1,kc BK112 2,kc BK112 3,(hB HB hw114_0),(hB HB hw114_1),(hB HB hw114_2),(hB HB hw114_3)⟩ (fun hHeld=>?_);refine with_tabW extent_Check.tab6 extent_Check.bits6 (fun HT_ HW_=>?_)
            generalize w16.drew=w17 at BK112 HB hx114_0 hx114_1 hx114_2 hx114_3 hHeld ⊢
            refine tS 0 15 HT_ HW_ hHeld ?_ (hy:=by rintro w' ⟨s0,s1,s2,s3,s4,s5,s6,s7⟩;go_simp;with_reducible rfl)
            refine oS 1 (some 16) HT_ (fun K hK=>?_)
            refine gS Try.func34 #[.agg #[.int .i64 ((rd_T24 l0 x10_1).f0),.int .i64 ((rd_T24 l0 x10_1).f1),.int .i64 ((rd_T24 l0 x10_1).f2),.bool ((rd_T24 l0 x10_1).f3)]] ?_
            with_reducible refine (extent_may.calls ((rd_T24 l0 x10_1).f0) ((rd_T24 l0 x10_1).f1) ((rd_T24 l0 x10_1).f2) ((rd_T24 l0 x10_1).f3) true _ A6.out).mono ?_
            rintro e w18 ⟨rfl,hb⟩
            refine ⟨_,rfl,?_⟩
            have n0_:=am (blk_below (g:=gb112) (o:=.cells #[.int .i64 ((rd_T24 l0 x10_1).f0),.int .i64 ((rd_T24 l0 x10_1).f1),.int .i64 ((rd_T24 l0 x10_1).f2),.bool ((rd_T24 l0 x10_1).f3)] 24 (0,0)) (rK BK112) hb)
            have n1_:=am (below_step (bxs HB GE112) hb)
            clear BK112;clear HB;have BK112:=n0_;have HB:=n1_;clear n0_ n1_
            (try clear hb)
            (try clear hb2)
            (try clear hk)
            (try clear hi)
            refine hK.out _ _ ⟨kc BK112 0,kc BK112 1,kc BK112 2,kc BK112 3,(hB HB hw114_0),(hB HB hw114_1),(hB HB hw114_2),(hB HB hw114_3)⟩ (fun hHeld=>?_)
            clear hK K;refine norm_ (a':=?_) ?_ ?_;rotate_left
            ·show Act.put _ (some 16) _=_
             simp only [Act.put,sIb,sC0,sCs,i64_w,i32_w];rfl
            refine pS 2 17 HT_ ?_;refine pS 3 18 HT_ ?_;refine pS 4 19 HT_ ?_;refine pS 5 20 HT_ ?_;refine pS 6 21 HT_ ?_;refine pS 7 22 HT_ ?_;refine pS 9 24 HT_ ?_;refine pS 10 25 HT_ ?_;refine pS 11 26 HT_ ?_;refine pS 12 27 HT_ ?_;refine tS 8 23 HT_ HW_ hHeld ?_ (hy:=by rintro w' ⟨s0,s1,s2,s3,s4,s5,s6,s7⟩;go_simp;with_reducible rfl);refine tS 13 28 HT_ HW_ hHeld ?_ (hy:=by rintro w' ⟨s0,s1,s2,s3,s4,s5,s6,s7⟩;go_simp;with_reducible rfl)
            refine oS 14 (some 29) HT_ (fun K hK=>?_)
            refine goes_ Try.func35 (by kernel_rfl) rfl #[.agg #[.int .i64 ((rd_T24 l0 (ji9)).f0),.int .i64 ((rd_T24 l0 (ji9)).f1),.int .i64 ((rd_T24 l0 (ji9)).f2),.bool ((rd_T24 l0 (ji9)).f3)]] (by rfl) rfl rfl (by (try simp only [List.map_toArray,List.map_cons,List.map_nil]);first|done|(simp only [hji9];rfl)|rfl|(simp only [List.length_drop,List.length_take];rfl)) ?_
            with_reducible refine (extent_end.calls ((rd_T24 l0 (ji9)).f0) ((rd_T24 l0 (ji9)).f1) ((rd_T24 l0 (ji9)).f2) ((rd_T24 l0 (ji9)).f3) t115 _ A12.out).mono ?_
            rintro e w19 ⟨rfl,hb⟩
            refine ⟨_,rfl,?_⟩
            have n0_:=am (blk_below (g:=gb112) (o:=.cells #[.int .i64 ((rd_T24 l0 x10_1).f0),.int .i64 ((rd_T24 l0 x10_1).f1),.int .i64 ((rd_T24 l0 x10_1).f2),.bool ((rd_T24 l0 x10_1).f3)] 24 (0,0)) (rK BK112) hb)
            have n1_:=am (below_step (bxs HB GE112) hb)
            clear BK112;clear HB;have BK112:=n0_;have HB:=n1_;clear n0_ n1_
            (try clear hb)
            (try clear hb2)
            (try clear hk)
            (try clear hi)
            refine hK.out _ _ ⟨kc BK112 0,kc BK112 1,kc BK112 2,kc BK112 3,(hB HB hw114_0),(hB HB hw114_1),(hB HB hw114_2),(hB HB hw114_3)⟩ (fun hHeld=>?_)
            clear hK K;refine norm_ (a':=?_) ?_ ?_;rotate_left
            ·show Act.put _ (some 29) _=_
             simp only [Act.put,sIb,sC0,sCs,i64_w,i32_w];rfl
            refine pS 15 30 HT_ ?_;refine pS 16 31 HT_ ?_;refine uS 17 32 HT_ ?_;refine uS 18 33 HT_ ?_;refine uS 19 34 HT_ ?_;refine uS 20 35 HT_ ?_;refine uS 21 36 HT_ ?_;refine uS 22 37 HT_ ?_;refine uS 23 38 HT_ ?_;refine pS 24 39 HT_ ?_;refine pS 25 40 HT_ ?_;refine pS 26 41 HT_ ?_
            refine done_ (done_of HT_.out (by kernel_rfl)) ?_
            try go_wp2
            go_ret
            exact ⟨by first|rfl|(simp [errW_none,errW_some]<;>rfl)|(simp only [← hji9];first|rfl|(simp [errW_none,errW_some]<;>rfl))|(simp [*,errW_none,errW_some]<;>rfl),bxs HB GE112⟩
           ·rw [if_neg c13] at H
            have c13b0:decide (((rd_T24 l0 x10_1).f0) < t115)=false:=decide_eq_false c13
            clear c13
            replace H:=Option.bind_eq_some_iff.mp H
            obtain ⟨t117,A200,H⟩:=H
            replace H:(if t117=true then (some 1) else (extent_Check.l0 k1 l0 l0 (l0.length:Int) (wrap64 (x10_1+1))))=some r:=H
            have A20:=am A200
            clear A200
            by_cases c21:t117=true
            ·subst c21
             have H1:(some 1)=some r:=by rw [if_pos rfl] at H;exact H
             clear H;have H:=H1;clear H1;obtain rfl:=Option.some.inj H
             have p111:0≤(x10_1:Int):=od
             have q111:x10_1 < (l0.length:Int):=od
             obtain ⟨ad111,e111,hx111_0,hx111_1,hx111_2,hx111_3⟩:=at_T24 HR0.out x10_1 p111 q111
             cases e111
             replace hx111_0:=hB HB hx111_0
             replace hx111_1:=hB HB hx111_1
             replace hx111_2:=hB HB hx111_2
             replace hx111_3:=hB HB hx111_3
             replace p111:=eq_true p111;replace q111:=eq_true q111
             try go_wp2_with (first|((with_reducible refine gate_dst (N:=4) rfl ?_);refine box_event ?hg (N:=4) ?hd (cs:=#[.int .i64 0,.int .i64 0,.int .i64 0,.bool false]) (t:=24) ?hr ?_;(case hd=>rfl);(case hg=>rfl);(case hr=>first|(go_simp;done)|(go_simp;rfl));intro gb112 hg w22 hbox hb;have n0_:=bst HB hb;have n1_:=am (hbox);have n2_:=am ((gz hg HB));have n3_:=am ((gz hg HB));clear HB;have HB:=n0_;have BK112:=n1_;have GW112:=n2_;have GE112:=n3_;clear n0_ n1_ n2_ n3_;clear hb hbox hg;have hcz23_0:w22.cell? ⟨gb112,0,none⟩=some (.int .i64 0):=kc BK112 0;have hcz23_1:w22.cell? ⟨gb112,1,none⟩=some (.int .i64 0):=kc BK112 1;have hcz23_2:w22.cell? ⟨gb112,2,none⟩=some (.int .i64 0):=kc BK112 2;have hcz23_3:w22.cell? ⟨gb112,3,none⟩=some (.bool false):=kc BK112 3;have hfz23_0:=blk_frozen BK112.out 0;have hfz23_1:=blk_frozen BK112.out 1;have hfz23_2:=blk_frozen BK112.out 2;have hfz23_3:=blk_frozen BK112.out 3))
             have n0_:Aside0 (((((w22.setCell ⟨gb112,0,none⟩ (.int .i64 ((rd_T24 l0 x10_1).f0))).setCell ⟨gb112,1,none⟩ (.int .i64 ((rd_T24 l0 x10_1).f1))).setCell ⟨gb112,2,none⟩ (.int .i64 ((rd_T24 l0 x10_1).f2))).setCell ⟨gb112,3,none⟩ (.bool ((rd_T24 l0 x10_1).f3))).heap[gb112]? = some (.cells #[.int .i64 ((rd_T24 l0 x10_1).f0),.int .i64 ((rd_T24 l0 x10_1).f1),.int .i64 ((rd_T24 l0 x10_1).f2),.bool ((rd_T24 l0 x10_1).f3)] 24 (0,0))):=⟨by (with_reducible repeat (first|refine blk_drewN ?_ _|refine blk_drew ?_|refine blk_alloc ?_ _));refine blk_put (cs:=#[.int .i64 ((rd_T24 l0 x10_1).f0),.int .i64 ((rd_T24 l0 x10_1).f1),.int .i64 ((rd_T24 l0 x10_1).f2),.bool false]) ?_ 3 _ rfl;(with_reducible repeat (first|refine blk_drewN ?_ _|refine blk_drew ?_|refine blk_alloc ?_ _));refine blk_put (cs:=#[.int .i64 ((rd_T24 l0 x10_1).f0),.int .i64 ((rd_T24 l0 x10_1).f1),.int .i64 0,.bool false]) ?_ 2 _ rfl;(with_reducible repeat (first|refine blk_drewN ?_ _|refine blk_drew ?_|refine blk_alloc ?_ _));refine blk_put (cs:=#[.int .i64 ((rd_T24 l0 x10_1).f0),.int .i64 0,.int .i64 0,.bool false]) ?_ 1 _ rfl;(with_reducible repeat (first|refine blk_drewN ?_ _|refine blk_drew ?_|refine blk_alloc ?_ _));refine blk_put (cs:=#[.int .i64 0,.int .i64 0,.int .i64 0,.bool false]) ?_ 0 _ rfl;(with_reducible repeat (first|refine blk_drewN ?_ _|refine blk_drew ?_|refine blk_alloc ?_ _));exact BK112.out⟩
             have n1_:Aside0 (Below w.heap.size w ((((w22.setCell ⟨gb112,0,none⟩ (.int .i64 ((rd_T24 l0 x10_1).f0))).setCell ⟨gb112,1,none⟩ (.int .i64 ((rd_T24 l0 x10_1).f1))).setCell ⟨gb112,2,none⟩ (.int .i64 ((rd_T24 l0 x10_1).f2))).setCell ⟨gb112,3,none⟩ (.bool ((rd_T24 l0 x10_1).f3)))):=⟨bxs HB GE112⟩
             (try clear BK112)
             (try clear HB)
             generalize ((((w22.setCell ⟨gb112,0,none⟩ (.int .i64 ((rd_T24 l0 x10_1).f0))).setCell ⟨gb112,1,none⟩ (.int .i64 ((rd_T24 l0 x10_1).f1))).setCell ⟨gb112,2,none⟩ (.int .i64 ((rd_T24 l0 x10_1).f2))).setCell ⟨gb112,3,none⟩ (.bool ((rd_T24 l0 x10_1).f3)))=w24 at n0_ n1_ ⊢
             have BK112:=n0_;have HB:=n1_;clear n0_ n1_
             have n0_:=am (blk_drew BK112.out)
             have n1_:=am (below_drew1 HB.out)
             clear BK112;clear HB;have BK112:=n0_;have HB:=n1_;clear n0_ n1_
             have p114:0≤((ji9):Int):=od
             have q114:(ji9) < (l0.length:Int):=od
             obtain ⟨ad114,e114,hx114_0,hx114_1,hx114_2,hx114_3⟩:=at_T24 HR0.out (ji9) p114 q114
             have hw114_3:=hx114_3;have hw114_2:=hx114_2;have hw114_1:=hx114_1;have hw114_0:=hx114_0
             obtain rfl:ad111=ad114:=(by injection e114)
             replace hx114_0:=hB HB hx114_0
             replace hx114_1:=hB HB hx114_1
             replace hx114_2:=hB HB hx114_2
             replace hx114_3:=hB HB hx114_3
             replace p114:=eq_true p114;replace q114:=eq_true q114
             have p116:0≤((ji9):Int):=od
             have q116:(ji9) < (l0.length:Int):=od
             obtain ⟨ad116,e116,hx116_0,hx116_1,hx116_2,hx116_3⟩:=at_T24 HR0.out (ji9) p116 q116
             have hw116_3:=hx116_3;have hw116_2:=hx116_2;have hw116_1:=hx116_1;have hw116_0:=hx116_0
             obtain rfl:ad111=ad116:=(by injection e116)
             replace hx116_0:=hB HB hx116_0
             replace hx116_1:=hB HB hx116_1
             replace hx116_2:=hB HB hx116_2
             replace hx116_3:=hB HB hx116_3
             replace p116:=eq_true p116;replace q116:=eq_true q116
             refine start_ (n:=27) (S:=fun w'=>w'.cell? ⟨gb112,0,none⟩=some (.int .i64 ((rd_T24 l0 x10_1).f0))∧w'.cell? ⟨gb112,1,none⟩=some (.int .i64 ((rd_T24 l0 x10_1).f1))∧w'.cell? ⟨gb112,2,none⟩=some (.int .i64 ((rd_T24 l0 x10_1).f2))∧w'.cell? ⟨gb112,3,none⟩=some (.bool ((rd_T24 l0 x10_1).f3))∧w'.cell? (ad111.add (((ji9)).toNat*4))=some (.int .i64 ((rd_T24 l0 (ji9)).f0))∧w'.cell? ⟨(ad111.add (((ji9)).toNat*4)).block,(ad111.add (((ji9)).toNat*4)).off+1,none⟩=some (.int .i64 ((rd_T24 l0 (ji9)).f1))∧w'.cell? ⟨(ad111.add (((ji9)).toNat*4)).block,(ad111.add (((ji9)).toNat*4)).off+2,none⟩=some (.int .i64 ((rd_T24 l0 (ji9)).f2))∧w'.cell? ⟨(ad111.add (((ji9)).toNat*4)).block,(ad111.add (((ji9)).toNat*4)).off+3,none⟩=some (.bool ((rd_T24 l0 (ji9)).f3))∧w'.cell? (ad111.add (((ji9)).toNat*4))=some (.int .i64 ((rd_T24 l0 (ji9)).f0))∧w'.cell? ⟨(ad111.add (((ji9)).toNat*4)).block,(ad111.add (((ji9)).toNat*4)).off+1,none⟩=some (.int .i64 ((rd_T24 l0 (ji9)).f1))∧w'.cell? ⟨(ad111.add (((ji9)).toNat*4)).block,(ad111.add (((ji9)).toNat*4)).off+2,none⟩=some (.int .i64 ((rd_T24 l0 (ji9)).f2))∧w'.cell? ⟨(ad111.add (((ji9)).toNat*4)).block,(ad111.add (((ji9)).toNat*4)).off+3,none⟩=some (.bool ((rd_T24 l0 (ji9)).f3))) (ds:=[]) _ (by kernel_rfl) rfl rfl ⟨kc BK112 0,kc BK112 1,kc BK112 2,kc BK112 3,(hB HB hw114_0),(hB HB hw114_1),(hB HB hw114_2),(hB HB hw114_3),(hB HB hw116_0),(hB HB hw116_1),(hB HB hw116_2),(hB HB hw116_3)⟩ (fun hHeld=>?_);refine with_tabW extent_Check.tab6 extent_Check.bits6 (fun HT_ HW_=>?_)
             generalize w24.drew=w25 at BK112 HB hx114_0 hx114_1 hx114_2 hx114_3 hx116_0 hx116_1 hx116_2 hx116_3 hHeld ⊢
             refine tS 0 15 HT_ HW_ hHeld ?_ (hy:=by rintro w' ⟨s0,s1,s2,s3,s4,s5,s6,s7,s8,s9,s10,s11⟩;go_simp;with_reducible rfl)
             refine oS 1 (some 16) HT_ (fun K hK=>?_)
             refine gS Try.func34 #[.agg #[.int .i64 ((rd_T24 l0 x10_1).f0),.int .i64 ((rd_T24 l0 x10_1).f1),.int .i64 ((rd_T24 l0 x10_1).f2),.bool ((rd_T24 l0 x10_1).f3)]] ?_
             with_reducible refine (extent_may.calls ((rd_T24 l0 x10_1).f0) ((rd_T24 l0 x10_1).f1) ((rd_T24 l0 x10_1).f2) ((rd_T24 l0 x10_1).f3) true _ A6.out).mono ?_
             rintro e w26 ⟨rfl,hb⟩
             refine ⟨_,rfl,?_⟩
             have n0_:=am (blk_below (g:=gb112) (o:=.cells #[.int .i64 ((rd_T24 l0 x10_1).f0),.int .i64 ((rd_T24 l0 x10_1).f1),.int .i64 ((rd_T24 l0 x10_1).f2),.bool ((rd_T24 l0 x10_1).f3)] 24 (0,0)) (rK BK112) hb)
             have n1_:=am (below_step (bxs HB GE112) hb)
             clear BK112;clear HB;have BK112:=n0_;have HB:=n1_;clear n0_ n1_
             (try clear hb)
             (try clear hb2)
             (try clear hk)
             (try clear hi)
             refine hK.out _ _ ⟨kc BK112 0,kc BK112 1,kc BK112 2,kc BK112 3,(hB HB hw114_0),(hB HB hw114_1),(hB HB hw114_2),(hB HB hw114_3),(hB HB hw116_0),(hB HB hw116_1),(hB HB hw116_2),(hB HB hw116_3)⟩ (fun hHeld=>?_)
             clear hK K;refine norm_ (a':=?_) ?_ ?_;rotate_left
             ·show Act.put _ (some 16) _=_
              simp only [Act.put,sIb,sC0,sCs,i64_w,i32_w];rfl
             refine pS 2 17 HT_ ?_;refine pS 3 18 HT_ ?_;refine pS 4 19 HT_ ?_;refine pS 5 20 HT_ ?_;refine pS 6 21 HT_ ?_;refine pS 7 22 HT_ ?_;refine pS 9 24 HT_ ?_;refine pS 10 25 HT_ ?_;refine pS 11 26 HT_ ?_;refine pS 12 27 HT_ ?_;refine tS 8 23 HT_ HW_ hHeld ?_ (hy:=by rintro w' ⟨s0,s1,s2,s3,s4,s5,s6,s7,s8,s9,s10,s11⟩;go_simp;with_reducible rfl);refine tS 13 28 HT_ HW_ hHeld ?_ (hy:=by rintro w' ⟨s0,s1,s2,s3,s4,s5,s6,s7,s8,s9,s10,s11⟩;go_simp;with_reducible rfl)
             refine oS 14 (some 29) HT_ (fun K hK=>?_)
             refine goes_ Try.func35 (by kernel_rfl) rfl #[.agg #[.int .i64 ((rd_T24 l0 (ji9)).f0),.int .i64 ((rd_T24 l0 (ji9)).f1),.int .i64 ((rd_T24 l0 (ji9)).f2),.bool ((rd_T24 l0 (ji9)).f3)]] (by rfl) rfl rfl (by (try simp only [List.map_toArray,List.map_cons,List.map_nil]);first|done|(simp only [hji9];rfl)|rfl|(simp only [List.length_drop,List.length_take];rfl)) ?_
             with_reducible refine (extent_end.calls ((rd_T24 l0 (ji9)).f0) ((rd_T24 l0 (ji9)).f1) ((rd_T24 l0 (ji9)).f2) ((rd_T24 l0 (ji9)).f3) t115 _ A12.out).mono ?_
             rintro e w27 ⟨rfl,hb⟩
             refine ⟨_,rfl,?_⟩
             have n0_:=am (blk_below (g:=gb112) (o:=.cells #[.int .i64 ((rd_T24 l0 x10_1).f0),.int .i64 ((rd_T24 l0 x10_1).f1),.int .i64 ((rd_T24 l0 x10_1).f2),.bool ((rd_T24 l0 x10_1).f3)] 24 (0,0)) (rK BK112) hb)
             have n1_:=am (below_step (bxs HB GE112) hb)
             clear BK112;clear HB;have BK112:=n0_;have HB:=n1_;clear n0_ n1_
             (try clear hb)
             (try clear hb2)
             (try clear hk)
             (try clear hi)
             refine hK.out _ _ ⟨kc BK112 0,kc BK112 1,kc BK112 2,kc BK112 3,(hB HB hw114_0),(hB HB hw114_1),(hB HB hw114_2),(hB HB hw114_3),(hB HB hw116_0),(hB HB hw116_1),(hB HB hw116_2),(hB HB hw116_3)⟩ (fun hHeld=>?_)
             clear hK K;refine norm_ (a':=?_) ?_ ?_;rotate_left
             ·show Act.put _ (some 29) _=_
              simp only [Act.put,sIb,sC0,sCs,i64_w,i32_w];rfl
             refine pS 15 30 HT_ ?_;refine pS 16 31 HT_ ?_;refine pS 17 32 HT_ ?_;refine pS 18 33 HT_ ?_;refine pS 19 34 HT_ ?_;refine pS 20 35 HT_ ?_;refine tS 21 36 HT_ HW_ hHeld ?_ (hy:=by rintro w' ⟨s0,s1,s2,s3,s4,s5,s6,s7,s8,s9,s10,s11⟩;go_simp;with_reducible rfl);refine tS 22 37 HT_ HW_ hHeld ?_ (hy:=by rintro w' ⟨s0,s1,s2,s3,s4,s5,s6,s7,s8,s9,s10,s11⟩;go_simp;with_reducible rfl)
             refine oS 23 (some 38) HT_ (fun K hK=>?_)
             refine goes_ Try.func36 (by kernel_rfl) rfl #[.agg #[.int .i64 ((rd_T24 l0 (ji9)).f0),.int .i64 ((rd_T24 l0 (ji9)).f1),.int .i64 ((rd_T24 l0 (ji9)).f2),.bool ((rd_T24 l0 (ji9)).f3)],.agg #[.int .i64 ((rd_T24 l0 x10_1).f0),.int .i64 ((rd_T24 l0 x10_1).f1),.int .i64 ((rd_T24 l0 x10_1).f2),.bool ((rd_T24 l0 x10_1).f3)]] (by rfl) rfl rfl (by (try simp only [List.map_toArray,List.map_cons,List.map_nil]);first|done|(simp only [hji9];rfl)|rfl|(simp only [List.length_drop,List.length_take];rfl)) ?_
             with_reducible refine (extent_goes.calls ((rd_T24 l0 (ji9)).f0) ((rd_T24 l0 (ji9)).f1) ((rd_T24 l0 (ji9)).f2) ((rd_T24 l0 (ji9)).f3) ((rd_T24 l0 x10_1).f0) ((rd_T24 l0 x10_1).f1) ((rd_T24 l0 x10_1).f2) ((rd_T24 l0 x10_1).f3) true _ A20.out).mono ?_
             rintro e w28 ⟨rfl,hb⟩
             refine ⟨_,rfl,?_⟩
             have n0_:=am (blk_below (g:=gb112) (o:=.cells #[.int .i64 ((rd_T24 l0 x10_1).f0),.int .i64 ((rd_T24 l0 x10_1).f1),.int .i64 ((rd_T24 l0 x10_1).f2),.bool ((rd_T24 l0 x10_1).f3)] 24 (0,0)) (rK BK112) hb)
             have n1_:=am (below_step (bxs HB GE112) hb)
             clear BK112;clear HB;have BK112:=n0_;have HB:=n1_;clear n0_ n1_
             (try clear hb)
             (try clear hb2)
             (try clear hk)
             (try clear hi)
             refine hK.out _ _ ⟨kc BK112 0,kc BK112 1,kc BK112 2,kc BK112 3,(hB HB hw114_0),(hB HB hw114_1),(hB HB hw114_2),(hB HB hw114_3),(hB HB hw116_0),(hB HB hw116_1),(hB HB hw116_2),(hB HB hw116_3)⟩ (fun hHeld=>?_)
             clear hK K;refine norm_ (a':=?_) ?_ ?_;rotate_left
             ·show Act.put _ (some 38) _=_
              simp only [Act.put,sIb,sC0,sCs,i64_w,i32_w];rfl
             refine pS 24 39 HT_ ?_;refine pS 25 40 HT_ ?_;refine pS 26 41 HT_ ?_
             refine done_ (done_of HT_.out (by kernel_rfl)) ?_
             try go_wp2
             go_ret
             exact ⟨by first|rfl|(simp [errW_none,errW_some]<;>rfl)|(simp only [← hji9];first|rfl|(simp [errW_none,errW_some]<;>rfl))|(simp [*,errW_none,errW_some]<;>rfl),bxs HB GE112⟩
            ·replace c21:=Bool.eq_false_iff.mpr c21
             subst c21
             have H1:(extent_Check.l0 k1 l0 l0 (l0.length:Int) (wrap64 (x10_1+1)))=some r:=by rw [if_neg (show ¬ (false=true) by decide)] at H;exact H
             clear H;have H:=H1;clear H1
             have H':=am H
             clear H
             have p111:0≤(x10_1:Int):=od
             have q111:x10_1 < (l0.length:Int):=od
             obtain ⟨ad111,e111,hx111_0,hx111_1,hx111_2,hx111_3⟩:=at_T24 HR0.out x10_1 p111 q111
             cases e111
             replace hx111_0:=hB HB hx111_0
             replace hx111_1:=hB HB hx111_1
             replace hx111_2:=hB HB hx111_2
             replace hx111_3:=hB HB hx111_3
             replace p111:=eq_true p111;replace q111:=eq_true q111
             try go_wp2_with (first|((with_reducible refine gate_dst (N:=4) rfl ?_);refine box_event ?hg (N:=4) ?hd (cs:=#[.int .i64 0,.int .i64 0,.int .i64 0,.bool false]) (t:=24) ?hr ?_;(case hd=>rfl);(case hg=>rfl);(case hr=>first|(go_simp;done)|(go_simp;rfl));intro gb112 hg w29 hbox hb;have n0_:=bst HB hb;have n1_:=am (hbox);have n2_:=am ((gz hg HB));have n3_:=am ((gz hg HB));clear HB;have HB:=n0_;have BK112:=n1_;have GW112:=n2_;have GE112:=n3_;clear n0_ n1_ n2_ n3_;clear hb hbox hg;have hcz30_0:w29.cell? ⟨gb112,0,none⟩=some (.int .i64 0):=kc BK112 0;have hcz30_1:w29.cell? ⟨gb112,1,none⟩=some (.int .i64 0):=kc BK112 1;have hcz30_2:w29.cell? ⟨gb112,2,none⟩=some (.int .i64 0):=kc BK112 2;have hcz30_3:w29.cell? ⟨gb112,3,none⟩=some (.bool false):=kc BK112 3;have hfz30_0:=blk_frozen BK112.out 0;have hfz30_1:=blk_frozen BK112.out 1;have hfz30_2:=blk_frozen BK112.out 2;have hfz30_3:=blk_frozen BK112.out 3))
             have n0_:Aside0 (((((w29.setCell ⟨gb112,0,none⟩ (.int .i64 ((rd_T24 l0 x10_1).f0))).setCell ⟨gb112,1,none⟩ (.int .i64 ((rd_T24 l0 x10_1).f1))).setCell ⟨gb112,2,none⟩ (.int .i64 ((rd_T24 l0 x10_1).f2))).setCell ⟨gb112,3,none⟩ (.bool ((rd_T24 l0 x10_1).f3))).heap[gb112]? = some (.cells #[.int .i64 ((rd_T24 l0 x10_1).f0),.int .i64 ((rd_T24 l0 x10_1).f1),.int .i64 ((rd_T24 l0 x10_1).f2),.bool ((rd_T24 l0 x10_1).f3)] 24 (0,0))):=⟨by (with_reducible repeat (first|refine blk_drewN ?_ _|refine blk_drew ?_|refine blk_alloc ?_ _));refine blk_put (cs:=#[.int .i64 ((rd_T24 l0 x10_1).f0),.int .i64 ((rd_T24 l0 x10_1).f1),.int .i64 ((rd_T24 l0 x10_1).f2),.bool false]) ?_ 3 _ rfl;(with_reducible repeat (first|refine blk_drewN ?_ _|refine blk_drew ?_|refine blk_alloc ?_ _));refine blk_put (cs:=#[.int .i64 ((rd_T24 l0 x10_1).f0),.int .i64 ((rd_T24 l0 x10_1).f1),.int .i64 0,.bool false]) ?_ 2 _ rfl;(with_reducible repeat (first|refine blk_drewN ?_ _|refine blk_drew ?_|refine blk_alloc ?_ _));refine blk_put (cs:=#[.int .i64 ((rd_T24 l0 x10_1).f0),.int .i64 0,.int .i64 0,.bool false]) ?_ 1 _ rfl;(with_reducible repeat (first|refine blk_drewN ?_ _|refine blk_drew ?_|refine blk_alloc ?_ _));refine blk_put (cs:=#[.int .i64 0,.int .i64 0,.int .i64 0,.bool false]) ?_ 0 _ rfl;(with_reducible repeat (first|refine blk_drewN ?_ _|refine blk_drew ?_|refine blk_alloc ?_ _));exact BK112.out⟩
             have n1_:Aside0 (Below w.heap.size w ((((w29.setCell ⟨gb112,0,none⟩ (.int .i64 ((rd_T24 l0 x10_1).f0))).setCell ⟨gb112,1,none⟩ (.int .i64 ((rd_T24 l0 x10_1).f1))).setCell ⟨gb112,2,none⟩ (.int .i64 ((rd_T24 l0 x10_1).f2))).setCell ⟨gb112,3,none⟩ (.bool ((rd_T24 l0 x10_1).f3)))):=⟨bxs HB GE112⟩
             (try clear BK112)
             (try clear HB)
             generalize ((((w29.setCell ⟨gb112,0,none⟩ (.int .i64 ((rd_T24 l0 x10_1).f0))).setCell ⟨gb112,1,none⟩ (.int .i64 ((rd_T24 l0 x10_1).f1))).setCell ⟨gb112,2,none⟩ (.int .i64 ((rd_T24 l0 x10_1).f2))).setCell ⟨gb112,3,none⟩ (.bool ((rd_T24 l0 x10_1).f3)))=w31 at n0_ n1_ ⊢
             have BK112:=n0_;have HB:=n1_;clear n0_ n1_
             have n0_:=am (blk_drew BK112.out)
             have n1_:=am (below_drew1 HB.out)
             clear BK112;clear HB;have BK112:=n0_;have HB:=n1_;clear n0_ n1_
             have p114:0≤((ji9):Int):=od
             have q114:(ji9) < (l0.length:Int):=od
             obtain ⟨ad114,e114,hx114_0,hx114_1,hx114_2,hx114_3⟩:=at_T24 HR0.out (ji9) p114 q114
             have hw114_3:=hx114_3;have hw114_2:=hx114_2;have hw114_1:=hx114_1;have hw114_0:=hx114_0
             obtain rfl:ad111=ad114:=(by injection e114)
             replace hx114_0:=hB HB hx114_0
             replace hx114_1:=hB HB hx114_1
             replace hx114_2:=hB HB hx114_2
             replace hx114_3:=hB HB hx114_3
             replace p114:=eq_true p114;replace q114:=eq_true q114
             have p116:0≤((ji9):Int):=od
             have q116:(ji9) < (l0.length:Int):=od
             obtain ⟨ad116,e116,hx116_0,hx116_1,hx116_2,hx116_3⟩:=at_T24 HR0.out (ji9) p116 q116
             have hw116_3:=hx116_3;have hw116_2:=hx116_2;have hw116_1:=hx116_1;have hw116_0:=hx116_0
             obtain rfl:ad111=ad116:=(by injection e116)
             replace hx116_0:=hB HB hx116_0
             replace hx116_1:=hB HB hx116_1
             replace hx116_2:=hB HB hx116_2
             replace hx116_3:=hB HB hx116_3
             replace p116:=eq_true p116;replace q116:=eq_true q116
             refine start_ (n:=27) (S:=fun w'=>w'.cell? ⟨gb112,0,none⟩=some (.int .i64 ((rd_T24 l0 x10_1).f0))∧w'.cell? ⟨gb112,1,none⟩=some (.int .i64 ((rd_T24 l0 x10_1).f1))∧w'.cell? ⟨gb112,2,none⟩=some (.int .i64 ((rd_T24 l0 x10_1).f2))∧w'.cell? ⟨gb112,3,none⟩=some (.bool ((rd_T24 l0 x10_1).f3))∧w'.cell? (ad111.add (((ji9)).toNat*4))=some (.int .i64 ((rd_T24 l0 (ji9)).f0))∧w'.cell? ⟨(ad111.add (((ji9)).toNat*4)).block,(ad111.add (((ji9)).toNat*4)).off+1,none⟩=some (.int .i64 ((rd_T24 l0 (ji9)).f1))∧w'.cell? ⟨(ad111.add (((ji9)).toNat*4)).block,(ad111.add (((ji9)).toNat*4)).off+2,none⟩=some (.int .i64 ((rd_T24 l0 (ji9)).f2))∧w'.cell? ⟨(ad111.add (((ji9)).toNat*4)).block,(ad111.add (((ji9)).toNat*4)).off+3,none⟩=some (.bool ((rd_T24 l0 (ji9)).f3))∧w'.cell? (ad111.add (((ji9)).toNat*4))=some (.int .i64 ((rd_T24 l0 (ji9)).f0))∧w'.cell? ⟨(ad111.add (((ji9)).toNat*4)).block,(ad111.add (((ji9)).toNat*4)).off+1,none⟩=some (.int .i64 ((rd_T24 l0 (ji9)).f1))∧w'.cell? ⟨(ad111.add (((ji9)).toNat*4)).block,(ad111.add (((ji9)).toNat*4)).off+2,none⟩=some (.int .i64 ((rd_T24 l0 (ji9)).f2))∧w'.cell? ⟨(ad111.add (((ji9)).toNat*4)).block,(ad111.add (((ji9)).toNat*4)).off+3,none⟩=some (.bool ((rd_T24 l0 (ji9)).f3))) (ds:=[]) _ (by kernel_rfl) rfl rfl ⟨kc BK112 0,kc BK112 1,kc BK112 2,kc BK112 3,(hB HB hw114_0),(hB HB hw114_1),(hB HB hw114_2),(hB HB hw114_3),(hB HB hw116_0),(hB HB hw116_1),(hB HB hw116_2),(hB HB hw116_3)⟩ (fun hHeld=>?_);refine with_tabW extent_Check.tab6 extent_Check.bits6 (fun HT_ HW_=>?_)
             generalize w31.drew=w32 at BK112 HB hx114_0 hx114_1 hx114_2 hx114_3 hx116_0 hx116_1 hx116_2 hx116_3 hHeld ⊢
             refine tS 0 15 HT_ HW_ hHeld ?_ (hy:=by rintro w' ⟨s0,s1,s2,s3,s4,s5,s6,s7,s8,s9,s10,s11⟩;go_simp;with_reducible rfl)
             refine oS 1 (some 16) HT_ (fun K hK=>?_)
             refine gS Try.func34 #[.agg #[.int .i64 ((rd_T24 l0 x10_1).f0),.int .i64 ((rd_T24 l0 x10_1).f1),.int .i64 ((rd_T24 l0 x10_1).f2),.bool ((rd_T24 l0 x10_1).f3)]] ?_
             with_reducible refine (extent_may.calls ((rd_T24 l0 x10_1).f0) ((rd_T24 l0 x10_1).f1) ((rd_T24 l0 x10_1).f2) ((rd_T24 l0 x10_1).f3) true _ A6.out).mono ?_
             rintro e w33 ⟨rfl,hb⟩
             refine ⟨_,rfl,?_⟩
             have n0_:=am (blk_below (g:=gb112) (o:=.cells #[.int .i64 ((rd_T24 l0 x10_1).f0),.int .i64 ((rd_T24 l0 x10_1).f1),.int .i64 ((rd_T24 l0 x10_1).f2),.bool ((rd_T24 l0 x10_1).f3)] 24 (0,0)) (rK BK112) hb)
             have n1_:=am (below_step (bxs HB GE112) hb)
             clear BK112;clear HB;have BK112:=n0_;have HB:=n1_;clear n0_ n1_
             (try clear hb)
             (try clear hb2)
             (try clear hk)
             (try clear hi)
             refine hK.out _ _ ⟨kc BK112 0,kc BK112 1,kc BK112 2,kc BK112 3,(hB HB hw114_0),(hB HB hw114_1),(hB HB hw114_2),(hB HB hw114_3),(hB HB hw116_0),(hB HB hw116_1),(hB HB hw116_2),(hB HB hw116_3)⟩ (fun hHeld=>?_)
             clear hK K;refine norm_ (a':=?_) ?_ ?_;rotate_left
             ·show Act.put _ (some 16) _=_
              simp only [Act.put,sIb,sC0,sCs,i64_w,i32_w];rfl
             refine pS 2 17 HT_ ?_;refine pS 3 18 HT_ ?_;refine pS 4 19 HT_ ?_;refine pS 5 20 HT_ ?_;refine pS 6 21 HT_ ?_;refine pS 7 22 HT_ ?_;refine pS 9 24 HT_ ?_;refine pS 10 25 HT_ ?_;refine pS 11 26 HT_ ?_;refine pS 12 27 HT_ ?_;refine tS 8 23 HT_ HW_ hHeld ?_ (hy:=by rintro w' ⟨s0,s1,s2,s3,s4,s5,s6,s7,s8,s9,s10,s11⟩;go_simp;with_reducible rfl);refine tS 13 28 HT_ HW_ hHeld ?_ (hy:=by rintro w' ⟨s0,s1,s2,s3,s4,s5,s6,s7,s8,s9,s10,s11⟩;go_simp;with_reducible rfl)
             refine oS 14 (some 29) HT_ (fun K hK=>?_)
             refine goes_ Try.func35 (by kernel_rfl) rfl #[.agg #[.int .i64 ((rd_T24 l0 (ji9)).f0),.int .i64 ((rd_T24 l0 (ji9)).f1),.int .i64 ((rd_T24 l0 (ji9)).f2),.bool ((rd_T24 l0 (ji9)).f3)]] (by rfl) rfl rfl (by (try simp only [List.map_toArray,List.map_cons,List.map_nil]);first|done|(simp only [hji9];rfl)|rfl|(simp only [List.length_drop,List.length_take];rfl)) ?_
             with_reducible refine (extent_end.calls ((rd_T24 l0 (ji9)).f0) ((rd_T24 l0 (ji9)).f1) ((rd_T24 l0 (ji9)).f2) ((rd_T24 l0 (ji9)).f3) t115 _ A12.out).mono ?_
             rintro e w34 ⟨rfl,hb⟩
             refine ⟨_,rfl,?_⟩
             have n0_:=am (blk_below (g:=gb112) (o:=.cells #[.int .i64 ((rd_T24 l0 x10_1).f0),.int .i64 ((rd_T24 l0 x10_1).f1),.int .i64 ((rd_T24 l0 x10_1).f2),.bool ((rd_T24 l0 x10_1).f3)] 24 (0,0)) (rK BK112) hb)
             have n1_:=am (below_step (bxs HB GE112) hb)
             clear BK112;clear HB;have BK112:=n0_;have HB:=n1_;clear n0_ n1_
             (try clear hb)
             (try clear hb2)
             (try clear hk)
             (try clear hi)
             refine hK.out _ _ ⟨kc BK112 0,kc BK112 1,kc BK112 2,kc BK112 3,(hB HB hw114_0),(hB HB hw114_1),(hB HB hw114_2),(hB HB hw114_3),(hB HB hw116_0),(hB HB hw116_1),(hB HB hw116_2),(hB HB hw116_3)⟩ (fun hHeld=>?_)
             clear hK K;refine norm_ (a':=?_) ?_ ?_;rotate_left
             ·show Act.put _ (some 29) _=_
              simp only [Act.put,sIb,sC0,sCs,i64_w,i32_w];rfl
             refine pS 15 30 HT_ ?_;refine pS 16 31 HT_ ?_;refine pS 17 32 HT_ ?_;refine pS 18 33 HT_ ?_;refine pS 19 34 HT_ ?_;refine pS 20 35 HT_ ?_;refine tS 21 36 HT_ HW_ hHeld ?_ (hy:=by rintro w' ⟨s0,s1,s2,s3,s4,s5,s6,s7,s8,s9,s10,s11⟩;go_simp;with_reducible rfl);refine tS 22 37 HT_ HW_ hHeld ?_ (hy:=by rintro w' ⟨s0,s1,s2,s3,s4,s5,s6,s7,s8,s9,s10,s11⟩;go_simp;with_reducible rfl)
             refine oS 23 (some 38) HT_ (fun K hK=>?_)
             refine goes_ Try.func36 (by kernel_rfl) rfl #[.agg #[.int .i64 ((rd_T24 l0 (ji9)).f0),.int .i64 ((rd_T24 l0 (ji9)).f1),.int .i64 ((rd_T24 l0 (ji9)).f2),.bool ((rd_T24 l0 (ji9)).f3)],.agg #[.int .i64 ((rd_T24 l0 x10_1).f0),.int .i64 ((rd_T24 l0 x10_1).f1),.int .i64 ((rd_T24 l0 x10_1).f2),.bool ((rd_T24 l0 x10_1).f3)]] (by rfl) rfl rfl (by (try simp only [List.map_toArray,List.map_cons,List.map_nil]);first|done|(simp only [hji9];rfl)|rfl|(simp only [List.length_drop,List.length_take];rfl)) ?_
             with_reducible refine (extent_goes.calls ((rd_T24 l0 (ji9)).f0) ((rd_T24 l0 (ji9)).f1) ((rd_T24 l0 (ji9)).f2) ((rd_T24 l0 (ji9)).f3) ((rd_T24 l0 x10_1).f0) ((rd_T24 l0 x10_1).f1) ((rd_T24 l0 x10_1).f2) ((rd_T24 l0 x10_1).f3) false _ A20.out).mono ?_
             rintro e w35 ⟨rfl,hb⟩
             refine ⟨_,rfl,?_⟩
             have n0_:=am (blk_below (g:=gb112) (o:=.cells #[.int .i64 ((rd_T24 l0 x10_1).f0),.int .i64 ((rd_T24 l0 x10_1).f1),.int .i64 ((rd_T24 l0 x10_1).f2),.bool ((rd_T24 l0 x10_1).f3)] 24 (0,0)) (rK BK112) hb)
             have n1_:=am (below_step (bxs HB GE112) hb)
             clear BK112;clear HB;have BK112:=n0_;have HB:=n1_;clear n0_ n1_
             (try clear hb)
             (try clear hb2)
             (try clear hk)
             (try clear hi)
             refine hK.out _ _ ⟨kc BK112 0,kc BK112 1,kc BK112 2,kc BK112 3,(hB HB hw114_0),(hB HB hw114_1),(hB HB hw114_2),(hB HB hw114_3),(hB HB hw116_0),(hB HB hw116_1),(hB HB hw116_2),(hB HB hw116_3)⟩ (fun hHeld=>?_)
             clear hK K;refine norm_ (a':=?_) ?_ ?_;rotate_left
             ·show Act.put _ (some 38) _=_
              simp only [Act.put,sIb,sC0,sCs,i64_w,i32_w];rfl
             refine pS 24 39 HT_ ?_;refine pS 25 40 HT_ ?_;refine pS 26 41 HT_ ?_
             refine done_ (done_of HT_.out (by kernel_rfl)) ?_
             try go_wp2
             go_roundg k1
             case measure=>have:=HK1.out;omega
             case rel=>exact ⟨(wrap64 (x10_1+1)),(by first|rfl|(simp;done)|(simp [*];done)),H',⟨by have:=HK1.out;omega⟩,⟨bxs HB GE112⟩⟩
          ·rw [if_neg c11] at H
           exact absurd H (by simp)
         ·rw [if_neg c10] at H
          exact absurd H (by simp)
        ·rw [if_neg c8] at H
         have c8b0:decide (0 < x10_1)=false:=decide_eq_false c8
         clear c8
         have H':=am H
         clear H
         have p111:0≤(x10_1:Int):=od
         have q111:x10_1 < (l0.length:Int):=od
         obtain ⟨ad111,e111,hx111_0,hx111_1,hx111_2,hx111_3⟩:=at_T24 HR0.out x10_1 p111 q111
         cases e111
         replace hx111_0:=hB HB hx111_0
         replace hx111_1:=hB HB hx111_1
         replace hx111_2:=hB HB hx111_2
         replace hx111_3:=hB HB hx111_3
         replace p111:=eq_true p111;replace q111:=eq_true q111
         try go_wp2_with (first|((with_reducible refine gate_dst (N:=4) rfl ?_);refine box_event ?hg (N:=4) ?hd (cs:=#[.int .i64 0,.int .i64 0,.int .i64 0,.bool false]) (t:=24) ?hr ?_;(case hd=>rfl);(case hg=>rfl);(case hr=>first|(go_simp;done)|(go_simp;rfl));intro gb112 hg w36 hbox hb;have n0_:=bst HB hb;have n1_:=am (hbox);have n2_:=am ((gz hg HB));have n3_:=am ((gz hg HB));clear HB;have HB:=n0_;have BK112:=n1_;have GW112:=n2_;have GE112:=n3_;clear n0_ n1_ n2_ n3_;clear hb hbox hg;have hcz37_0:w36.cell? ⟨gb112,0,none⟩=some (.int .i64 0):=kc BK112 0;have hcz37_1:w36.cell? ⟨gb112,1,none⟩=some (.int .i64 0):=kc BK112 1;have hcz37_2:w36.cell? ⟨gb112,2,none⟩=some (.int .i64 0):=kc BK112 2;have hcz37_3:w36.cell? ⟨gb112,3,none⟩=some (.bool false):=kc BK112 3;have hfz37_0:=blk_frozen BK112.out 0;have hfz37_1:=blk_frozen BK112.out 1;have hfz37_2:=blk_frozen BK112.out 2;have hfz37_3:=blk_frozen BK112.out 3))
         have n0_:Aside0 (((((w36.setCell ⟨gb112,0,none⟩ (.int .i64 ((rd_T24 l0 x10_1).f0))).setCell ⟨gb112,1,none⟩ (.int .i64 ((rd_T24 l0 x10_1).f1))).setCell ⟨gb112,2,none⟩ (.int .i64 ((rd_T24 l0 x10_1).f2))).setCell ⟨gb112,3,none⟩ (.bool ((rd_T24 l0 x10_1).f3))).heap[gb112]? = some (.cells #[.int .i64 ((rd_T24 l0 x10_1).f0),.int .i64 ((rd_T24 l0 x10_1).f1),.int .i64 ((rd_T24 l0 x10_1).f2),.bool ((rd_T24 l0 x10_1).f3)] 24 (0,0))):=⟨by (with_reducible repeat (first|refine blk_drewN ?_ _|refine blk_drew ?_|refine blk_alloc ?_ _));refine blk_put (cs:=#[.int .i64 ((rd_T24 l0 x10_1).f0),.int .i64 ((rd_T24 l0 x10_1).f1),.int .i64 ((rd_T24 l0 x10_1).f2),.bool false]) ?_ 3 _ rfl;(with_reducible repeat (first|refine blk_drewN ?_ _|refine blk_drew ?_|refine blk_alloc ?_ _));refine blk_put (cs:=#[.int .i64 ((rd_T24 l0 x10_1).f0),.int .i64 ((rd_T24 l0 x10_1).f1),.int .i64 0,.bool false]) ?_ 2 _ rfl;(with_reducible repeat (first|refine blk_drewN ?_ _|refine blk_drew ?_|refine blk_alloc ?_ _));refine blk_put (cs:=#[.int .i64 ((rd_T24 l0 x10_1).f0),.int .i64 0,.int .i64 0,.bool false]) ?_ 1 _ rfl;(with_reducible repeat (first|refine blk_drewN ?_ _|refine blk_drew ?_|refine blk_alloc ?_ _));refine blk_put (cs:=#[.int .i64 0,.int .i64 0,.int .i64 0,.bool false]) ?_ 0 _ rfl;(with_reducible repeat (first|refine blk_drewN ?_ _|refine blk_drew ?_|refine blk_alloc ?_ _));exact BK112.out⟩
         have n1_:Aside0 (Below w.heap.size w ((((w36.setCell ⟨gb112,0,none⟩ (.int .i64 ((rd_T24 l0 x10_1).f0))).setCell ⟨gb112,1,none⟩ (.int .i64 ((rd_T24 l0 x10_1).f1))).setCell ⟨gb112,2,none⟩ (.int .i64 ((rd_T24 l0 x10_1).f2))).setCell ⟨gb112,3,none⟩ (.bool ((rd_T24 l0 x10_1).f3)))):=⟨bxs HB GE112⟩
         (try clear BK112)
         (try clear HB)
         generalize ((((w36.setCell ⟨gb112,0,none⟩ (.int .i64 ((rd_T24 l0 x10_1).f0))).setCell ⟨gb112,1,none⟩ (.int .i64 ((rd_T24 l0 x10_1).f1))).setCell ⟨gb112,2,none⟩ (.int .i64 ((rd_T24 l0 x10_1).f2))).setCell ⟨gb112,3,none⟩ (.bool ((rd_T24 l0 x10_1).f3)))=w38 at n0_ n1_ ⊢
         have BK112:=n0_;have HB:=n1_;clear n0_ n1_
         have n0_:=am (blk_drew BK112.out)
         have n1_:=am (below_drew1 HB.out)
         clear BK112;clear HB;have BK112:=n0_;have HB:=n1_;clear n0_ n1_
         refine start_ (n:=27) (S:=fun w'=>w'.cell? ⟨gb112,0,none⟩=some (.int .i64 ((rd_T24 l0 x10_1).f0))∧w'.cell? ⟨gb112,1,none⟩=some (.int .i64 ((rd_T24 l0 x10_1).f1))∧w'.cell? ⟨gb112,2,none⟩=some (.int .i64 ((rd_T24 l0 x10_1).f2))∧w'.cell? ⟨gb112,3,none⟩=some (.bool ((rd_T24 l0 x10_1).f3))) (ds:=[]) _ (by kernel_rfl) rfl rfl ⟨kc BK112 0,kc BK112 1,kc BK112 2,kc BK112 3⟩ (fun hHeld=>?_);refine with_tabW extent_Check.tab6 extent_Check.bits6 (fun HT_ HW_=>?_)
         generalize w38.drew=w39 at BK112 HB hHeld ⊢
         refine tS 0 15 HT_ HW_ hHeld ?_ (hy:=by rintro w' ⟨s0,s1,s2,s3⟩;go_simp;with_reducible rfl)
         refine oS 1 (some 16) HT_ (fun K hK=>?_)
         refine gS Try.func34 #[.agg #[.int .i64 ((rd_T24 l0 x10_1).f0),.int .i64 ((rd_T24 l0 x10_1).f1),.int .i64 ((rd_T24 l0 x10_1).f2),.bool ((rd_T24 l0 x10_1).f3)]] ?_
         with_reducible refine (extent_may.calls ((rd_T24 l0 x10_1).f0) ((rd_T24 l0 x10_1).f1) ((rd_T24 l0 x10_1).f2) ((rd_T24 l0 x10_1).f3) true _ A6.out).mono ?_
         rintro e w40 ⟨rfl,hb⟩
         refine ⟨_,rfl,?_⟩
         have n0_:=am (blk_below (g:=gb112) (o:=.cells #[.int .i64 ((rd_T24 l0 x10_1).f0),.int .i64 ((rd_T24 l0 x10_1).f1),.int .i64 ((rd_T24 l0 x10_1).f2),.bool ((rd_T24 l0 x10_1).f3)] 24 (0,0)) (rK BK112) hb)
         have n1_:=am (below_step (bxs HB GE112) hb)
         clear BK112;clear HB;have BK112:=n0_;have HB:=n1_;clear n0_ n1_
         (try clear hb)
         (try clear hb2)
         (try clear hk)
         (try clear hi)
         refine hK.out _ _ ⟨kc BK112 0,kc BK112 1,kc BK112 2,kc BK112 3⟩ (fun hHeld=>?_)
         clear hK K;refine norm_ (a':=?_) ?_ ?_;rotate_left
         ·show Act.put _ (some 16) _=_
          simp only [Act.put,sIb,sC0,sCs,i64_w,i32_w];rfl
         refine pS 2 17 HT_ ?_;refine pS 3 18 HT_ ?_;refine pS 4 19 HT_ ?_;refine pS 5 20 HT_ ?_;refine pS 6 21 HT_ ?_;refine uS 7 22 HT_ ?_;refine uS 8 23 HT_ ?_;refine uS 9 24 HT_ ?_;refine uS 10 25 HT_ ?_;refine uS 11 26 HT_ ?_;refine uS 12 27 HT_ ?_;refine uS 13 28 HT_ ?_;refine uS 14 29 HT_ ?_;refine uS 15 30 HT_ ?_;refine uS 16 31 HT_ ?_;refine uS 17 32 HT_ ?_;refine uS 18 33 HT_ ?_;refine uS 19 34 HT_ ?_;refine uS 20 35 HT_ ?_;refine uS 21 36 HT_ ?_;refine uS 22 37 HT_ ?_;refine uS 23 38 HT_ ?_;refine uS 24 39 HT_ ?_;refine pS 25 40 HT_ ?_;refine pS 26 41 HT_ ?_
         refine done_ (done_of HT_.out (by kernel_rfl)) ?_
         try go_wp2
         go_roundg k1
         case measure=>have:=HK1.out;omega
         case rel=>exact ⟨(wrap64 (x10_1+1)),(by first|rfl|(simp;done)|(simp [*];done)),H',⟨by have:=HK1.out;omega⟩,⟨bxs HB GE112⟩⟩
       ·replace c7:=Bool.eq_false_iff.mpr c7
        subst c7
        have H1:(some 1)=some r:=by rw [if_neg (show ¬ (false=true) by decide)] at H;exact H
        clear H;have H:=H1;clear H1;obtain rfl:=Option.some.inj H
        have p111:0≤(x10_1:Int):=od
        have q111:x10_1 < (l0.length:Int):=od
        obtain ⟨ad111,e111,hx111_0,hx111_1,hx111_2,hx111_3⟩:=at_T24 HR0.out x10_1 p111 q111
        cases e111
        replace hx111_0:=hB HB hx111_0
        replace hx111_1:=hB HB hx111_1
        replace hx111_2:=hB HB hx111_2
        replace hx111_3:=hB HB hx111_3
        replace p111:=eq_true p111;replace q111:=eq_true q111
        try go_wp2_with (first|((with_reducible refine gate_dst (N:=4) rfl ?_);refine box_event ?hg (N:=4) ?hd (cs:=#[.int .i64 0,.int .i64 0,.int .i64 0,.bool false]) (t:=24) ?hr ?_;(case hd=>rfl);(case hg=>rfl);(case hr=>first|(go_simp;done)|(go_simp;rfl));intro gb112 hg w41 hbox hb;have n0_:=bst HB hb;have n1_:=am (hbox);have n2_:=am ((gz hg HB));have n3_:=am ((gz hg HB));clear HB;have HB:=n0_;have BK112:=n1_;have GW112:=n2_;have GE112:=n3_;clear n0_ n1_ n2_ n3_;clear hb hbox hg;have hcz42_0:w41.cell? ⟨gb112,0,none⟩=some (.int .i64 0):=kc BK112 0;have hcz42_1:w41.cell? ⟨gb112,1,none⟩=some (.int .i64 0):=kc BK112 1;have hcz42_2:w41.cell? ⟨gb112,2,none⟩=some (.int .i64 0):=kc BK112 2;have hcz42_3:w41.cell? ⟨gb112,3,none⟩=some (.bool false):=kc BK112 3;have hfz42_0:=blk_frozen BK112.out 0;have hfz42_1:=blk_frozen BK112.out 1;have hfz42_2:=blk_frozen BK112.out 2;have hfz42_3:=blk_frozen BK112.out 3))
        have n0_:Aside0 (((((w41.setCell ⟨gb112,0,none⟩ (.int .i64 ((rd_T24 l0 x10_1).f0))).setCell ⟨gb112,1,none⟩ (.int .i64 ((rd_T24 l0 x10_1).f1))).setCell ⟨gb112,2,none⟩ (.int .i64 ((rd_T24 l0 x10_1).f2))).setCell ⟨gb112,3,none⟩ (.bool ((rd_T24 l0 x10_1).f3))).heap[gb112]? = some (.cells #[.int .i64 ((rd_T24 l0 x10_1).f0),.int .i64 ((rd_T24 l0 x10_1).f1),.int .i64 ((rd_T24 l0 x10_1).f2),.bool ((rd_T24 l0 x10_1).f3)] 24 (0,0))):=⟨by (with_reducible repeat (first|refine blk_drewN ?_ _|refine blk_drew ?_|refine blk_alloc ?_ _));refine blk_put (cs:=#[.int .i64 ((rd_T24 l0 x10_1).f0),.int .i64 ((rd_T24 l0 x10_1).f1),.int .i64 ((rd_T24 l0 x10_1).f2),.bool false]) ?_ 3 _ rfl;(with_reducible repeat (first|refine blk_drewN ?_ _|refine blk_drew ?_|refine blk_alloc ?_ _));refine blk_put (cs:=#[.int .i64 ((rd_T24 l0 x10_1).f0),.int .i64 ((rd_T24 l0 x10_1).f1),.int .i64 0,.bool false]) ?_ 2 _ rfl;(with_reducible repeat (first|refine blk_drewN ?_ _|refine blk_drew ?_|refine blk_alloc ?_ _));refine blk_put (cs:=#[.int .i64 ((rd_T24 l0 x10_1).f0),.int .i64 0,.int .i64 0,.bool false]) ?_ 1 _ rfl;(with_reducible repeat (first|refine blk_drewN ?_ _|refine blk_drew ?_|refine blk_alloc ?_ _));refine blk_put (cs:=#[.int .i64 0,.int .i64 0,.int .i64 0,.bool false]) ?_ 0 _ rfl;(with_reducible repeat (first|refine blk_drewN ?_ _|refine blk_drew ?_|refine blk_alloc ?_ _));exact BK112.out⟩
        have n1_:Aside0 (Below w.heap.size w ((((w41.setCell ⟨gb112,0,none⟩ (.int .i64 ((rd_T24 l0 x10_1).f0))).setCell ⟨gb112,1,none⟩ (.int .i64 ((rd_T24 l0 x10_1).f1))).setCell ⟨gb112,2,none⟩ (.int .i64 ((rd_T24 l0 x10_1).f2))).setCell ⟨gb112,3,none⟩ (.bool ((rd_T24 l0 x10_1).f3)))):=⟨bxs HB GE112⟩
        (try clear BK112)
        (try clear HB)
        generalize ((((w41.setCell ⟨gb112,0,none⟩ (.int .i64 ((rd_T24 l0 x10_1).f0))).setCell ⟨gb112,1,none⟩ (.int .i64 ((rd_T24 l0 x10_1).f1))).setCell ⟨gb112,2,none⟩ (.int .i64 ((rd_T24 l0 x10_1).f2))).setCell ⟨gb112,3,none⟩ (.bool ((rd_T24 l0 x10_1).f3)))=w43 at n0_ n1_ ⊢
        have BK112:=n0_;have HB:=n1_;clear n0_ n1_
        have n0_:=am (blk_drew BK112.out)
        have n1_:=am (below_drew1 HB.out)
        clear BK112;clear HB;have BK112:=n0_;have HB:=n1_;clear n0_ n1_
        refine start_ (n:=27) (S:=fun w'=>w'.cell? ⟨gb112,0,none⟩=some (.int .i64 ((rd_T24 l0 x10_1).f0))∧w'.cell? ⟨gb112,1,none⟩=some (.int .i64 ((rd_T24 l0 x10_1).f1))∧w'.cell? ⟨gb112,2,none⟩=some (.int .i64 ((rd_T24 l0 x10_1).f2))∧w'.cell? ⟨gb112,3,none⟩=some (.bool ((rd_T24 l0 x10_1).f3))) (ds:=[]) _ (by kernel_rfl) rfl rfl ⟨kc BK112 0,kc BK112 1,kc BK112 2,kc BK112 3⟩ (fun hHeld=>?_);refine with_tabW extent_Check.tab6 extent_Check.bits6 (fun HT_ HW_=>?_)
        generalize w43.drew=w44 at BK112 HB hHeld ⊢
        refine tS 0 15 HT_ HW_ hHeld ?_ (hy:=by rintro w' ⟨s0,s1,s2,s3⟩;go_simp;with_reducible rfl)
        refine oS 1 (some 16) HT_ (fun K hK=>?_)
        refine gS Try.func34 #[.agg #[.int .i64 ((rd_T24 l0 x10_1).f0),.int .i64 ((rd_T24 l0 x10_1).f1),.int .i64 ((rd_T24 l0 x10_1).f2),.bool ((rd_T24 l0 x10_1).f3)]] ?_
        with_reducible refine (extent_may.calls ((rd_T24 l0 x10_1).f0) ((rd_T24 l0 x10_1).f1) ((rd_T24 l0 x10_1).f2) ((rd_T24 l0 x10_1).f3) false _ A6.out).mono ?_
        rintro e w45 ⟨rfl,hb⟩
        refine ⟨_,rfl,?_⟩
        have n0_:=am (blk_below (g:=gb112) (o:=.cells #[.int .i64 ((rd_T24 l0 x10_1).f0),.int .i64 ((rd_T24 l0 x10_1).f1),.int .i64 ((rd_T24 l0 x10_1).f2),.bool ((rd_T24 l0 x10_1).f3)] 24 (0,0)) (rK BK112) hb)
        have n1_:=am (below_step (bxs HB GE112) hb)
        clear BK112;clear HB;have BK112:=n0_;have HB:=n1_;clear n0_ n1_
        (try clear hb)
        (try clear hb2)
        (try clear hk)
        (try clear hi)
        refine hK.out _ _ ⟨kc BK112 0,kc BK112 1,kc BK112 2,kc BK112 3⟩ (fun hHeld=>?_)
        clear hK K;refine norm_ (a':=?_) ?_ ?_;rotate_left
        ·show Act.put _ (some 16) _=_
         simp only [Act.put,sIb,sC0,sCs,i64_w,i32_w];rfl
        refine pS 2 17 HT_ ?_;refine pS 3 18 HT_ ?_;refine uS 4 19 HT_ ?_;refine uS 5 20 HT_ ?_;refine uS 6 21 HT_ ?_;refine uS 7 22 HT_ ?_;refine uS 8 23 HT_ ?_;refine uS 9 24 HT_ ?_;refine uS 10 25 HT_ ?_;refine uS 11 26 HT_ ?_;refine uS 12 27 HT_ ?_;refine uS 13 28 HT_ ?_;refine uS 14 29 HT_ ?_;refine uS 15 30 HT_ ?_;refine uS 16 31 HT_ ?_;refine uS 17 32 HT_ ?_;refine uS 18 33 HT_ ?_;refine uS 19 34 HT_ ?_;refine uS 20 35 HT_ ?_;refine uS 21 36 HT_ ?_;refine uS 22 37 HT_ ?_;refine uS 23 38 HT_ ?_;refine uS 24 39 HT_ ?_;refine uS 25 40 HT_ ?_;refine pS 26 41 HT_ ?_
        refine done_ (done_of HT_.out (by kernel_rfl)) ?_
        try go_wp2
        go_ret
        exact ⟨by first|rfl|(simp [errW_none,errW_some]<;>rfl)|(simp [*,errW_none,errW_some]<;>rfl),bxs HB GE112⟩
      ·rw [if_neg c5] at H
       exact absurd H (by simp)
     ·rw [if_neg c4] at H
      exact absurd H (by simp)
    ·rw [if_neg c3] at H
     have c3b0:decide (x10_1 < (l0.length:Int))=false:=decide_eq_false c3
     clear c3
     replace H:=Option.bind_eq_some_iff.mp H
     obtain ⟨t110,A460,H⟩:=H
     replace H:(if t110=true then (some 0) else (some 1))=some r:=H
     have A46:=am A460
     clear A460
     by_cases c47:t110=true
     ·subst c47
      have H1:(some 0)=some r:=by rw [if_pos rfl] at H;exact H
      clear H;have H:=H1;clear H1;obtain rfl:=Option.some.inj H
      go_wp2_with (first|((with_reducible refine gate_callee (f:=37) rfl ?_);refine goesL_ (some 44) rfl rfl Try.func37 (by kernel_rfl) rfl #[.slice A0 l0.length c0] rfl (by (try simp only [List.map_toArray,List.map_cons,List.map_nil]);first|done|rfl|(simp only [List.length_drop,List.length_take];rfl)) ?_;(with_reducible refine (extent_apart.calls _ _ l0 true _ ?side1 ?side2 A46.out).mono ?_);(case side1=>exact cc (Kd.C_below HR0.out HB.out));(case side2=>exact HC0.out);rintro e w48 ⟨rfl,hb⟩;refine ⟨_,rfl,?_⟩;have n0_:=bst HB hb;clear HB;have HB:=n0_;clear n0_;(try clear hb);(try clear hb2);(try clear hk);(try clear hi)))
      go_ret
      exact ⟨by first|rfl|(simp [errW_none,errW_some]<;>rfl)|(simp [*,errW_none,errW_some]<;>rfl),bb HB⟩
     ·replace c47:=Bool.eq_false_iff.mpr c47
      subst c47
      have H1:(some 1)=some r:=by rw [if_neg (show ¬ (false=true) by decide)] at H;exact H
      clear H;have H:=H1;clear H1;obtain rfl:=Option.some.inj H
      go_wp2_with (first|((with_reducible refine gate_callee (f:=37) rfl ?_);refine goesL_ (some 44) rfl rfl Try.func37 (by kernel_rfl) rfl #[.slice A0 l0.length c0] rfl (by (try simp only [List.map_toArray,List.map_cons,List.map_nil]);first|done|rfl|(simp only [List.length_drop,List.length_take];rfl)) ?_;(with_reducible refine (extent_apart.calls _ _ l0 false _ ?side1 ?side2 A46.out).mono ?_);(case side1=>exact cc (Kd.C_below HR0.out HB.out));(case side2=>exact HC0.out);rintro e w49 ⟨rfl,hb⟩;refine ⟨_,rfl,?_⟩;have n0_:=bst HB hb;clear HB;have HB:=n0_;clear n0_;(try clear hb);(try clear hb2);(try clear hk);(try clear hi)))
      go_ret
      exact ⟨by first|rfl|(simp [errW_none,errW_some]<;>rfl)|(simp [*,errW_none,errW_some]<;>rfl),bb HB⟩
def bse:Nat→List S24→Int→Nat→Nat→Option Nat
 | 0,_,_,_,_=>none
 | k+1,l,s,i,j=>if i < j then (if (rd_T24 l (((i+j) / 2:Nat):Int)).f0+(rd_T24 l (((i+j) / 2:Nat):Int)).f2≤s then bse k l s ((i+j) / 2+1) j else bse k l s i ((i+j) / 2)) else some i
theorem bse_some (l:List S24) (s:Int):∀ (k i j:Nat),j - i < k→∃ r,bse k l s i j=some r
 | 0,i,j,h=>absurd h (Nat.not_lt_zero _)
 | k+1,i,j,h=>by
  unfold bse
  by_cases c:i < j
  ·rw [if_pos c]
   split
   ·exact bse_some l s k _ _ (by omega)
   ·exact bse_some l s k _ _ (by omega)
  ·rw [if_neg c];exact ⟨i,rfl⟩
theorem bse_behind {l:List S24} (hr:riseL l) (hall:∀ e∈l,mayE e=true) (s:Int):∀ (k i j r:Nat),bse k l s i j=some r→i≤behindN l s→behindN l s≤j→j≤l.length→r=behindN l s
 | 0,i,j,r,h,_,_,_=>by cases h
 | k+1,i,j,r,h,h1,h2,h3=>by
  unfold bse at h
  by_cases c:i < j
  ·rw [if_pos c] at h
   have hm:(i+j) / 2 < l.length:=by omega
   obtain ⟨m,hm'⟩:∃ m,(i+j) / 2=m:=⟨_,rfl⟩
   rw [hm'] at h hm
   rw [rd_in hm] at h
   have key:(l[m].f0+l[m].f2≤s)↔m < behindN l s:=by
    constructor
    ·intro hle
     by_cases hb:m < behindN l s
     ·exact hb
     ·exact absurd hle (behind_drop l s hr (fun e he=>by have:=mayE_facts (hall e he);omega) l[m] (List.mem_drop_iff_getElem.2 ⟨m - behindN l s,by omega,by congr 1;omega⟩))
    ·intro hb
     exact behind_take l s l[m] (List.mem_take_iff_getElem.2 ⟨m,by omega,rfl⟩)
   by_cases hle:l[m].f0+l[m].f2≤s
   ·rw [if_pos hle] at h
    exact bse_behind hr hall s k _ _ r h (by have:=key.1 hle;omega) h2 h3
   ·rw [if_neg hle] at h
    exact bse_behind hr hall s k _ _ r h h1 (by have:=mt key.2 hle;omega) (by omega)
  ·rw [if_neg c] at h
   injection h with h
   omega
set_option maxHeartbeats 8000000 in
set_option maxRecDepth 100000 in
theorem behind_cmp (e:S24) (s t:Int) (W:World) (ht:wrap64 (e.f0+e.f2)=t) :
  Calls Try.prog 69 #[.agg #[.int .i64 e.f0,.int .i64 e.f1,.int .i64 e.f2,.bool e.f3],.int .i64 s] W fun r w'=>r=.returned (.int .i64 (if t≤s then -1 else 1))∧Below W.heap.size W w':=by
 have hu24:=Try.underlying24
 have HE:=am (show extent_end.f e.f0 e.f1 e.f2 e.f3=some t by unfold extent_end.f;rw [ht])
 have HB0:=am ((Below.refl W.heap.size W).alloc (Nat.le_refl _) (.cells #[.int .i64 e.f0,.int .i64 e.f1,.int .i64 e.f2,.bool e.f3] 24))
 clear ht
 by_cases c:t≤s
 ·have cb:decide (t≤s)=true:=decide_eq_true c
  rw [if_pos c]
  clear c
  go_enter Try.func69,Try.ntmps69
  go_wp2_with (go_at_call 35;refine (extent_end.calls e.f0 e.f1 e.f2 e.f3 t _ HE.out).mono ?_;rintro r w2 ⟨rfl,hb2⟩;have HB2:=am (HB0.out.trans (hb2.mono HB0.out.size));clear hb2)
  go_ret
  exact ⟨rfl,HB2.out⟩
 ·have cb:decide (t≤s)=false:=decide_eq_false c
  rw [if_neg c]
  clear c
  go_enter Try.func69,Try.ntmps69
  go_wp2_with (go_at_call 35;refine (extent_end.calls e.f0 e.f1 e.f2 e.f3 t _ HE.out).mono ?_;rintro r w2 ⟨rfl,hb2⟩;have HB2:=am (HB0.out.trans (hb2.mono HB0.out.size));clear hb2)
  go_ret
  exact ⟨rfl,HB2.out⟩
set_option maxHeartbeats 8000000 in
set_option maxRecDepth 100000 in
theorem bs_calls (k:Nat) (A0:Option Addr) (c0:Nat) (l:List S24) (s:Int) (r:Nat) (w:World) (hr0:Kd.C k24 w A0 l.length l) (hc0:l.length≤c0) (hl:l.length≤60) (hall:∀ e∈l,mayE e=true) (h:bse k l s 0 l.length=some r) :
  Calls Try.prog 68 #[.slice A0 l.length c0,.int .i64 s,.func (.func 69) #[] #[]] w fun e w'=>∃ b,e=.returned (.tuple #[.int .i64 (r:Int),.bool b])∧Below w.heap.size w w':=by
 have HR0:=am hr0
 have HC0:=am hc0
 have HL:=am hl
 have HM:=am hall
 have HH:=am h
 have hi24:=info24
 have hu24:=Try.underlying24
 clear hr0 hc0 hl h hall
 go_enter Try.func68,Try.ntmps68
 go_wp2
 go_loopg [9,10] k (fun kq v9 v10 w'=>∃ (i j:Nat),v9=.int .i64 (i:Int)∧v10=.int .i64 (j:Int)∧Aside0 (bse kq l s i j=some r)∧Aside0 (kq≤k∧j≤l.length∧i≤l.length)∧Aside0 (Below w.heap.size w w'))
 case atStart=>exact ⟨0,l.length,rfl,rfl,HH,⟨Nat.le_refl _,Nat.le_refl _,Nat.zero_le _⟩,⟨Below.refl _ _⟩⟩
 case round =>
  obtain ⟨i,j,rfl,rfl,HQ,HK,HB⟩:=hrel
  cases gk with
  | zero=>exact absurd HQ.out (by intro h_;cases h_)
  | succ g =>
   have hl:=HQ.out
   clear HQ
   simp only [bse] at hl
   by_cases hij:i < j
   ·rw [if_pos hij] at hl
    have hijb:decide (i < j)=true:=decide_eq_true hij
    obtain ⟨m,hm⟩:∃ m,(i+j) / 2=m:=⟨_,rfl⟩
    rw [hm] at hl
    have hml:m < l.length:=by have:=HK.out;omega
    have hmi:((i:Int)+(j:Int)) / 2=(m:Int):=by omega
    have HIJ:=am (show i≤m∧m < j by omega)
    have hw1:wrap64 ((i:Int)+(j:Int))=(i:Int)+(j:Int):=by have:=HL.out;have:=HK.out;unfold wrap64;omega
    have hw2:IntKind.u64.wrap ((i:Int)+(j:Int))=(i:Int)+(j:Int):=by have:=HL.out;have:=HK.out;simp [IntKind.wrap,IntKind.signed,IntKind.bits];omega
    have hw3:wrap64 (m:Int)=(m:Int):=by have:=HL.out;unfold wrap64;omega
    have hw4:wrap64 ((m:Int)+1)=((m+1:Nat):Int):=by have:=HL.out;unfold wrap64;omega
    have hdv:((i:Int)+(j:Int)) / 2 ^ (1:Int).toNat=(m:Int):=hmi
    have hm0:(0:Int)≤(m:Int):=by omega
    have hml1:(m:Int) < (l.length:Int):=by omega
    obtain ⟨ad,ead,hca,hcb,hcc,hcd⟩:=at_T24 HR0.out (m:Int) hm0 hml1
    cases ead
    simp only [Int.toNat_natCast] at hca hcb hcc hcd
    replace hca:=hB HB hca
    replace hcb:=hB HB hcb
    replace hcc:=hB HB hcc
    replace hcd:=hB HB hcd
    have hmay:mayE (rd_T24 l (m:Int))=true:=by rw [rd_in hml];exact HM.out _ (List.getElem_mem hml)
    obtain ⟨e,he⟩:∃ e,e=rd_T24 l (m:Int):=⟨_,rfl⟩
    rw [← he] at hca hcb hcc hcd hmay hl
    obtain ⟨t,ht⟩:∃ t,e.f0+e.f2=t:=⟨_,rfl⟩
    rw [ht] at hl
    have HT:=am (show wrap64 (e.f0+e.f2)=t by have:=mayE_facts hmay;rw [ht];unfold wrap64;omega)
    have hmb:decide (m < l.length)=true:=decide_eq_true hml
    clear he ht hmay hm hml hij
    by_cases hlt:t≤s
    ·rw [if_pos hlt] at hl
     have HLL:=am hl
     have hv:(if t≤s then (-1:Int) else 1) = -1:=if_pos hlt
     have HV:=am hv
     clear hl hlt hv
     go_wp2_with (go_at_call 69;refine (behind_cmp e s t _ HT.out).mono ?_;rintro r2 w2 ⟨rfl,hb2⟩;rw [HV.out];have HB2:=am (HB.out.trans (hb2.mono HB.out.size));clear hb2)
     go_roundg g
     case measure=>have:=HK.out;omega
     case rel=>exact ⟨m+1,j,by first|(rw [hw4];done)|(simp;done),rfl,HLL,⟨by have:=HK.out;omega,HK.out.2.1,by have:=HK.out;have:=HIJ.out;omega⟩,HB2⟩
    ·rw [if_neg hlt] at hl
     have HLL:=am hl
     have hv:(if t≤s then (-1:Int) else 1)=1:=if_neg hlt
     have HV:=am hv
     clear hl hlt hv
     go_wp2_with (go_at_call 69;refine (behind_cmp e s t _ HT.out).mono ?_;rintro r2 w2 ⟨rfl,hb2⟩;rw [HV.out];have HB2:=am (HB.out.trans (hb2.mono HB.out.size));clear hb2)
     go_roundg g
     case measure=>have:=HK.out;omega
     case rel=>exact ⟨i,m,rfl,rfl,HLL,⟨by have:=HK.out;omega,by have:=HK.out;have:=HIJ.out;omega,HK.out.2.2⟩,HB2⟩
   ·rw [if_neg hij] at hl
    have hijb:decide (i < j)=false:=decide_eq_false hij
    obtain rfl:=Option.some.inj hl
    clear hl hij
    have hw3:wrap64 (i:Int)=(i:Int):=by have:=HL.out;have:=HK.out;unfold wrap64;omega
    by_cases hil:i < l.length
    ·have hilb:decide (i < l.length)=true:=decide_eq_true hil
     have hi0:(0:Int)≤(i:Int):=by omega
     have hi1:(i:Int) < (l.length:Int):=by omega
     obtain ⟨ad,ead,hca,hcb,hcc,hcd⟩:=at_T24 HR0.out (i:Int) hi0 hi1
     cases ead
     simp only [Int.toNat_natCast] at hca hcb hcc hcd
     replace hca:=hB HB hca
     replace hcb:=hB HB hcb
     replace hcc:=hB HB hcc
     replace hcd:=hB HB hcd
     have hmay:mayE (rd_T24 l (i:Int))=true:=by rw [rd_in hil];exact HM.out _ (List.getElem_mem hil)
     obtain ⟨e,he⟩:∃ e,e=rd_T24 l (i:Int):=⟨_,rfl⟩
     rw [← he] at hca hcb hcc hcd hmay
     obtain ⟨t,ht⟩:∃ t,e.f0+e.f2=t:=⟨_,rfl⟩
     have HT:=am (show wrap64 (e.f0+e.f2)=t by have:=mayE_facts hmay;rw [ht];unfold wrap64;omega)
     obtain ⟨q,hq⟩:∃ q:Int,(if t≤s then (-1:Int) else 1)=q:=⟨_,rfl⟩
     have HV:=am hq
     clear he ht hmay hil hq hw3
     go_wp2_with (go_at_call 69;refine (behind_cmp e s t _ HT.out).mono ?_;rintro r2 w2 ⟨rfl,hb2⟩;rw [HV.out];have HB2:=am (HB.out.trans (hb2.mono HB.out.size));clear hb2)
     go_ret2
     exact ⟨_,rfl,HB2.out⟩
    ·have hilb:decide (i < l.length)=false:=decide_eq_false hil
     clear hil hw3;go_wp2
     go_ret2
     exact ⟨_,rfl,HB.out⟩
theorem behind_calls (A0:Option Addr) (c0:Nat) (l:List S24) (s:Int) (w:World) (hr0:Kd.C k24 w A0 l.length l) (hc0:l.length≤c0) (hok:l.length≤60∧l.all mayE=true∧riseL l) :
  Calls Try.prog 41 #[.slice A0 l.length c0,.int .i64 s] w fun e w'=>e=.returned (.int .i64 (behindN l s:Int))∧Below w.heap.size w w':=by
 have hall:=List.all_eq_true.1 hok.2.1
 obtain ⟨r,hr⟩:=bse_some l s (l.length+1) 0 l.length (by omega)
 have he:=bse_behind hok.2.2 hall s _ _ _ r hr (Nat.zero_le _) (behindN_le l s) (Nat.le_refl _)
 have HC:=am (bs_calls (l.length+1) A0 c0 l s r w hr0 hc0 hok.1 hall hr)
 rw [← he]
 clear hr0 hc0 hok hall hr he
 go_enter Try.func41,Try.ntmps41
 go_wp2_with (go_at_call 68;refine HC.out.mono ?_;rintro e w2 ⟨b,rfl,hb⟩)
 go_ret
 exact ⟨rfl,hb⟩
end Go.Proofs.Ytopmjjnkolfciaa.Pr
end
section
namespace Go.Proofs.Ytopmjjnkolfciaa.Rw
open Go.RowKit Go.Proofs.YtopmjjnkolfciaaW.PrintWords Go.Proofs.YtopmjjnkolfciaaW.PrintLast Go.Proofs.YtopmjjnkolfciaaW.PrintMore Go.Proofs.Ytopmjjnkolfciaa.Pr
set_option linter.unusedVariables false
set_option linter.unusedSimpArgs false
abbrev E := S24
def cells2 (e : E) : List Value := [.int .i64 e.f0, .int .i64 e.f1, .int .i64 e.f2, .bool e.f3]
def flat (xs : List E) : List Value := xs.flatMap cells2
theorem flat_cons (e : E) (xs : List E) : flat (e :: xs) = cells2 e ++ flat xs := rfl
theorem flat_append (a b : List E) : flat (a ++ b) = flat a ++ flat b := by unfold flat; rw [List.flatMap_append]
theorem flat_len : ∀ xs : List E, (flat xs).length = xs.length * 4
  | [] => rfl
  | e :: xs => by rw [flat_cons, List.length_append, flat_len xs, List.length_cons]; simp [cells2]; omega
theorem flat_take : ∀ (xs : List E) (n : Nat), flat (xs.take n) = (flat xs).take (n * 4)
  | [], n => by simp [flat]
  | e :: xs, 0 => by simp [flat]
  | e :: xs, n + 1 => by
    rw [List.take_succ_cons, flat_cons, flat_cons, flat_take xs n, show (n + 1) * 4 = (cells2 e).length + n * 4 by simp [cells2]; omega, List.take_length_add_append]
theorem flat_drop : ∀ (xs : List E) (n : Nat), flat (xs.drop n) = (flat xs).drop (n * 4)
  | [], n => by simp [flat]
  | e :: xs, 0 => by simp
  | e :: xs, n + 1 => by
    rw [List.drop_succ_cons, flat_cons, flat_drop xs n, show (n + 1) * 4 = (cells2 e).length + n * 4 by simp [cells2]; omega, List.drop_length_add_append]
theorem flat_of : ∀ (xs : List E) (inner : List Value), inner.length = xs.length * 4 → (∀ j p, xs[j]? = some p → (inner.drop (j * 4)).take 4 = cells2 p) → inner = flat xs
  | [], inner, hl, _ => List.eq_nil_of_length_eq_zero (by simpa using hl)
  | e :: xs, inner, hl, h => by
    have h0 := h 0 e rfl
    rw [Nat.zero_mul, List.drop_zero] at h0
    have hr := flat_of xs (inner.drop 4) (by rw [List.length_drop, hl, List.length_cons]; omega) (fun j p hj => by
      have := h (j + 1) p (by simpa using hj)
      rw [List.drop_drop, show 4 + j * 4 = (j + 1) * 4 by omega]
      exact this)
    rw [flat_cons, ← h0, ← hr, List.take_append_drop]
theorem flat_at : ∀ (xs : List E) (j : Nat) (p : E), xs[j]? = some p → ((flat xs).drop (j * 4)).take 4 = cells2 p
  | e :: xs, 0, p, h => by
    simp only [List.getElem?_cons_zero, Option.some.injEq] at h
    subst h
    rw [Nat.zero_mul, List.drop_zero, flat_cons, List.take_append_of_le_length (by simp [cells2]), List.take_of_length_le (by simp [cells2])]
  | e :: xs, j + 1, p, h => by
    rw [← flat_drop, List.drop_succ_cons, flat_drop]
    exact flat_at xs j p (by simpa using h)
theorem flat_one : ∀ (xs : List E), ∀ v ∈ flat xs, v.oneCell' = true := by
  intro xs v hv
  obtain ⟨e, _, h⟩ := List.mem_flatMap.1 hv
  simp only [cells2, List.mem_cons, List.not_mem_nil, or_false] at h
  rcases h with rfl | rfl | rfl | rfl <;> rfl
theorem R_flat {w : World} {base : Nat} {ok : Nat → Prop} {v : Value} {xs : List E} (h : Kd.R k24 24 w base ok v xs) : w.ownsRow base 24 4 v xs.length (flat xs) := by
  obtain ⟨h0, inner, ho, hr⟩ := h
  have : inner = flat xs := flat_of xs inner hr.1 (fun j p hj => k24_openM (hr.2 j p hj))
  rw [← this]; exact ho
theorem flat_R {w : World} {base : Nat} {ok : Nat → Prop} {v : Value} {xs : List E} (ho : w.ownsRow base 24 4 v xs.length (flat xs)) (hok : ∀ k, v.ownBlock = some k → ok k) : Kd.R k24 24 w base ok v xs :=
  ⟨hok, flat xs, ho, flat_len xs, fun j p hj => by rw [show k24.sz = 4 from rfl, flat_at xs j p hj]; exact k24_mkM _ _ _ p⟩
theorem run_copy_cells {P : Program} (w : World) (dT sT ty elem : TypeId) (g o dLen dCap : Nat) (a : Addr) (sLen sCap : Nat) (cur : Array Value) (t : TypeId) (cs : List Value) (n sz : Nat)
    (hu : P.underlying dT = some (.slice elem)) (hs : (P.info? elem).map (·.size) = some sz)
    (hg : w.heap[g]? = some (.cells cur t (0, 0))) (hn : n = Nat.min sLen dLen) (hcl : cs.length = n * sz)
    (hsrc : ∀ j v, cs[j]? = some v → w.cell? (a.add j) = some v) (hfit : o + cs.length ≤ cur.size) (h1 : ∀ v ∈ cs, v.oneCell' = true) :
    (Builtin.copy_ #[dT, sT] ty #[.slice (some ⟨g, o, none⟩) dLen dCap, .slice (some a) sLen sCap]).run P w =
      .ok (goInt n) (w.setRow g (cur.toList.take o ++ cs ++ cur.toList.drop (o + cs.length)).toArray) := by
  have hl := run_loadCells_list (P := P) w a cs hsrc
  have hst := run_storeCells_at P g o t cs 0 cur w hg (by simpa using hfit) h1
  cases hq : P.info? elem with
  | none => simp [hq] at hs
  | some i =>
    have hi : i.size = sz := by simpa [hq] using hs
    rw [hcl] at hl
    simp [Builtin.copy_, run_underlying hu, Builtin.lenOf, Builtin.firstCells, sizeOf, typeInfo, hq, hi, ← hn, hl, hst]
section
variable {P : Program} {ops : Array Oper} {rest : List Oper} {o : Oper} {a : Act} {Q : Exit → Act → World → Prop} {Kc : Act → World → Prop}
theorem copy_step (w : World) (hw : Region.wanted o (yielded ops a.tmps) = true) (d s : Operand) (t t' : TypeId) (ho : o.op = .call { callee := .builtin .copy, args := #[d, s], argTypes := #[t, t'] }) (v u : Value) (hd : a.eval d = v) (hs : a.eval s = u) {v' : Value} {w' : World}
    (hr : (Builtin.copy_ #[t, t'] o.type #[v, u]).run P w = .ok v' w') (h : Kc (a.put o.dst v') w') : if Region.wanted o (yielded ops a.tmps) = true then Oper.wp P o a w Kc Q else Kc (a.put o.dst undef) w := by
  rw [if_pos hw]
  unfold Oper.wp execOp
  simp only [ho, resolve, invoke, builtin, Sem.run_bind, Sem.run_pure, Result.andThen_ok, List.map_toArray, List.map_cons, List.map_nil, hd, hs, hr]
  exact h
theorem append_ev (w : World) (hgd : o.guard = none) (d s : Operand) (t t' : TypeId) (ho : o.op = .call { callee := .builtin .append, args := #[d, s], argTypes := #[t, t'] }) (v u : Value) (hd : a.eval d = v) (hs : a.eval s = u) {v' : Value} {w' : World}
    (hr : (Builtin.append_ #[t, t'] o.type #[v, u]).run P w = .ok v' w') (h : wpList P ops Q rest (a.put o.dst v') w') : wpList P ops Q (o :: rest) a w := by
  refine wpList_plain hgd fun K hK => ?_
  unfold Oper.wp execOp
  simp only [ho, resolve, invoke, builtin, Sem.run_bind, Sem.run_pure, Result.andThen_ok, List.map_toArray, List.map_cons, List.map_nil, hd, hs, hr]
  exact hK _ _ h
end
theorem own_open {w : World} {base : Nat} {v : Value} {n : Nat} {cs : List Value} {e sz : Nat} (ho : w.ownsRow base e sz v n cs) (hp : 0 < n) :
    ∃ g cap cur, v = .slice (some ⟨g, 0, none⟩) n cap ∧ base ≤ g ∧ w.heap[g]? = some (.cells cur e (0, 0)) ∧ n ≤ cap ∧ cap ≤ maxLen ∧ cur.size = cap * sz ∧ cur.toList.take (n * sz) = cs := by
  rcases ho.2 with ⟨_, h0⟩ | h
  · omega
  · exact h
theorem below_turn {B g : Nat} {w0 w : World} (hb : Below B w0 w) (hBg : B ≤ g) (cs : Array Value) : Below B w0 (w.setRow g cs) :=
  hb.trans ⟨rfl, rfl, rfl, by simp [World.setRow], fun k hk => setRow_other w g k cs (by omega)⟩
theorem zero_len (q : Nat) : (Builtin.zeroCells (Value.agg #[(.int .i64 0), (.int .i64 0), (.int .i64 0), (.bool false)]).cells q).size = q * 4 := by simp [Builtin.zeroCells, Value.cells]
end Go.Proofs.Ytopmjjnkolfciaa.Rw
end
