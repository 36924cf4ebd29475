/- MBlocks: this session's texts for the one law, put together (part 2 of 6): what its program computes, function by function, and that this answers true; the row stands at the end of the last part. Conditions: those that each theorem names; the last theorem has none. -/
import Derived.RangeFuncNested
import Derived.RangeFuncBound
import Derived.RangeFuncCalls
import Derived.RangeFuncLeaves
import Derived.RangeFuncBox
import Derived.OrdersIn
import Derived.RangeFuncSeq
import Derived.Test.YtopmjjnkolfciaaMBlocksA
section
namespace Go.Proofs.Ytopmjjnkolfciaa.Pr
open Go.RowKit Go.Proofs.YtopmjjnkolfciaaW.PrintWords Go.Proofs.YtopmjjnkolfciaaW.PrintLast Go.Proofs.YtopmjjnkolfciaaW.PrintMore
attribute [local go_sem] max2_int min2_int max_two min_two max_three min_three max_four min_four
attribute [local go_sem] Go.Proofs.Ytopmjjnkolfciaa.Hl.str_geq Go.Proofs.Ytopmjjnkolfciaa.Hl.str_gtr Go.Proofs.Ytopmjjnkolfciaa.Hl.str_leq
set_option linter.unusedVariables false
set_option linter.unusedSimpArgs false
def extent_merged.l0 : Nat → List (S24) → List (S24) → Int → Int → Option ((List (S24)) × Int)
 | 0, _, _, _, _ => none
 | k + 1, x4, x8, x9, x10 => if x10 < x9 then (if 0 ≤ x10 then (if x10 < (x8.length : Int) then (if (x4.length : Int) > 0 then (if 0 ≤ (wrap64 ((x4.length : Int) - 1)) then (if (wrap64 ((x4.length : Int) - 1)) < (x4.length : Int) then ((extent_goes.f ((rd_T24 x4 (wrap64 ((x4.length : Int) - 1))).f0) ((rd_T24 x4 (wrap64 ((x4.length : Int) - 1))).f1) ((rd_T24 x4 (wrap64 ((x4.length : Int) - 1))).f2) ((rd_T24 x4 (wrap64 ((x4.length : Int) - 1))).f3) ((rd_T24 x8 x10).f0) ((rd_T24 x8 x10).f1) ((rd_T24 x8 x10).f2) ((rd_T24 x8 x10).f3)).bind fun t122 => (if t122 = true then (extent_merged.l0 k (x4.set ((wrap64 ((x4.length : Int) - 1)) : Int).toNat (⟨(rd_T24 x4 (wrap64 ((x4.length : Int) - 1))).f0, (rd_T24 x4 (wrap64 ((x4.length : Int) - 1))).f1, wrap64 (((rd_T24 x4 (wrap64 ((x4.length : Int) - 1))).f2) + ((rd_T24 x8 x10).f2)), (rd_T24 x4 (wrap64 ((x4.length : Int) - 1))).f3⟩ : S24)) x8 x9 (wrap64 (x10 + 1))) else (if x4.length < 4398046511104 then (extent_merged.l0 k (x4 ++ [(⟨(rd_T24 x8 x10).f0, (rd_T24 x8 x10).f1, (rd_T24 x8 x10).f2, (rd_T24 x8 x10).f3⟩ : S24)]) x8 x9 (wrap64 (x10 + 1))) else (none)))) else (none)) else (none)) else (if x4.length < 4398046511104 then (extent_merged.l0 k (x4 ++ [(⟨(rd_T24 x8 x10).f0, (rd_T24 x8 x10).f1, (rd_T24 x8 x10).f2, (rd_T24 x8 x10).f3⟩ : S24)]) x8 x9 (wrap64 (x10 + 1))) else (none))) else (none)) else (none)) else (if (x4.length : Int) > 60 then (some (([] : List (S24)), 9)) else (some (x4, 0)))
def extent_merged.f (k : Nat) (l0 : List (S24)) : Option ((List (S24)) × Int) := extent_merged.l0 k ([] : List (S24)) l0 (l0.length : Int) 0
def extent_merged.T6 : Bool × List (List Nat × List Nat) := (true, [([], []), ([0], [0]), ([1], [1]), ([2], [2]), ([2], [2]), ([4, 2], [2, 4]), ([3, 5, 2], [2, 3, 5]), ([6, 2], [2, 6]), ([2], [2]), ([7, 8, 2, 2], [2, 7, 8]), ([2, 9], [2, 9])])
def extent_merged.B6 : List Nat := [0, 1, 3, 7, 7, 23, 63, 127, 7, 511, 1023]
theorem extent_merged.tab6 : rtab .any (opsOf Try.f40 6) = extent_merged.T6 := by kernel_rfl
theorem extent_merged.bits6 : waitsOk extent_merged.T6.2 extent_merged.B6 = true := by kernel_rfl
def extent_merged.T7 : Bool × List (List Nat × List Nat) := (true, [([], []), ([], []), ([1], [1]), ([0, 2], [0, 2]), ([3], [3]), ([4], [4]), ([], []), ([6], [6]), ([5, 7], [5, 7]), ([0, 2, 0, 1, 2, 3, 4, 5, 6, 7, 8], [0, 2]), ([9, 0, 1, 2, 3, 4, 5, 6, 7, 8], [9]), ([10, 8, 0, 1, 2, 3, 4, 5, 6, 7, 8], [8, 10])])
def extent_merged.B7 : List Nat := [0, 0, 2, 7, 15, 31, 0, 64, 255, 511, 1023, 2047]
theorem extent_merged.tab7 : rtab .any (opsOf Try.f40 7) = extent_merged.T7 := by kernel_rfl
theorem extent_merged.bits7 : waitsOk extent_merged.T7.2 extent_merged.B7 = true := by kernel_rfl
set_option maxHeartbeats 8000000 in
set_option maxRecDepth 100000 in
theorem extent_merged.calls (k : Nat) (A0 : Option Addr) (c0 : Nat) (l0 : List (S24)) (r1 : List (S24)) (r2 : Int) (w : World) (hr0 : Kd.C k24 w A0 l0.length l0) (hc0 : l0.length ≤ c0) (h : extent_merged.f k l0 = some (r1, r2)) :
  Calls Try.prog 40 #[.slice A0 l0.length c0] w fun e w' => ∃ v0_ : Value, e = .returned (.tuple #[v0_, .int .i64 r2]) ∧ Kd.R k24 24 w' w.heap.size (fun _ => True) v0_ r1 ∧ Below w.heap.size w w' := by
 have hu24 := Try.underlying24
 have HR0 := Aside0.mk hr0
 have HC0 := Aside0.mk hc0
 clear hr0 hc0
 have HB := Aside0.mk (Below.refl w.heap.size w)
 have H : (extent_merged.l0 k ([] : List (S24)) l0 (l0.length : Int) 0) = some (r1, r2) := h
 clear h
 have H' := Aside0.mk H
 clear H
 go_enter Try.func40, Try.ntmps40
 go_wp2
 go_loopg [4, 10] k (fun kq v4 v10 w' => ∃ (x4_1 : List (S24)) (x10_1 : Int), v10 = .int .i64 x10_1 ∧ Aside0 (extent_merged.l0 kq x4_1 l0 (l0.length : Int) x10_1 = some (r1, r2)) ∧ Aside0 (kq ≤ k) ∧ Aside0 (Kd.R k24 24 w' w.heap.size (fun _ => True) v4 x4_1) ∧ Aside0 (Below w.heap.size w w'))
 case atStart => exact ⟨(([] : List (S24))), (0), (by first | rfl | (simp; done) | (simp [*]; done)), H', ⟨Nat.le_refl _⟩, ⟨by first | exact Kd.R_nil _ _ _ _ _ | exact Kd.N_nil _ _ _ _ _ | exact Kd.V_nil _ _ _ _ _ | exact Kd.Q_nil _ _ _ _ _ | exact Kd.S_nil _ _ _ _ _⟩, ⟨by repeat (first | (with_reducible first | exact HB.out | apply below_alloc | apply pw_below_drewN | apply below_drew1) | exact HB.out)⟩⟩
 case round =>
  clear H'
  obtain ⟨x4_1, x10_1, rfl, HA, HK1, HO_4, HB⟩ := hrel
  cases gk with
  | zero => exact absurd HA.out (by intro h_; cases h_)
  | succ k1 =>
   have H := HA.out
   clear HA
   simp only [extent_merged.l0] at H
   by_cases c2 : x10_1 < (l0.length : Int)
   ·rw [if_pos c2] at H
    have c2b0 : decide (x10_1 < (l0.length : Int)) = true := decide_eq_true c2
    clear c2
    by_cases c3 : 0 ≤ x10_1
    ·rw [if_pos c3] at H
     have c3b0 : decide (0 ≤ x10_1) = true := decide_eq_true c3
     clear c3
     by_cases c4 : x10_1 < (l0.length : Int)
     ·rw [if_pos c4] at H
      have c4b0 : decide (x10_1 < (l0.length : Int)) = true := decide_eq_true c4
      clear c4
      by_cases c5 : (x4_1.length : Int) > 0
      ·rw [if_pos c5] at H
       have c5b0 : decide (0 < (x4_1.length : Int)) = true := decide_eq_true c5
       have c5b1 : decide (0 < x4_1.length) = true := decide_eq_true (by omega)
       clear c5
       obtain ⟨ji6, hji6⟩ : ∃ j_ : Int, (wrap64 ((x4_1.length : Int) - 1)) = j_ := ⟨_, rfl⟩
       replace H : (if 0 ≤ (ji6) then (if (ji6) < (x4_1.length : Int) then ((extent_goes.f ((rd_T24 x4_1 (ji6)).f0) ((rd_T24 x4_1 (ji6)).f1) ((rd_T24 x4_1 (ji6)).f2) ((rd_T24 x4_1 (ji6)).f3) ((rd_T24 l0 x10_1).f0) ((rd_T24 l0 x10_1).f1) ((rd_T24 l0 x10_1).f2) ((rd_T24 l0 x10_1).f3)).bind fun t122 => (if t122 = true then (extent_merged.l0 k1 (x4_1.set ((ji6) : Int).toNat (⟨(rd_T24 x4_1 (ji6)).f0, (rd_T24 x4_1 (ji6)).f1, wrap64 (((rd_T24 x4_1 (ji6)).f2) + ((rd_T24 l0 x10_1).f2)), (rd_T24 x4_1 (ji6)).f3⟩ : S24)) l0 (l0.length : Int) (wrap64 (x10_1 + 1))) else (if x4_1.length < 4398046511104 then (extent_merged.l0 k1 (x4_1 ++ [(⟨(rd_T24 l0 x10_1).f0, (rd_T24 l0 x10_1).f1, (rd_T24 l0 x10_1).f2, (rd_T24 l0 x10_1).f3⟩ : S24)]) l0 (l0.length : Int) (wrap64 (x10_1 + 1))) else (none)))) else (none)) else (none)) = some (r1, r2) := by first | (rw [hji6] at H; exact H) | (simp only [hji6] at H ⊢; exact H)
       have hji6w : (IntKind.i64.wrap ((x4_1.length : Int) - 1)) = ji6 := (i64_w _).trans hji6
       (try rw [hji6] at c2b0)
       (try rw [hji6] at c3b0)
       (try rw [hji6] at c4b0)
       (try rw [hji6] at c5b0)
       (try rw [hji6] at c5b1)
       by_cases c7 : 0 ≤ (ji6)
       ·rw [if_pos c7] at H
        have c7b0 : decide (0 ≤ (ji6)) = true := decide_eq_true c7
        clear c7
        by_cases c8 : (ji6) < (x4_1.length : Int)
        ·rw [if_pos c8] at H
         have c8b0 : decide ((ji6) < (x4_1.length : Int)) = true := decide_eq_true c8
         clear c8
         replace H := Option.bind_eq_some_iff.mp H
         obtain ⟨t122, A90, H⟩ := H
         replace H : (if t122 = true then (extent_merged.l0 k1 (x4_1.set ((ji6) : Int).toNat (⟨(rd_T24 x4_1 (ji6)).f0, (rd_T24 x4_1 (ji6)).f1, wrap64 (((rd_T24 x4_1 (ji6)).f2) + ((rd_T24 l0 x10_1).f2)), (rd_T24 x4_1 (ji6)).f3⟩ : S24)) l0 (l0.length : Int) (wrap64 (x10_1 + 1))) else (if x4_1.length < 4398046511104 then (extent_merged.l0 k1 (x4_1 ++ [(⟨(rd_T24 l0 x10_1).f0, (rd_T24 l0 x10_1).f1, (rd_T24 l0 x10_1).f2, (rd_T24 l0 x10_1).f3⟩ : S24)]) l0 (l0.length : Int) (wrap64 (x10_1 + 1))) else (none))) = some (r1, r2) := H
         have A9 := Aside0.mk A90
         clear A90
         by_cases c10 : t122 = true
         ·subst c10
          have H1 : (extent_merged.l0 k1 (x4_1.set ((ji6) : Int).toNat (⟨(rd_T24 x4_1 (ji6)).f0, (rd_T24 x4_1 (ji6)).f1, wrap64 (((rd_T24 x4_1 (ji6)).f2) + ((rd_T24 l0 x10_1).f2)), (rd_T24 x4_1 (ji6)).f3⟩ : S24)) l0 (l0.length : Int) (wrap64 (x10_1 + 1))) = some (r1, r2) := by rw [if_pos rfl] at H; exact H
          clear H;have H := H1;clear H1
          obtain ⟨y124, hy124⟩ : ∃ y_ : List (S24), y_ = (x4_1.set ((ji6) : Int).toNat (⟨(rd_T24 x4_1 (ji6)).f0, (rd_T24 x4_1 (ji6)).f1, wrap64 (((rd_T24 x4_1 (ji6)).f2) + ((rd_T24 l0 x10_1).f2)), (rd_T24 x4_1 (ji6)).f3⟩ : S24)) := ⟨_, rfl⟩
          replace H : (extent_merged.l0 k1 y124 l0 (l0.length : Int) (wrap64 (x10_1 + 1))) = some (r1, r2) := by first | (rw [hy124]; with_reducible exact H) | (have H2_ := (Option.bind_some _ _).symm.trans H; rw [hy124]; with_reducible exact H2_) | (have H2_ := (Option.bind_some _ _).symm.trans H; with_reducible exact H2_) | with_reducible exact H | (rw [hy124]; exact H) | exact H
          have Ny124 := Aside0.mk hy124
          clear hy124
          have H' := Aside0.mk H
          clear H
          have p119 : 0 ≤ (x10_1 : Int) := of_decide_eq_true (by first | (with_reducible assumption) | assumption)
          have q119 : x10_1 < (l0.length : Int) := of_decide_eq_true (by first | (with_reducible assumption) | assumption)
          obtain ⟨ad119, e119, hx119_0, hx119_1, hx119_2, hx119_3⟩ := at_T24 HR0.out x10_1 p119 q119
          cases e119
          replace hx119_0 := (HB.out.cell (World.block_lt_of_cell? w _ hx119_0)).trans hx119_0
          replace hx119_1 := (HB.out.cell (World.block_lt_of_cell? w _ hx119_1)).trans hx119_1
          replace hx119_2 := (HB.out.cell (World.block_lt_of_cell? w _ hx119_2)).trans hx119_2
          replace hx119_3 := (HB.out.cell (World.block_lt_of_cell? w _ hx119_3)).trans hx119_3
          replace p119 := eq_true p119;replace q119 := eq_true q119
          try go_wp2_with (first | ((with_reducible refine gate_dst (N := 6) rfl ?_); refine box_event ?hg (N := 6) ?hd (cs := #[.int .i64 0, .int .i64 0, .int .i64 0, .bool false]) (t := 24) ?hr ?_; (case hd => rfl); (case hg => rfl); (case hr => first | (go_simp; done) | (go_simp; rfl)); intro gb120 hg w12 hbox hb; have n0_ := Aside0.mk (Kd.R_below (Kd.R_elderB (by (with_reducible repeat (first | apply Kd.R_alloc | apply Kd.R_drewN | apply Kd.R_drew)); exact HO_4.out) gb120 (Nat.le_of_eq hg.symm)) hb); have n1_ := Aside0.mk (below_step (by repeat (first | (with_reducible first | exact HB.out | apply below_alloc | apply pw_below_drewN | apply below_drew1) | exact HB.out)) hb); have n2_ := Aside0.mk (hbox); have n3_ := Aside0.mk ((by rw [hg]; exact (below_size (by repeat (first | (with_reducible first | exact HB.out | apply below_alloc | apply pw_below_drewN | apply below_drew1) | exact HB.out))) : w.heap.size ≤ gb120)); have n4_ := Aside0.mk ((by rw [hg]; exact (below_size (by repeat (first | (with_reducible first | exact HB.out | apply below_alloc | apply pw_below_drewN | apply below_drew1) | exact HB.out))) : w.heap.size ≤ gb120)); clear HO_4; clear HB; have HO_4 := n0_; have HB := n1_; have BK120 := n2_; have GW120 := n3_; have GE120 := n4_; clear n0_ n1_ n2_ n3_ n4_; clear hb hbox hg; have hcz13_0 : w12.cell? ⟨gb120, 0, none⟩ = some (.int .i64 0) := (blk_cell BK120.out 0).trans rfl; have hcz13_1 : w12.cell? ⟨gb120, 1, none⟩ = some (.int .i64 0) := (blk_cell BK120.out 1).trans rfl; have hcz13_2 : w12.cell? ⟨gb120, 2, none⟩ = some (.int .i64 0) := (blk_cell BK120.out 2).trans rfl; have hcz13_3 : w12.cell? ⟨gb120, 3, none⟩ = some (.bool false) := (blk_cell BK120.out 3).trans rfl; have hfz13_0 := blk_frozen BK120.out 0; have hfz13_1 := blk_frozen BK120.out 1; have hfz13_2 := blk_frozen BK120.out 2; have hfz13_3 := blk_frozen BK120.out 3; obtain ⟨Ao14, co14, eo14⟩ := Kd.R_slice HO_4.out; subst eo14))
          have n0_ : Aside0 (Kd.R k24 24 ((((w12.setCell ⟨gb120, 0, none⟩ (.int .i64 ((rd_T24 l0 x10_1).f0))).setCell ⟨gb120, 1, none⟩ (.int .i64 ((rd_T24 l0 x10_1).f1))).setCell ⟨gb120, 2, none⟩ (.int .i64 ((rd_T24 l0 x10_1).f2))).setCell ⟨gb120, 3, none⟩ (.bool ((rd_T24 l0 x10_1).f3))) w.heap.size (fun k_ => k_ ≠ gb120) (.slice Ao14 x4_1.length co14) x4_1) := ⟨by (with_reducible repeat (first | apply Kd.R_alloc | apply Kd.R_drewN | apply Kd.R_drew)); exact Kd.R_mono (Kd.R_far (p := ⟨gb120, 3, none⟩) (Kd.R_far (p := ⟨gb120, 2, none⟩) (Kd.R_far (p := ⟨gb120, 1, none⟩) (Kd.R_far (p := ⟨gb120, 0, none⟩) (Kd.R_mono HO_4.out (fun k_ hk => (⟨hk, hk.2⟩ : _ ∧ k_ ≠ gb120))) (fun _ hk => hk.2) (.int .i64 ((rd_T24 l0 x10_1).f0))) (fun _ hk => hk.2) (.int .i64 ((rd_T24 l0 x10_1).f1))) (fun _ hk => hk.2) (.int .i64 ((rd_T24 l0 x10_1).f2))) (fun _ hk => hk.2) (.bool ((rd_T24 l0 x10_1).f3))) (fun _ hk => hk.1.2)⟩
          have n1_ : Aside0 (((((w12.setCell ⟨gb120, 0, none⟩ (.int .i64 ((rd_T24 l0 x10_1).f0))).setCell ⟨gb120, 1, none⟩ (.int .i64 ((rd_T24 l0 x10_1).f1))).setCell ⟨gb120, 2, none⟩ (.int .i64 ((rd_T24 l0 x10_1).f2))).setCell ⟨gb120, 3, none⟩ (.bool ((rd_T24 l0 x10_1).f3))).heap[gb120]? = some (.cells #[.int .i64 ((rd_T24 l0 x10_1).f0), .int .i64 ((rd_T24 l0 x10_1).f1), .int .i64 ((rd_T24 l0 x10_1).f2), .bool ((rd_T24 l0 x10_1).f3)] 24 (0, 0))) := ⟨by (with_reducible repeat (first | refine blk_drewN ?_ _ | refine blk_drew ?_ | refine blk_alloc ?_ _)); refine blk_put (cs := #[.int .i64 ((rd_T24 l0 x10_1).f0), .int .i64 ((rd_T24 l0 x10_1).f1), .int .i64 ((rd_T24 l0 x10_1).f2), .bool false]) ?_ 3 _ rfl; (with_reducible repeat (first | refine blk_drewN ?_ _ | refine blk_drew ?_ | refine blk_alloc ?_ _)); refine blk_put (cs := #[.int .i64 ((rd_T24 l0 x10_1).f0), .int .i64 ((rd_T24 l0 x10_1).f1), .int .i64 0, .bool false]) ?_ 2 _ rfl; (with_reducible repeat (first | refine blk_drewN ?_ _ | refine blk_drew ?_ | refine blk_alloc ?_ _)); refine blk_put (cs := #[.int .i64 ((rd_T24 l0 x10_1).f0), .int .i64 0, .int .i64 0, .bool false]) ?_ 1 _ rfl; (with_reducible repeat (first | refine blk_drewN ?_ _ | refine blk_drew ?_ | refine blk_alloc ?_ _)); refine blk_put (cs := #[.int .i64 0, .int .i64 0, .int .i64 0, .bool false]) ?_ 0 _ rfl; (with_reducible repeat (first | refine blk_drewN ?_ _ | refine blk_drew ?_ | refine blk_alloc ?_ _)); exact BK120.out⟩
          have n2_ : Aside0 (Below w.heap.size w ((((w12.setCell ⟨gb120, 0, none⟩ (.int .i64 ((rd_T24 l0 x10_1).f0))).setCell ⟨gb120, 1, none⟩ (.int .i64 ((rd_T24 l0 x10_1).f1))).setCell ⟨gb120, 2, none⟩ (.int .i64 ((rd_T24 l0 x10_1).f2))).setCell ⟨gb120, 3, none⟩ (.bool ((rd_T24 l0 x10_1).f3)))) := ⟨by repeat (first | (with_reducible first | exact HB.out | apply below_alloc | apply pw_below_drewN | apply below_drew1 | refine below_set ?_ GE120.out) | exact HB.out)⟩
          (try clear HO_4)
          (try clear BK120)
          (try clear HB)
          generalize ((((w12.setCell ⟨gb120, 0, none⟩ (.int .i64 ((rd_T24 l0 x10_1).f0))).setCell ⟨gb120, 1, none⟩ (.int .i64 ((rd_T24 l0 x10_1).f1))).setCell ⟨gb120, 2, none⟩ (.int .i64 ((rd_T24 l0 x10_1).f2))).setCell ⟨gb120, 3, none⟩ (.bool ((rd_T24 l0 x10_1).f3))) = w15 at n0_ n1_ n2_ ⊢
          have HO_4 := n0_;have BK120 := n1_;have HB := n2_;clear n0_ n1_ n2_
          have n0_ := Aside0.mk (Kd.R_drew HO_4.out)
          have n1_ := Aside0.mk (blk_drew BK120.out)
          have n2_ := Aside0.mk (below_drew1 HB.out)
          clear HO_4;clear BK120;clear HB;have HO_4 := n0_;have BK120 := n1_;have HB := n2_;clear n0_ n1_ n2_
          have p121 : 0 ≤ ((ji6) : Int) := of_decide_eq_true (by first | (with_reducible assumption) | assumption)
          have q121 : (ji6) < (x4_1.length : Int) := of_decide_eq_true (by first | (with_reducible assumption) | assumption)
          obtain ⟨ad121, e121, hx121_0, hx121_1, hx121_2, hx121_3⟩ := at_T24 (Kd.R_reads' HO_4.out).2.2 (ji6) p121 q121
          cases e121
          replace p121 := eq_true p121;replace q121 := eq_true q121
          refine start_ (n := 11) (S := fun w' => w'.cell? ⟨gb120, 0, none⟩ = some (.int .i64 ((rd_T24 l0 x10_1).f0)) ∧ w'.cell? ⟨gb120, 1, none⟩ = some (.int .i64 ((rd_T24 l0 x10_1).f1)) ∧ w'.cell? ⟨gb120, 2, none⟩ = some (.int .i64 ((rd_T24 l0 x10_1).f2)) ∧ w'.cell? ⟨gb120, 3, none⟩ = some (.bool ((rd_T24 l0 x10_1).f3)) ∧ w'.cell? (ad121.add (((ji6)).toNat * 4)) = some (.int .i64 ((rd_T24 x4_1 (ji6)).f0)) ∧ w'.cell? ⟨(ad121.add (((ji6)).toNat * 4)).block, (ad121.add (((ji6)).toNat * 4)).off + 1, none⟩ = some (.int .i64 ((rd_T24 x4_1 (ji6)).f1)) ∧ w'.cell? ⟨(ad121.add (((ji6)).toNat * 4)).block, (ad121.add (((ji6)).toNat * 4)).off + 2, none⟩ = some (.int .i64 ((rd_T24 x4_1 (ji6)).f2)) ∧ w'.cell? ⟨(ad121.add (((ji6)).toNat * 4)).block, (ad121.add (((ji6)).toNat * 4)).off + 3, none⟩ = some (.bool ((rd_T24 x4_1 (ji6)).f3))) (ds := []) #[false, false, false, false, false, false, false, false, false, false, false] (by kernel_rfl) rfl rfl ⟨(blk_cell BK120.out 0).trans rfl, (blk_cell BK120.out 1).trans rfl, (blk_cell BK120.out 2).trans rfl, (blk_cell BK120.out 3).trans rfl, hx121_0, hx121_1, hx121_2, hx121_3⟩ (fun hHeld => ?_); refine with_tabW extent_merged.tab6 extent_merged.bits6 (fun HT_ HW_ => ?_)
          generalize w15.drew = w16 at HO_4 BK120 HB hx121_0 hx121_1 hx121_2 hx121_3 hHeld ⊢
          refine pure_ (i := 0) (N := some 16) (v := ?_) (a' := ?_) #[true, false, false, false, false, false, false, false, false, false, false] rfl rfl (any_of HT_.out (by kernel_rfl)) (fun _ _ _ h => h) (Or.inl ⟨by rfl, ?_⟩) ?_ ?_;rotate_left;(intro w';go_simp;with_reducible rfl);rotate_left;(simp only [Act.put, sIb, sC0, sCs, i64_w, i32_w];rfl);refine pure_ (i := 1) (N := some 17) (v := ?_) (a' := ?_) #[true, true, false, false, false, false, false, false, false, false, false] rfl rfl (any_of HT_.out (by kernel_rfl)) (fun _ _ _ h => h) (Or.inl ⟨by rfl, ?_⟩) ?_ ?_;rotate_left;(intro w';go_simp;with_reducible rfl);rotate_left;(simp only [Act.put, sIb, sC0, sCs, i64_w, i32_w];rfl);refine pure_ (i := 2) (N := some 18) (v := ?_) (a' := ?_) #[true, true, true, false, false, false, false, false, false, false, false] rfl rfl (any_of HT_.out (by kernel_rfl)) (fun _ _ _ h => h) (Or.inl ⟨by rfl, ?_⟩) ?_ ?_;rotate_left;(intro w';go_simp;with_reducible rfl);rotate_left;(simp only [Act.put, sIb, sC0, sCs, i64_w, i32_w];rfl);refine pure_ (i := 3) (N := some 19) (v := ?_) (a' := ?_) #[true, true, true, true, false, false, false, false, false, false, false] rfl rfl (any_of HT_.out (by kernel_rfl)) (fun _ _ _ h => h) (Or.inl ⟨by rfl, ?_⟩) ?_ ?_;rotate_left;(intro w';go_simp;with_reducible rfl);rotate_left;(simp only [Act.put, sIb, sC0, sCs, i64_w, i32_w];rfl);refine pure_ (i := 4) (N := some 20) (v := ?_) (a' := ?_) #[true, true, true, true, true, false, false, false, false, false, false] rfl rfl (any_of HT_.out (by kernel_rfl)) (fun _ _ _ h => h) (Or.inl ⟨by rfl, ?_⟩) ?_ ?_;rotate_left;(intro w';go_simp;with_reducible rfl);rotate_left;(simp only [Act.put, sIb, sC0, sCs, i64_w, i32_w];rfl);refine pure_ (i := 5) (N := some 21) (v := ?_) (a' := ?_) #[true, true, true, true, true, true, false, false, false, false, false] rfl rfl (any_of HT_.out (by kernel_rfl)) (fun _ _ _ h => h) (Or.inl ⟨by rfl, ?_⟩) ?_ ?_;rotate_left;(intro w';go_simp;with_reducible rfl);rotate_left;(simp only [Act.put, sIb, sC0, sCs, i64_w, i32_w];rfl);refine pure_ (i := 6) (N := some 22) (v := ?_) (a' := ?_) #[true, true, true, true, true, true, true, false, false, false, false] rfl rfl (any_of HT_.out (by kernel_rfl)) (fun _ _ _ h => h) (Or.inl ⟨by rfl, ?_⟩) ?_ ?_;rotate_left;(intro w';go_simp;with_reducible rfl);rotate_left;(simp only [Act.put, sIb, sC0, sCs, i64_w, i32_w];rfl);refine take_ (i := 7) (N := some 23) (v := ?_) (a' := ?_) #[true, true, true, true, true, true, true, true, false, false, false] rfl rfl (take_ofW HT_.out HW_.out (by kernel_rfl)) (fun _ _ _ h => h) (Or.inl ⟨by rfl, ?_⟩) hHeld ?_ ?_;rotate_left
          ·rintro w' ⟨s0, s1, s2, s3, s4, s5, s6, s7⟩
           go_simp;with_reducible rfl
          rotate_left;(simp only [Act.put, sIb, sC0, sCs, i64_w, i32_w];rfl);refine take_ (i := 8) (N := some 24) (v := ?_) (a' := ?_) #[true, true, true, true, true, true, true, true, true, false, false] rfl rfl (take_ofW HT_.out HW_.out (by kernel_rfl)) (fun _ _ _ h => h) (Or.inl ⟨by rfl, ?_⟩) hHeld ?_ ?_;rotate_left
          ·rintro w' ⟨s0, s1, s2, s3, s4, s5, s6, s7⟩
           go_simp;with_reducible rfl
          rotate_left;(simp only [Act.put, sIb, sC0, sCs, i64_w, i32_w];rfl)
          refine one_ (i := 9) (N := some 25) #[true, true, true, true, true, true, true, true, true, true, false] rfl rfl (one_of HT_.out (by kernel_rfl)) (by decide) (fun K hK => ?_)
          refine goes_ Try.func36 (by kernel_rfl) rfl #[.agg #[.int .i64 ((rd_T24 x4_1 (ji6)).f0), .int .i64 ((rd_T24 x4_1 (ji6)).f1), .int .i64 ((rd_T24 x4_1 (ji6)).f2), .bool ((rd_T24 x4_1 (ji6)).f3)], .agg #[.int .i64 ((rd_T24 l0 x10_1).f0), .int .i64 ((rd_T24 l0 x10_1).f1), .int .i64 ((rd_T24 l0 x10_1).f2), .bool ((rd_T24 l0 x10_1).f3)]] (by rfl) rfl rfl (by (try simp only [List.map_toArray, List.map_cons, List.map_nil]); first | done | (simp only [hji6]; rfl) | rfl | (simp only [List.length_drop, List.length_take]; rfl)) ?_
          with_reducible refine (extent_goes.calls ((rd_T24 x4_1 (ji6)).f0) ((rd_T24 x4_1 (ji6)).f1) ((rd_T24 x4_1 (ji6)).f2) ((rd_T24 x4_1 (ji6)).f3) ((rd_T24 l0 x10_1).f0) ((rd_T24 l0 x10_1).f1) ((rd_T24 l0 x10_1).f2) ((rd_T24 l0 x10_1).f3) true _ A9.out).mono ?_
          rintro e w17 ⟨rfl, hb⟩
          have HS4_ := (hb.cell (World.block_lt_of_cell? _ _ (hHeld.2.2.2.2.1))).trans (hHeld.2.2.2.2.1)
          have HS5_ := (hb.cell (World.block_lt_of_cell? _ _ (hHeld.2.2.2.2.2.1))).trans (hHeld.2.2.2.2.2.1)
          have HS6_ := (hb.cell (World.block_lt_of_cell? _ _ (hHeld.2.2.2.2.2.2.1))).trans (hHeld.2.2.2.2.2.2.1)
          have HS7_ := (hb.cell (World.block_lt_of_cell? _ _ (hHeld.2.2.2.2.2.2.2))).trans (hHeld.2.2.2.2.2.2.2)
          refine ⟨_, rfl, ?_⟩
          have n0_ := Aside0.mk (Kd.R_below (by (with_reducible repeat (first | apply Kd.R_alloc | apply Kd.R_drewN | apply Kd.R_drew)); exact HO_4.out) hb)
          have n1_ := Aside0.mk (blk_below (g := gb120) (o := .cells #[.int .i64 ((rd_T24 l0 x10_1).f0), .int .i64 ((rd_T24 l0 x10_1).f1), .int .i64 ((rd_T24 l0 x10_1).f2), .bool ((rd_T24 l0 x10_1).f3)] 24 (0, 0)) (by (with_reducible repeat (first | refine blk_drewN ?_ _ | refine blk_drew ?_ | refine blk_alloc ?_ _)); exact BK120.out) hb)
          have n2_ := Aside0.mk (below_step (by repeat (first | (with_reducible first | exact HB.out | apply below_alloc | apply pw_below_drewN | apply below_drew1 | refine below_set ?_ GE120.out) | exact HB.out)) hb)
          clear HO_4;clear BK120;clear HB;have HO_4 := n0_;have BK120 := n1_;have HB := n2_;clear n0_ n1_ n2_
          (try clear hb)
          (try clear hb2)
          (try clear hk)
          (try clear hi)
          refine hK.out _ _ ⟨(blk_cell BK120.out 0).trans rfl, (blk_cell BK120.out 1).trans rfl, (blk_cell BK120.out 2).trans rfl, (blk_cell BK120.out 3).trans rfl, HS4_, HS5_, HS6_, HS7_⟩ (fun hHeld => ?_)
          clear hK K;refine norm_ (a' := ?_) ?_ ?_;rotate_left
          ·show Act.put _ (some 25) _ = _
           simp only [Act.put, sIb, sC0, sCs, i64_w, i32_w];rfl
          refine pure_ (i := 10) (N := some 26) (v := ?_) (a' := ?_) #[true, true, true, true, true, true, true, true, true, true, true] rfl rfl (any_of HT_.out (by kernel_rfl)) (fun _ _ _ h => h) (Or.inl ⟨by rfl, ?_⟩) ?_ ?_;rotate_left;(intro w';go_simp;with_reducible rfl);rotate_left;(simp only [Act.put, sIb, sC0, sCs, i64_w, i32_w];rfl)
          refine done_ (done_of HT_.out (by kernel_rfl)) ?_
          try go_wp2
          have n0_ := Aside0.mk (Kd.R_drew HO_4.out)
          have n1_ := Aside0.mk (blk_drew BK120.out)
          have n2_ := Aside0.mk (below_drew1 HB.out)
          clear HO_4;clear BK120;clear HB;have HO_4 := n0_;have BK120 := n1_;have HB := n2_;clear n0_ n1_ n2_
          have p123 : 0 ≤ ((ji6) : Int) := of_decide_eq_true (by first | (with_reducible assumption) | assumption)
          have q123 : (ji6) < (x4_1.length : Int) := of_decide_eq_true (by first | (with_reducible assumption) | assumption)
          obtain ⟨ad123, e123, hx123_0, hx123_1, hx123_2, hx123_3⟩ := at_T24 (Kd.R_reads' HO_4.out).2.2 (ji6) p123 q123
          obtain rfl : ad121 = ad123 := (by injection e123)
          replace p123 := eq_true p123;replace q123 := eq_true q123
          have p11 : 0 ≤ ((ji6) : Int) := of_decide_eq_true (by first | (with_reducible assumption) | assumption)
          have q11 : ((ji6) : Int) < ((x4_1.length : Int) : Int) := of_decide_eq_true (by first | (with_reducible assumption) | assumption)
          obtain ⟨go11, co11, eo11, gb11, gl11, cl11, HG11⟩ := Kd.R_form HO_4.out (by omega)
          (first | cases eo11 | (injection eo11 with ea_ en_ ec_; (first | subst ea_ | (injection ea_ with ea_; subst ea_)); subst ec_; clear en_))
          have GB11 := Aside0.mk gb11
          have GG11 := Aside0.mk HG11
          clear gb11 gl11 HG11
          (first | simp only [add_plain] at hx121_0 | skip)
          (first | simp only [add_plain] at hx121_1 | skip)
          (first | simp only [add_plain] at hx121_2 | skip)
          (first | simp only [add_plain] at hx121_3 | skip)
          (first | simp only [add_plain] at hx123_0 | skip)
          (first | simp only [add_plain] at hx123_1 | skip)
          (first | simp only [add_plain] at hx123_2 | skip)
          (first | simp only [add_plain] at hx123_3 | skip)
          obtain ⟨ce11, hcl11, hM11, hcc11, hfr11⟩ := Kd.R_elem HO_4.out z24 ((ji6) : Int) p11 q11
          obtain rfl := k24_openM hM11
          have hx11_0 : World.cell? _ ⟨go11, ((ji6) : Int).toNat * 4, none⟩ = some (.int .i64 ((rd_T24 x4_1 (ji6)).f0)) := hcc11 0 _ rfl
          have hx11_1 : World.cell? _ ⟨go11, ((ji6) : Int).toNat * 4 + 1, none⟩ = some (.int .i64 ((rd_T24 x4_1 (ji6)).f1)) := hcc11 1 _ rfl
          have hx11_2 : World.cell? _ ⟨go11, ((ji6) : Int).toNat * 4 + 2, none⟩ = some (.int .i64 ((rd_T24 x4_1 (ji6)).f2)) := hcc11 2 _ rfl
          have hx11_3 : World.cell? _ ⟨go11, ((ji6) : Int).toNat * 4 + 3, none⟩ = some (.bool ((rd_T24 x4_1 (ji6)).f3)) := hcc11 3 _ rfl
          have hf11_0 : World.frozen? _ ⟨go11, ((ji6) : Int).toNat * 4, none⟩ = false := hfr11 0
          have hf11_1 : World.frozen? _ ⟨go11, ((ji6) : Int).toNat * 4 + 1, none⟩ = false := hfr11 1
          have hf11_2 : World.frozen? _ ⟨go11, ((ji6) : Int).toNat * 4 + 2, none⟩ = false := hfr11 2
          have hf11_3 : World.frozen? _ ⟨go11, ((ji6) : Int).toNat * 4 + 3, none⟩ = false := hfr11 3
          clear hcl11 hcc11 hfr11 hM11;replace p11 := eq_true p11;replace q11 := eq_true q11
          obtain ⟨ce19, hcl19, hM19, hcc19, hfr19⟩ := Kd.R_elem HO_4.out z24 ((ji6) : Int) (of_decide_eq_true (by first | (with_reducible assumption) | assumption)) (by have h_ : ((ji6) : Int) < ((x4_1.length : Int) : Int) := of_decide_eq_true (by first | (with_reducible assumption) | assumption); first | exact h_ | (have e_ := (Kd.R_reads' HO_4.out).1; omega) | simpa using h_)
          obtain rfl := k24_openM hM19
          have HP19 := (Kd.R_seg HO_4.out ((ji6) : Int) (of_decide_eq_true (by first | (with_reducible assumption) | assumption)) (by have h_ : ((ji6) : Int) < ((x4_1.length : Int) : Int) := of_decide_eq_true (by first | (with_reducible assumption) | assumption); first | exact h_ | (have e_ := (Kd.R_reads' HO_4.out).1; omega) | simpa using h_) (seg := [.int .i64 (wrap64 (((rd_T24 x4_1 (ji6)).f2) + ((rd_T24 l0 x10_1).f2)))]) (j := 2) hcl19 hcc19 (show 3 ≤ 4 from by decide) (x' := (⟨(rd_T24 x4_1 (ji6)).f0, (rd_T24 x4_1 (ji6)).f1, wrap64 (((rd_T24 x4_1 (ji6)).f2) + ((rd_T24 l0 x10_1).f2)), (rd_T24 x4_1 (ji6)).f3⟩ : S24)) (k24_mkM _ _ _ (⟨(rd_T24 x4_1 (ji6)).f0, (rd_T24 x4_1 (ji6)).f1, wrap64 (((rd_T24 x4_1 (ji6)).f2) + ((rd_T24 l0 x10_1).f2)), (rd_T24 x4_1 (ji6)).f3⟩ : S24) ) (fun _ hk => hk)).1
          rw [← Ny124.out] at HP19
          have HQ19 := Aside0.mk HP19
          clear hcl19 hcc19 hfr19 hM19 HP19
          refine start_ (n := 12) (S := fun w' => w'.cell? ⟨gb120, 0, none⟩ = some (.int .i64 ((rd_T24 l0 x10_1).f0)) ∧ w'.cell? ⟨gb120, 1, none⟩ = some (.int .i64 ((rd_T24 l0 x10_1).f1)) ∧ w'.cell? ⟨gb120, 2, none⟩ = some (.int .i64 ((rd_T24 l0 x10_1).f2)) ∧ w'.cell? ⟨gb120, 3, none⟩ = some (.bool ((rd_T24 l0 x10_1).f3)) ∧ w'.cell? ⟨go11, (((ji6)).toNat * 4), none⟩ = some (.int .i64 ((rd_T24 x4_1 (ji6)).f0)) ∧ w'.cell? ⟨go11, (((ji6)).toNat * 4) + 1, none⟩ = some (.int .i64 ((rd_T24 x4_1 (ji6)).f1)) ∧ w'.cell? ⟨go11, (((ji6)).toNat * 4) + 2, none⟩ = some (.int .i64 ((rd_T24 x4_1 (ji6)).f2)) ∧ w'.cell? ⟨go11, (((ji6)).toNat * 4) + 3, none⟩ = some (.bool ((rd_T24 x4_1 (ji6)).f3))) (ds := [11]) #[false, false, false, false, false, false, false, false, false, false, false, false] (by kernel_rfl) rfl rfl ⟨(blk_cell BK120.out 0).trans rfl, (blk_cell BK120.out 1).trans rfl, (blk_cell BK120.out 2).trans rfl, (blk_cell BK120.out 3).trans rfl, hx123_0, hx123_1, hx123_2, hx123_3⟩ (fun hHeld => ?_); refine with_tabW extent_merged.tab7 extent_merged.bits7 (fun HT_ HW_ => ?_)
          generalize w17.drew = w18 at HO_4 BK120 HB GG11 HQ19 hf11_0 hf11_1 hf11_2 hf11_3 hx11_0 hx11_1 hx11_2 hx11_3 hx121_0 hx121_1 hx121_2 hx121_3 hx123_0 hx123_1 hx123_2 hx123_3 hHeld ⊢
          refine pure_ (i := 0) (N := some 27) (v := ?_) (a' := ?_) #[true, false, false, false, false, false, false, false, false, false, false, false] rfl rfl (any_of HT_.out (by kernel_rfl)) (fun _ _ _ h => h) (Or.inl ⟨by rfl, ?_⟩) ?_ ?_;rotate_left;(intro w';go_simp;with_reducible rfl);rotate_left;(simp only [Act.put, sIb, sC0, sCs, i64_w, i32_w];rfl);refine pure_ (i := 1) (N := some 28) (v := ?_) (a' := ?_) #[true, true, false, false, false, false, false, false, false, false, false, false] rfl rfl (any_of HT_.out (by kernel_rfl)) (fun _ _ _ h => h) (Or.inl ⟨by rfl, ?_⟩) ?_ ?_;rotate_left;(intro w';go_simp;with_reducible rfl);rotate_left;(simp only [Act.put, sIb, sC0, sCs, i64_w, i32_w];rfl);refine pure_ (i := 2) (N := some 29) (v := ?_) (a' := ?_) #[true, true, true, false, false, false, false, false, false, false, false, false] rfl rfl (any_of HT_.out (by kernel_rfl)) (fun _ _ _ h => h) (Or.inl ⟨by rfl, ?_⟩) ?_ ?_;rotate_left;(intro w';go_simp;with_reducible rfl);rotate_left;(simp only [Act.put, sIb, sC0, sCs, i64_w, i32_w];rfl);refine pure_ (i := 3) (N := some 30) (v := ?_) (a' := ?_) #[true, true, true, true, false, false, false, false, false, false, false, false] rfl rfl (any_of HT_.out (by kernel_rfl)) (fun _ _ _ h => h) (Or.inl ⟨by rfl, ?_⟩) ?_ ?_;rotate_left;(intro w';go_simp;with_reducible rfl);rotate_left;(simp only [Act.put, sIb, sC0, sCs, i64_w, i32_w];rfl);refine pure_ (i := 4) (N := some 31) (v := ?_) (a' := ?_) #[true, true, true, true, true, false, false, false, false, false, false, false] rfl rfl (any_of HT_.out (by kernel_rfl)) (fun _ _ _ h => h) (Or.inl ⟨by rfl, ?_⟩) ?_ ?_;rotate_left;(intro w';go_simp;with_reducible rfl);rotate_left;(simp only [Act.put, sIb, sC0, sCs, i64_w, i32_w];rfl);refine pure_ (i := 6) (N := some 33) (v := ?_) (a' := ?_) #[true, true, true, true, true, false, true, false, false, false, false, false] rfl rfl (any_of HT_.out (by kernel_rfl)) (fun _ _ _ h => h) (Or.inl ⟨by rfl, ?_⟩) ?_ ?_;rotate_left;(intro w';go_simp;with_reducible rfl);rotate_left;(simp only [Act.put, sIb, sC0, sCs, i64_w, i32_w];rfl);refine take_ (i := 5) (N := some 32) (v := ?_) (a' := ?_) #[true, true, true, true, true, true, true, false, false, false, false, false] rfl rfl (take_ofW HT_.out HW_.out (by kernel_rfl)) (fun _ _ _ h => h) (Or.inl ⟨by rfl, ?_⟩) hHeld ?_ ?_;rotate_left
          ·rintro w' ⟨s0, s1, s2, s3, s4, s5, s6, s7⟩
           go_simp;with_reducible rfl
          rotate_left;(simp only [Act.put, sIb, sC0, sCs, i64_w, i32_w];rfl);refine take_ (i := 7) (N := some 34) (v := ?_) (a' := ?_) #[true, true, true, true, true, true, true, true, false, false, false, false] rfl rfl (take_ofW HT_.out HW_.out (by kernel_rfl)) (fun _ _ _ h => h) (Or.inl ⟨by rfl, ?_⟩) hHeld ?_ ?_;rotate_left
          ·rintro w' ⟨s0, s1, s2, s3, s4, s5, s6, s7⟩
           go_simp;with_reducible rfl
          rotate_left;(simp only [Act.put, sIb, sC0, sCs, i64_w, i32_w];rfl);refine pure_ (i := 8) (N := some 35) (v := ?_) (a' := ?_) #[true, true, true, true, true, true, true, true, true, false, false, false] rfl rfl (any_of HT_.out (by kernel_rfl)) (fun _ _ _ h => h) (Or.inl ⟨by rfl, ?_⟩) ?_ ?_;rotate_left;(intro w';go_simp;with_reducible rfl);rotate_left;(simp only [Act.put, sIb, sC0, sCs, i64_w, i32_w];rfl);refine pure_ (i := 9) (N := some 36) (v := ?_) (a' := ?_) #[true, true, true, true, true, true, true, true, true, true, false, false] rfl rfl (any_of HT_.out (by kernel_rfl)) (fun _ _ _ h => h) (Or.inl ⟨by rfl, ?_⟩) ?_ ?_;rotate_left;(intro w';go_simp;with_reducible rfl);rotate_left;(simp only [Act.put, sIb, sC0, sCs, i64_w, i32_w];rfl);refine pure_ (i := 10) (N := some 37) (v := ?_) (a' := ?_) #[true, true, true, true, true, true, true, true, true, true, true, false] rfl rfl (any_of HT_.out (by kernel_rfl)) (fun _ _ _ h => h) (Or.inl ⟨by rfl, ?_⟩) ?_ ?_;rotate_left;(intro w';go_simp;with_reducible rfl);rotate_left;(simp only [Act.put, sIb, sC0, sCs, i64_w, i32_w];rfl)
          refine last_ (i := 11) (N := none) #[true, true, true, true, true, true, true, true, true, true, true, true] rfl rfl (one_of HT_.out (by kernel_rfl)) (by decide) (fun K hK => ?_)
          refine skip_ (w1 := ?_) (by rfl) rfl ?_ ?_
          rotate_left;(go_simp;rfl);refine hK.out _ _ ?_;clear hK K
          refine done_ (done_of HT_.out (by kernel_rfl)) ?_
          try go_wp2
          go_roundg k1
          case measure => have := HK1.out; omega
          case rel => exact ⟨(y124), (wrap64 (x10_1 + 1)), (by first | rfl | (simp; done) | (simp [*]; done)), H', ⟨by have := HK1.out; omega⟩, ⟨by (with_reducible repeat (first | apply Kd.R_alloc | apply Kd.R_drewN | apply Kd.R_drew)); exact Kd.R_mono HQ19.out (fun _ hk => trivial)⟩, ⟨by repeat (first | (with_reducible first | exact HB.out | apply below_alloc | apply pw_below_drewN | apply below_drew1 | refine below_set ?_ GB11.out | refine below_set ?_ GE120.out) | exact HB.out)⟩⟩
         ·replace c10 := Bool.eq_false_iff.mpr c10
          subst c10
          have H1 : (if x4_1.length < 4398046511104 then (extent_merged.l0 k1 (x4_1 ++ [(⟨(rd_T24 l0 x10_1).f0, (rd_T24 l0 x10_1).f1, (rd_T24 l0 x10_1).f2, (rd_T24 l0 x10_1).f3⟩ : S24)]) l0 (l0.length : Int) (wrap64 (x10_1 + 1))) else (none)) = some (r1, r2) := by rw [if_neg (show ¬ (false = true) by decide)] at H; exact H
          clear H;have H := H1;clear H1
          by_cases c20 : x4_1.length < 4398046511104
          ·rw [if_pos c20] at H
           have LMc20 := Aside0.mk c20
           clear c20
           obtain ⟨y125, hy125⟩ : ∃ y_ : List (S24), y_ = (x4_1 ++ [(⟨(rd_T24 l0 x10_1).f0, (rd_T24 l0 x10_1).f1, (rd_T24 l0 x10_1).f2, (rd_T24 l0 x10_1).f3⟩ : S24)]) := ⟨_, rfl⟩
           replace H : (extent_merged.l0 k1 y125 l0 (l0.length : Int) (wrap64 (x10_1 + 1))) = some (r1, r2) := by first | (rw [hy125]; with_reducible exact H) | (have H2_ := (Option.bind_some _ _).symm.trans H; rw [hy125]; with_reducible exact H2_) | (have H2_ := (Option.bind_some _ _).symm.trans H; with_reducible exact H2_) | with_reducible exact H | (rw [hy125]; exact H) | exact H
           have Ny125 := Aside0.mk hy125
           clear hy125
           have H' := Aside0.mk H
           clear H
           have p119 : 0 ≤ (x10_1 : Int) := of_decide_eq_true (by first | (with_reducible assumption) | assumption)
           have q119 : x10_1 < (l0.length : Int) := of_decide_eq_true (by first | (with_reducible assumption) | assumption)
           obtain ⟨ad119, e119, hx119_0, hx119_1, hx119_2, hx119_3⟩ := at_T24 HR0.out x10_1 p119 q119
           cases e119
           replace hx119_0 := (HB.out.cell (World.block_lt_of_cell? w _ hx119_0)).trans hx119_0
           replace hx119_1 := (HB.out.cell (World.block_lt_of_cell? w _ hx119_1)).trans hx119_1
           replace hx119_2 := (HB.out.cell (World.block_lt_of_cell? w _ hx119_2)).trans hx119_2
           replace hx119_3 := (HB.out.cell (World.block_lt_of_cell? w _ hx119_3)).trans hx119_3
           replace p119 := eq_true p119;replace q119 := eq_true q119
           try go_wp2_with (first | ((with_reducible refine gate_dst (N := 6) rfl ?_); refine box_event ?hg (N := 6) ?hd (cs := #[.int .i64 0, .int .i64 0, .int .i64 0, .bool false]) (t := 24) ?hr ?_; (case hd => rfl); (case hg => rfl); (case hr => first | (go_simp; done) | (go_simp; rfl)); intro gb120 hg w21 hbox hb; have n0_ := Aside0.mk (Kd.R_below (Kd.R_elderB (by (with_reducible repeat (first | apply Kd.R_alloc | apply Kd.R_drewN | apply Kd.R_drew)); exact HO_4.out) gb120 (Nat.le_of_eq hg.symm)) hb); have n1_ := Aside0.mk (below_step (by repeat (first | (with_reducible first | exact HB.out | apply below_alloc | apply pw_below_drewN | apply below_drew1) | exact HB.out)) hb); have n2_ := Aside0.mk (hbox); have n3_ := Aside0.mk ((by rw [hg]; exact (below_size (by repeat (first | (with_reducible first | exact HB.out | apply below_alloc | apply pw_below_drewN | apply below_drew1) | exact HB.out))) : w.heap.size ≤ gb120)); have n4_ := Aside0.mk ((by rw [hg]; exact (below_size (by repeat (first | (with_reducible first | exact HB.out | apply below_alloc | apply pw_below_drewN | apply below_drew1) | exact HB.out))) : w.heap.size ≤ gb120)); clear HO_4; clear HB; have HO_4 := n0_; have HB := n1_; have BK120 := n2_; have GW120 := n3_; have GE120 := n4_; clear n0_ n1_ n2_ n3_ n4_; clear hb hbox hg; have hcz22_0 : w21.cell? ⟨gb120, 0, none⟩ = some (.int .i64 0) := (blk_cell BK120.out 0).trans rfl; have hcz22_1 : w21.cell? ⟨gb120, 1, none⟩ = some (.int .i64 0) := (blk_cell BK120.out 1).trans rfl; have hcz22_2 : w21.cell? ⟨gb120, 2, none⟩ = some (.int .i64 0) := (blk_cell BK120.out 2).trans rfl; have hcz22_3 : w21.cell? ⟨gb120, 3, none⟩ = some (.bool false) := (blk_cell BK120.out 3).trans rfl; have hfz22_0 := blk_frozen BK120.out 0; have hfz22_1 := blk_frozen BK120.out 1; have hfz22_2 := blk_frozen BK120.out 2; have hfz22_3 := blk_frozen BK120.out 3; obtain ⟨Ao23, co23, eo23⟩ := Kd.R_slice HO_4.out; subst eo23))
           have n0_ : Aside0 (Kd.R k24 24 ((((w21.setCell ⟨gb120, 0, none⟩ (.int .i64 ((rd_T24 l0 x10_1).f0))).setCell ⟨gb120, 1, none⟩ (.int .i64 ((rd_T24 l0 x10_1).f1))).setCell ⟨gb120, 2, none⟩ (.int .i64 ((rd_T24 l0 x10_1).f2))).setCell ⟨gb120, 3, none⟩ (.bool ((rd_T24 l0 x10_1).f3))) w.heap.size (fun k_ => k_ ≠ gb120) (.slice Ao23 x4_1.length co23) x4_1) := ⟨by (with_reducible repeat (first | apply Kd.R_alloc | apply Kd.R_drewN | apply Kd.R_drew)); exact Kd.R_mono (Kd.R_far (p := ⟨gb120, 3, none⟩) (Kd.R_far (p := ⟨gb120, 2, none⟩) (Kd.R_far (p := ⟨gb120, 1, none⟩) (Kd.R_far (p := ⟨gb120, 0, none⟩) (Kd.R_mono HO_4.out (fun k_ hk => (⟨hk, hk.2⟩ : _ ∧ k_ ≠ gb120))) (fun _ hk => hk.2) (.int .i64 ((rd_T24 l0 x10_1).f0))) (fun _ hk => hk.2) (.int .i64 ((rd_T24 l0 x10_1).f1))) (fun _ hk => hk.2) (.int .i64 ((rd_T24 l0 x10_1).f2))) (fun _ hk => hk.2) (.bool ((rd_T24 l0 x10_1).f3))) (fun _ hk => hk.1.2)⟩
           have n1_ : Aside0 (((((w21.setCell ⟨gb120, 0, none⟩ (.int .i64 ((rd_T24 l0 x10_1).f0))).setCell ⟨gb120, 1, none⟩ (.int .i64 ((rd_T24 l0 x10_1).f1))).setCell ⟨gb120, 2, none⟩ (.int .i64 ((rd_T24 l0 x10_1).f2))).setCell ⟨gb120, 3, none⟩ (.bool ((rd_T24 l0 x10_1).f3))).heap[gb120]? = some (.cells #[.int .i64 ((rd_T24 l0 x10_1).f0), .int .i64 ((rd_T24 l0 x10_1).f1), .int .i64 ((rd_T24 l0 x10_1).f2), .bool ((rd_T24 l0 x10_1).f3)] 24 (0, 0))) := ⟨by (with_reducible repeat (first | refine blk_drewN ?_ _ | refine blk_drew ?_ | refine blk_alloc ?_ _)); refine blk_put (cs := #[.int .i64 ((rd_T24 l0 x10_1).f0), .int .i64 ((rd_T24 l0 x10_1).f1), .int .i64 ((rd_T24 l0 x10_1).f2), .bool false]) ?_ 3 _ rfl; (with_reducible repeat (first | refine blk_drewN ?_ _ | refine blk_drew ?_ | refine blk_alloc ?_ _)); refine blk_put (cs := #[.int .i64 ((rd_T24 l0 x10_1).f0), .int .i64 ((rd_T24 l0 x10_1).f1), .int .i64 0, .bool false]) ?_ 2 _ rfl; (with_reducible repeat (first | refine blk_drewN ?_ _ | refine blk_drew ?_ | refine blk_alloc ?_ _)); refine blk_put (cs := #[.int .i64 ((rd_T24 l0 x10_1).f0), .int .i64 0, .int .i64 0, .bool false]) ?_ 1 _ rfl; (with_reducible repeat (first | refine blk_drewN ?_ _ | refine blk_drew ?_ | refine blk_alloc ?_ _)); refine blk_put (cs := #[.int .i64 0, .int .i64 0, .int .i64 0, .bool false]) ?_ 0 _ rfl; (with_reducible repeat (first | refine blk_drewN ?_ _ | refine blk_drew ?_ | refine blk_alloc ?_ _)); exact BK120.out⟩
           have n2_ : Aside0 (Below w.heap.size w ((((w21.setCell ⟨gb120, 0, none⟩ (.int .i64 ((rd_T24 l0 x10_1).f0))).setCell ⟨gb120, 1, none⟩ (.int .i64 ((rd_T24 l0 x10_1).f1))).setCell ⟨gb120, 2, none⟩ (.int .i64 ((rd_T24 l0 x10_1).f2))).setCell ⟨gb120, 3, none⟩ (.bool ((rd_T24 l0 x10_1).f3)))) := ⟨by repeat (first | (with_reducible first | exact HB.out | apply below_alloc | apply pw_below_drewN | apply below_drew1 | refine below_set ?_ GE120.out) | exact HB.out)⟩
           (try clear HO_4)
           (try clear BK120)
           (try clear HB)
           generalize ((((w21.setCell ⟨gb120, 0, none⟩ (.int .i64 ((rd_T24 l0 x10_1).f0))).setCell ⟨gb120, 1, none⟩ (.int .i64 ((rd_T24 l0 x10_1).f1))).setCell ⟨gb120, 2, none⟩ (.int .i64 ((rd_T24 l0 x10_1).f2))).setCell ⟨gb120, 3, none⟩ (.bool ((rd_T24 l0 x10_1).f3))) = w24 at n0_ n1_ n2_ ⊢
           have HO_4 := n0_;have BK120 := n1_;have HB := n2_;clear n0_ n1_ n2_
           have n0_ := Aside0.mk (Kd.R_drew HO_4.out)
           have n1_ := Aside0.mk (blk_drew BK120.out)
           have n2_ := Aside0.mk (below_drew1 HB.out)
           clear HO_4;clear BK120;clear HB;have HO_4 := n0_;have BK120 := n1_;have HB := n2_;clear n0_ n1_ n2_
           have p121 : 0 ≤ ((ji6) : Int) := of_decide_eq_true (by first | (with_reducible assumption) | assumption)
           have q121 : (ji6) < (x4_1.length : Int) := of_decide_eq_true (by first | (with_reducible assumption) | assumption)
           obtain ⟨ad121, e121, hx121_0, hx121_1, hx121_2, hx121_3⟩ := at_T24 (Kd.R_reads' HO_4.out).2.2 (ji6) p121 q121
           cases e121
           replace p121 := eq_true p121;replace q121 := eq_true q121
           refine start_ (n := 11) (S := fun w' => w'.cell? ⟨gb120, 0, none⟩ = some (.int .i64 ((rd_T24 l0 x10_1).f0)) ∧ w'.cell? ⟨gb120, 1, none⟩ = some (.int .i64 ((rd_T24 l0 x10_1).f1)) ∧ w'.cell? ⟨gb120, 2, none⟩ = some (.int .i64 ((rd_T24 l0 x10_1).f2)) ∧ w'.cell? ⟨gb120, 3, none⟩ = some (.bool ((rd_T24 l0 x10_1).f3)) ∧ w'.cell? (ad121.add (((ji6)).toNat * 4)) = some (.int .i64 ((rd_T24 x4_1 (ji6)).f0)) ∧ w'.cell? ⟨(ad121.add (((ji6)).toNat * 4)).block, (ad121.add (((ji6)).toNat * 4)).off + 1, none⟩ = some (.int .i64 ((rd_T24 x4_1 (ji6)).f1)) ∧ w'.cell? ⟨(ad121.add (((ji6)).toNat * 4)).block, (ad121.add (((ji6)).toNat * 4)).off + 2, none⟩ = some (.int .i64 ((rd_T24 x4_1 (ji6)).f2)) ∧ w'.cell? ⟨(ad121.add (((ji6)).toNat * 4)).block, (ad121.add (((ji6)).toNat * 4)).off + 3, none⟩ = some (.bool ((rd_T24 x4_1 (ji6)).f3))) (ds := []) #[false, false, false, false, false, false, false, false, false, false, false] (by kernel_rfl) rfl rfl ⟨(blk_cell BK120.out 0).trans rfl, (blk_cell BK120.out 1).trans rfl, (blk_cell BK120.out 2).trans rfl, (blk_cell BK120.out 3).trans rfl, hx121_0, hx121_1, hx121_2, hx121_3⟩ (fun hHeld => ?_); refine with_tabW extent_merged.tab6 extent_merged.bits6 (fun HT_ HW_ => ?_)
           generalize w24.drew = w25 at HO_4 BK120 HB hx121_0 hx121_1 hx121_2 hx121_3 hHeld ⊢
           refine pure_ (i := 0) (N := some 16) (v := ?_) (a' := ?_) #[true, false, false, false, false, false, false, false, false, false, false] rfl rfl (any_of HT_.out (by kernel_rfl)) (fun _ _ _ h => h) (Or.inl ⟨by rfl, ?_⟩) ?_ ?_;rotate_left;(intro w';go_simp;with_reducible rfl);rotate_left;(simp only [Act.put, sIb, sC0, sCs, i64_w, i32_w];rfl);refine pure_ (i := 1) (N := some 17) (v := ?_) (a' := ?_) #[true, true, false, false, false, false, false, false, false, false, false] rfl rfl (any_of HT_.out (by kernel_rfl)) (fun _ _ _ h => h) (Or.inl ⟨by rfl, ?_⟩) ?_ ?_;rotate_left;(intro w';go_simp;with_reducible rfl);rotate_left;(simp only [Act.put, sIb, sC0, sCs, i64_w, i32_w];rfl);refine pure_ (i := 2) (N := some 18) (v := ?_) (a' := ?_) #[true, true, true, false, false, false, false, false, false, false, false] rfl rfl (any_of HT_.out (by kernel_rfl)) (fun _ _ _ h => h) (Or.inl ⟨by rfl, ?_⟩) ?_ ?_;rotate_left;(intro w';go_simp;with_reducible rfl);rotate_left;(simp only [Act.put, sIb, sC0, sCs, i64_w, i32_w];rfl);refine pure_ (i := 3) (N := some 19) (v := ?_) (a' := ?_) #[true, true, true, true, false, false, false, false, false, false, false] rfl rfl (any_of HT_.out (by kernel_rfl)) (fun _ _ _ h => h) (Or.inl ⟨by rfl, ?_⟩) ?_ ?_;rotate_left;(intro w';go_simp;with_reducible rfl);rotate_left;(simp only [Act.put, sIb, sC0, sCs, i64_w, i32_w];rfl);refine pure_ (i := 4) (N := some 20) (v := ?_) (a' := ?_) #[true, true, true, true, true, false, false, false, false, false, false] rfl rfl (any_of HT_.out (by kernel_rfl)) (fun _ _ _ h => h) (Or.inl ⟨by rfl, ?_⟩) ?_ ?_;rotate_left;(intro w';go_simp;with_reducible rfl);rotate_left;(simp only [Act.put, sIb, sC0, sCs, i64_w, i32_w];rfl);refine pure_ (i := 5) (N := some 21) (v := ?_) (a' := ?_) #[true, true, true, true, true, true, false, false, false, false, false] rfl rfl (any_of HT_.out (by kernel_rfl)) (fun _ _ _ h => h) (Or.inl ⟨by rfl, ?_⟩) ?_ ?_;rotate_left;(intro w';go_simp;with_reducible rfl);rotate_left;(simp only [Act.put, sIb, sC0, sCs, i64_w, i32_w];rfl);refine pure_ (i := 6) (N := some 22) (v := ?_) (a' := ?_) #[true, true, true, true, true, true, true, false, false, false, false] rfl rfl (any_of HT_.out (by kernel_rfl)) (fun _ _ _ h => h) (Or.inl ⟨by rfl, ?_⟩) ?_ ?_;rotate_left;(intro w';go_simp;with_reducible rfl);rotate_left;(simp only [Act.put, sIb, sC0, sCs, i64_w, i32_w];rfl);refine take_ (i := 7) (N := some 23) (v := ?_) (a' := ?_) #[true, true, true, true, true, true, true, true, false, false, false] rfl rfl (take_ofW HT_.out HW_.out (by kernel_rfl)) (fun _ _ _ h => h) (Or.inl ⟨by rfl, ?_⟩) hHeld ?_ ?_;rotate_left
           ·rintro w' ⟨s0, s1, s2, s3, s4, s5, s6, s7⟩
            go_simp;with_reducible rfl
           rotate_left;(simp only [Act.put, sIb, sC0, sCs, i64_w, i32_w];rfl);refine take_ (i := 8) (N := some 24) (v := ?_) (a' := ?_) #[true, true, true, true, true, true, true, true, true, false, false] rfl rfl (take_ofW HT_.out HW_.out (by kernel_rfl)) (fun _ _ _ h => h) (Or.inl ⟨by rfl, ?_⟩) hHeld ?_ ?_;rotate_left
           ·rintro w' ⟨s0, s1, s2, s3, s4, s5, s6, s7⟩
            go_simp;with_reducible rfl
           rotate_left;(simp only [Act.put, sIb, sC0, sCs, i64_w, i32_w];rfl)
           refine one_ (i := 9) (N := some 25) #[true, true, true, true, true, true, true, true, true, true, false] rfl rfl (one_of HT_.out (by kernel_rfl)) (by decide) (fun K hK => ?_)
           refine goes_ Try.func36 (by kernel_rfl) rfl #[.agg #[.int .i64 ((rd_T24 x4_1 (ji6)).f0), .int .i64 ((rd_T24 x4_1 (ji6)).f1), .int .i64 ((rd_T24 x4_1 (ji6)).f2), .bool ((rd_T24 x4_1 (ji6)).f3)], .agg #[.int .i64 ((rd_T24 l0 x10_1).f0), .int .i64 ((rd_T24 l0 x10_1).f1), .int .i64 ((rd_T24 l0 x10_1).f2), .bool ((rd_T24 l0 x10_1).f3)]] (by rfl) rfl rfl (by (try simp only [List.map_toArray, List.map_cons, List.map_nil]); first | done | (simp only [hji6]; rfl) | rfl | (simp only [List.length_drop, List.length_take]; rfl)) ?_
           with_reducible refine (extent_goes.calls ((rd_T24 x4_1 (ji6)).f0) ((rd_T24 x4_1 (ji6)).f1) ((rd_T24 x4_1 (ji6)).f2) ((rd_T24 x4_1 (ji6)).f3) ((rd_T24 l0 x10_1).f0) ((rd_T24 l0 x10_1).f1) ((rd_T24 l0 x10_1).f2) ((rd_T24 l0 x10_1).f3) false _ A9.out).mono ?_
           rintro e w26 ⟨rfl, hb⟩
           have HS4_ := (hb.cell (World.block_lt_of_cell? _ _ (hHeld.2.2.2.2.1))).trans (hHeld.2.2.2.2.1)
           have HS5_ := (hb.cell (World.block_lt_of_cell? _ _ (hHeld.2.2.2.2.2.1))).trans (hHeld.2.2.2.2.2.1)
           have HS6_ := (hb.cell (World.block_lt_of_cell? _ _ (hHeld.2.2.2.2.2.2.1))).trans (hHeld.2.2.2.2.2.2.1)
           have HS7_ := (hb.cell (World.block_lt_of_cell? _ _ (hHeld.2.2.2.2.2.2.2))).trans (hHeld.2.2.2.2.2.2.2)
           refine ⟨_, rfl, ?_⟩
           have n0_ := Aside0.mk (Kd.R_below (by (with_reducible repeat (first | apply Kd.R_alloc | apply Kd.R_drewN | apply Kd.R_drew)); exact HO_4.out) hb)
           have n1_ := Aside0.mk (blk_below (g := gb120) (o := .cells #[.int .i64 ((rd_T24 l0 x10_1).f0), .int .i64 ((rd_T24 l0 x10_1).f1), .int .i64 ((rd_T24 l0 x10_1).f2), .bool ((rd_T24 l0 x10_1).f3)] 24 (0, 0)) (by (with_reducible repeat (first | refine blk_drewN ?_ _ | refine blk_drew ?_ | refine blk_alloc ?_ _)); exact BK120.out) hb)
           have n2_ := Aside0.mk (below_step (by repeat (first | (with_reducible first | exact HB.out | apply below_alloc | apply pw_below_drewN | apply below_drew1 | refine below_set ?_ GE120.out) | exact HB.out)) hb)
           clear HO_4;clear BK120;clear HB;have HO_4 := n0_;have BK120 := n1_;have HB := n2_;clear n0_ n1_ n2_
           (try clear hb)
           (try clear hb2)
           (try clear hk)
           (try clear hi)
           refine hK.out _ _ ⟨(blk_cell BK120.out 0).trans rfl, (blk_cell BK120.out 1).trans rfl, (blk_cell BK120.out 2).trans rfl, (blk_cell BK120.out 3).trans rfl, HS4_, HS5_, HS6_, HS7_⟩ (fun hHeld => ?_)
           clear hK K;refine norm_ (a' := ?_) ?_ ?_;rotate_left
           ·show Act.put _ (some 25) _ = _
            simp only [Act.put, sIb, sC0, sCs, i64_w, i32_w];rfl
           refine pure_ (i := 10) (N := some 26) (v := ?_) (a' := ?_) #[true, true, true, true, true, true, true, true, true, true, true] rfl rfl (any_of HT_.out (by kernel_rfl)) (fun _ _ _ h => h) (Or.inl ⟨by rfl, ?_⟩) ?_ ?_;rotate_left;(intro w';go_simp;with_reducible rfl);rotate_left;(simp only [Act.put, sIb, sC0, sCs, i64_w, i32_w];rfl)
           refine done_ (done_of HT_.out (by kernel_rfl)) ?_
           have hcz27_0 : w26.cell? ⟨gb120, 0, none⟩ = some (.int .i64 ((rd_T24 l0 x10_1).f0)) := (blk_cell BK120.out 0).trans rfl
           have hcz27_1 : w26.cell? ⟨gb120, 1, none⟩ = some (.int .i64 ((rd_T24 l0 x10_1).f1)) := (blk_cell BK120.out 1).trans rfl
           have hcz27_2 : w26.cell? ⟨gb120, 2, none⟩ = some (.int .i64 ((rd_T24 l0 x10_1).f2)) := (blk_cell BK120.out 2).trans rfl
           have hcz27_3 : w26.cell? ⟨gb120, 3, none⟩ = some (.bool ((rd_T24 l0 x10_1).f3)) := (blk_cell BK120.out 3).trans rfl
           have hfz27_0 := blk_frozen BK120.out 0
           have hfz27_1 := blk_frozen BK120.out 1
           have hfz27_2 := blk_frozen BK120.out 2
           have hfz27_3 := blk_frozen BK120.out 3
           try go_wp2_with (first | ((with_reducible refine gate_builtin (b := .append) (xs := #[.tmp 38, .tmp 40]) rfl ?_); at_builtin; refine Kd.R_append k24 (w0 := w) w.heap.size rfl (.tmp 38) (.tmp 40) 22 24 (.agg #[(.int .i64 0), (.int .i64 0), (.int .i64 0), (.bool false)]) 32 rfl Try.underlying22 info24 rfl (by decide) (by omega) (.slice (some ad121) x4_1.length co23) x4_1 (⟨(rd_T24 l0 x10_1).f0, (rd_T24 l0 x10_1).f1, (rd_T24 l0 x10_1).f2, (rd_T24 l0 x10_1).f3⟩ : S24) [.int .i64 ((rd_T24 l0 x10_1).f0), .int .i64 ((rd_T24 l0 x10_1).f1), .int .i64 ((rd_T24 l0 x10_1).f2), .bool ((rd_T24 l0 x10_1).f3)] (fun k_ => k_ ≠ gb120) (fun _ => False) rfl rfl ?aP (fun _ hk => hk.elim) ?aF ?aO ?aB ?aS ?aL ?_; (case aP => exact k24_mkM _ _ _ (⟨(rd_T24 l0 x10_1).f0, (rd_T24 l0 x10_1).f1, (rd_T24 l0 x10_1).f2, (rd_T24 l0 x10_1).f3⟩ : S24)); (case aB => exact (by repeat (first | (with_reducible first | exact HB.out | apply below_alloc | apply pw_below_drewN | apply below_drew1 | refine below_set ?_ GE120.out) | exact HB.out))); (case aF => exact (fun k_ hk => Kd.freshB (g := gb120) (o := .cells #[.int .i64 ((rd_T24 l0 x10_1).f0), .int .i64 ((rd_T24 l0 x10_1).f1), .int .i64 ((rd_T24 l0 x10_1).f2), .bool ((rd_T24 l0 x10_1).f3)] 24 (0, 0)) (by (with_reducible repeat (first | refine blk_drewN ?_ _ | refine blk_drew ?_ | refine blk_alloc ?_ _)); exact BK120.out) k_ hk)); (case aO => exact (by (with_reducible repeat (first | apply Kd.R_alloc | apply Kd.R_drewN | apply Kd.R_drew)); exact HO_4.out)); (case aS => exact (below_size (by repeat (first | (with_reducible first | exact HB.out | apply below_alloc | apply pw_below_drewN | apply below_drew1 | refine below_set ?_ GE120.out) | exact HB.out)))); (case aL => have := LMc20.out; omega); intro v126 w28 ho hb hg hat; rw [← Ny125.out] at ho; have n0_ := Aside0.mk (blk_grown (g := gb120) (o := .cells #[.int .i64 ((rd_T24 l0 x10_1).f0), .int .i64 ((rd_T24 l0 x10_1).f1), .int .i64 ((rd_T24 l0 x10_1).f2), .bool ((rd_T24 l0 x10_1).f3)] 24 (0, 0)) (by (with_reducible repeat (first | refine blk_drewN ?_ _ | refine blk_drew ?_ | refine blk_alloc ?_ _)); exact BK120.out) hg (Kd.R_away HO_4.out (fun _ hk => hk))); have n1_ := Aside0.mk (hb); have n2_ := Aside0.mk (ho); clear BK120; clear HB; clear HO_4; have BK120 := n0_; have HB := n1_; have HO127 := n2_; clear n0_ n1_ n2_; clear ho hb hg hat))
           go_roundg k1
           case measure => have := HK1.out; omega
           case rel => exact ⟨(y125), (wrap64 (x10_1 + 1)), (by first | rfl | (simp; done) | (simp [*]; done)), H', ⟨by have := HK1.out; omega⟩, ⟨by (with_reducible repeat (first | apply Kd.R_alloc | apply Kd.R_drewN | apply Kd.R_drew)); exact Kd.R_mono HO127.out (fun _ hk => trivial)⟩, ⟨by repeat (first | (with_reducible first | exact HB.out | apply below_alloc | apply pw_below_drewN | apply below_drew1 | refine below_set ?_ GE120.out) | exact HB.out)⟩⟩
          ·rw [if_neg c20] at H
           exact absurd H (by simp)
        ·rw [if_neg c8] at H
         exact absurd H (by simp)
       ·rw [if_neg c7] at H
        exact absurd H (by simp)
      ·rw [if_neg c5] at H
       have c5b0 : decide (0 < (x4_1.length : Int)) = false := decide_eq_false c5
       have c5b1 : decide (0 < x4_1.length) = false := decide_eq_false (by omega)
       clear c5
       by_cases c29 : x4_1.length < 4398046511104
       ·rw [if_pos c29] at H
        have LMc29 := Aside0.mk c29
        clear c29
        obtain ⟨y128, hy128⟩ : ∃ y_ : List (S24), y_ = (x4_1 ++ [(⟨(rd_T24 l0 x10_1).f0, (rd_T24 l0 x10_1).f1, (rd_T24 l0 x10_1).f2, (rd_T24 l0 x10_1).f3⟩ : S24)]) := ⟨_, rfl⟩
        replace H : (extent_merged.l0 k1 y128 l0 (l0.length : Int) (wrap64 (x10_1 + 1))) = some (r1, r2) := by first | (rw [hy128]; with_reducible exact H) | (have H2_ := (Option.bind_some _ _).symm.trans H; rw [hy128]; with_reducible exact H2_) | (have H2_ := (Option.bind_some _ _).symm.trans H; with_reducible exact H2_) | with_reducible exact H | (rw [hy128]; exact H) | exact H
        have Ny128 := Aside0.mk hy128
        clear hy128
        have H' := Aside0.mk H
        clear H
        have p119 : 0 ≤ (x10_1 : Int) := of_decide_eq_true (by first | (with_reducible assumption) | assumption)
        have q119 : x10_1 < (l0.length : Int) := of_decide_eq_true (by first | (with_reducible assumption) | assumption)
        obtain ⟨ad119, e119, hx119_0, hx119_1, hx119_2, hx119_3⟩ := at_T24 HR0.out x10_1 p119 q119
        cases e119
        replace hx119_0 := (HB.out.cell (World.block_lt_of_cell? w _ hx119_0)).trans hx119_0
        replace hx119_1 := (HB.out.cell (World.block_lt_of_cell? w _ hx119_1)).trans hx119_1
        replace hx119_2 := (HB.out.cell (World.block_lt_of_cell? w _ hx119_2)).trans hx119_2
        replace hx119_3 := (HB.out.cell (World.block_lt_of_cell? w _ hx119_3)).trans hx119_3
        replace p119 := eq_true p119;replace q119 := eq_true q119
        try go_wp2_with (first | ((with_reducible refine gate_dst (N := 6) rfl ?_); refine box_event ?hg (N := 6) ?hd (cs := #[.int .i64 0, .int .i64 0, .int .i64 0, .bool false]) (t := 24) ?hr ?_; (case hd => rfl); (case hg => rfl); (case hr => first | (go_simp; done) | (go_simp; rfl)); intro gb120 hg w30 hbox hb; have n0_ := Aside0.mk (Kd.R_below (Kd.R_elderB (by (with_reducible repeat (first | apply Kd.R_alloc | apply Kd.R_drewN | apply Kd.R_drew)); exact HO_4.out) gb120 (Nat.le_of_eq hg.symm)) hb); have n1_ := Aside0.mk (below_step (by repeat (first | (with_reducible first | exact HB.out | apply below_alloc | apply pw_below_drewN | apply below_drew1) | exact HB.out)) hb); have n2_ := Aside0.mk (hbox); have n3_ := Aside0.mk ((by rw [hg]; exact (below_size (by repeat (first | (with_reducible first | exact HB.out | apply below_alloc | apply pw_below_drewN | apply below_drew1) | exact HB.out))) : w.heap.size ≤ gb120)); have n4_ := Aside0.mk ((by rw [hg]; exact (below_size (by repeat (first | (with_reducible first | exact HB.out | apply below_alloc | apply pw_below_drewN | apply below_drew1) | exact HB.out))) : w.heap.size ≤ gb120)); clear HO_4; clear HB; have HO_4 := n0_; have HB := n1_; have BK120 := n2_; have GW120 := n3_; have GE120 := n4_; clear n0_ n1_ n2_ n3_ n4_; clear hb hbox hg; have hcz31_0 : w30.cell? ⟨gb120, 0, none⟩ = some (.int .i64 0) := (blk_cell BK120.out 0).trans rfl; have hcz31_1 : w30.cell? ⟨gb120, 1, none⟩ = some (.int .i64 0) := (blk_cell BK120.out 1).trans rfl; have hcz31_2 : w30.cell? ⟨gb120, 2, none⟩ = some (.int .i64 0) := (blk_cell BK120.out 2).trans rfl; have hcz31_3 : w30.cell? ⟨gb120, 3, none⟩ = some (.bool false) := (blk_cell BK120.out 3).trans rfl; have hfz31_0 := blk_frozen BK120.out 0; have hfz31_1 := blk_frozen BK120.out 1; have hfz31_2 := blk_frozen BK120.out 2; have hfz31_3 := blk_frozen BK120.out 3; obtain ⟨Ao32, co32, eo32⟩ := Kd.R_slice HO_4.out; subst eo32))
        have n0_ : Aside0 (Kd.R k24 24 ((((w30.setCell ⟨gb120, 0, none⟩ (.int .i64 ((rd_T24 l0 x10_1).f0))).setCell ⟨gb120, 1, none⟩ (.int .i64 ((rd_T24 l0 x10_1).f1))).setCell ⟨gb120, 2, none⟩ (.int .i64 ((rd_T24 l0 x10_1).f2))).setCell ⟨gb120, 3, none⟩ (.bool ((rd_T24 l0 x10_1).f3))) w.heap.size (fun k_ => k_ ≠ gb120) (.slice Ao32 x4_1.length co32) x4_1) := ⟨by (with_reducible repeat (first | apply Kd.R_alloc | apply Kd.R_drewN | apply Kd.R_drew)); exact Kd.R_mono (Kd.R_far (p := ⟨gb120, 3, none⟩) (Kd.R_far (p := ⟨gb120, 2, none⟩) (Kd.R_far (p := ⟨gb120, 1, none⟩) (Kd.R_far (p := ⟨gb120, 0, none⟩) (Kd.R_mono HO_4.out (fun k_ hk => (⟨hk, hk.2⟩ : _ ∧ k_ ≠ gb120))) (fun _ hk => hk.2) (.int .i64 ((rd_T24 l0 x10_1).f0))) (fun _ hk => hk.2) (.int .i64 ((rd_T24 l0 x10_1).f1))) (fun _ hk => hk.2) (.int .i64 ((rd_T24 l0 x10_1).f2))) (fun _ hk => hk.2) (.bool ((rd_T24 l0 x10_1).f3))) (fun _ hk => hk.1.2)⟩
        have n1_ : Aside0 (((((w30.setCell ⟨gb120, 0, none⟩ (.int .i64 ((rd_T24 l0 x10_1).f0))).setCell ⟨gb120, 1, none⟩ (.int .i64 ((rd_T24 l0 x10_1).f1))).setCell ⟨gb120, 2, none⟩ (.int .i64 ((rd_T24 l0 x10_1).f2))).setCell ⟨gb120, 3, none⟩ (.bool ((rd_T24 l0 x10_1).f3))).heap[gb120]? = some (.cells #[.int .i64 ((rd_T24 l0 x10_1).f0), .int .i64 ((rd_T24 l0 x10_1).f1), .int .i64 ((rd_T24 l0 x10_1).f2), .bool ((rd_T24 l0 x10_1).f3)] 24 (0, 0))) := ⟨by (with_reducible repeat (first | refine blk_drewN ?_ _ | refine blk_drew ?_ | refine blk_alloc ?_ _)); refine blk_put (cs := #[.int .i64 ((rd_T24 l0 x10_1).f0), .int .i64 ((rd_T24 l0 x10_1).f1), .int .i64 ((rd_T24 l0 x10_1).f2), .bool false]) ?_ 3 _ rfl; (with_reducible repeat (first | refine blk_drewN ?_ _ | refine blk_drew ?_ | refine blk_alloc ?_ _)); refine blk_put (cs := #[.int .i64 ((rd_T24 l0 x10_1).f0), .int .i64 ((rd_T24 l0 x10_1).f1), .int .i64 0, .bool false]) ?_ 2 _ rfl; (with_reducible repeat (first | refine blk_drewN ?_ _ | refine blk_drew ?_ | refine blk_alloc ?_ _)); refine blk_put (cs := #[.int .i64 ((rd_T24 l0 x10_1).f0), .int .i64 0, .int .i64 0, .bool false]) ?_ 1 _ rfl; (with_reducible repeat (first | refine blk_drewN ?_ _ | refine blk_drew ?_ | refine blk_alloc ?_ _)); refine blk_put (cs := #[.int .i64 0, .int .i64 0, .int .i64 0, .bool false]) ?_ 0 _ rfl; (with_reducible repeat (first | refine blk_drewN ?_ _ | refine blk_drew ?_ | refine blk_alloc ?_ _)); exact BK120.out⟩
        have n2_ : Aside0 (Below w.heap.size w ((((w30.setCell ⟨gb120, 0, none⟩ (.int .i64 ((rd_T24 l0 x10_1).f0))).setCell ⟨gb120, 1, none⟩ (.int .i64 ((rd_T24 l0 x10_1).f1))).setCell ⟨gb120, 2, none⟩ (.int .i64 ((rd_T24 l0 x10_1).f2))).setCell ⟨gb120, 3, none⟩ (.bool ((rd_T24 l0 x10_1).f3)))) := ⟨by repeat (first | (with_reducible first | exact HB.out | apply below_alloc | apply pw_below_drewN | apply below_drew1 | refine below_set ?_ GE120.out) | exact HB.out)⟩
        (try clear HO_4)
        (try clear BK120)
        (try clear HB)
        generalize ((((w30.setCell ⟨gb120, 0, none⟩ (.int .i64 ((rd_T24 l0 x10_1).f0))).setCell ⟨gb120, 1, none⟩ (.int .i64 ((rd_T24 l0 x10_1).f1))).setCell ⟨gb120, 2, none⟩ (.int .i64 ((rd_T24 l0 x10_1).f2))).setCell ⟨gb120, 3, none⟩ (.bool ((rd_T24 l0 x10_1).f3))) = w33 at n0_ n1_ n2_ ⊢
        have HO_4 := n0_;have BK120 := n1_;have HB := n2_;clear n0_ n1_ n2_
        have n0_ := Aside0.mk (Kd.R_drew HO_4.out)
        have n1_ := Aside0.mk (blk_drew BK120.out)
        have n2_ := Aside0.mk (below_drew1 HB.out)
        clear HO_4;clear BK120;clear HB;have HO_4 := n0_;have BK120 := n1_;have HB := n2_;clear n0_ n1_ n2_
        refine start_ (n := 11) (S := fun w' => True) (ds := []) #[false, false, false, false, false, false, false, false, false, false, false] (by kernel_rfl) rfl rfl trivial (fun hHeld => ?_); refine with_tabW extent_merged.tab6 extent_merged.bits6 (fun HT_ HW_ => ?_)
        generalize w33.drew = w34 at HO_4 BK120 HB hHeld ⊢
        refine pure_ (i := 0) (N := some 16) (v := ?_) (a' := ?_) #[true, false, false, false, false, false, false, false, false, false, false] rfl rfl (any_of HT_.out (by kernel_rfl)) (fun _ _ _ h => h) (Or.inl ⟨by rfl, ?_⟩) ?_ ?_;rotate_left;(intro w';go_simp;with_reducible rfl);rotate_left;(simp only [Act.put, sIb, sC0, sCs, i64_w, i32_w];rfl);refine pure_ (i := 1) (N := some 17) (v := ?_) (a' := ?_) #[true, true, false, false, false, false, false, false, false, false, false] rfl rfl (any_of HT_.out (by kernel_rfl)) (fun _ _ _ h => h) (Or.inl ⟨by rfl, ?_⟩) ?_ ?_;rotate_left;(intro w';go_simp;with_reducible rfl);rotate_left;(simp only [Act.put, sIb, sC0, sCs, i64_w, i32_w];rfl);refine pure_ (i := 2) (N := some 18) (v := ?_) (a' := ?_) #[true, true, true, false, false, false, false, false, false, false, false] rfl rfl (any_of HT_.out (by kernel_rfl)) (fun _ _ _ h => h) (Or.inl ⟨by rfl, ?_⟩) ?_ ?_;rotate_left;(intro w';go_simp;with_reducible rfl);rotate_left;(simp only [Act.put, sIb, sC0, sCs, i64_w, i32_w];rfl);refine pure_ (i := 3) (N := some 19) (v := undef) (a' := ?_) #[true, true, true, true, false, false, false, false, false, false, false] rfl rfl (any_of HT_.out (by kernel_rfl)) (fun _ _ _ h => h) (Or.inr ⟨by rfl, rfl⟩) ?_ ?_;rotate_left;(simp only [Act.put, sIb, sC0, sCs, i64_w, i32_w];rfl);refine pure_ (i := 4) (N := some 20) (v := undef) (a' := ?_) #[true, true, true, true, true, false, false, false, false, false, false] rfl rfl (any_of HT_.out (by kernel_rfl)) (fun _ _ _ h => h) (Or.inr ⟨by rfl, rfl⟩) ?_ ?_;rotate_left;(simp only [Act.put, sIb, sC0, sCs, i64_w, i32_w];rfl);refine pure_ (i := 5) (N := some 21) (v := undef) (a' := ?_) #[true, true, true, true, true, true, false, false, false, false, false] rfl rfl (any_of HT_.out (by kernel_rfl)) (fun _ _ _ h => h) (Or.inr ⟨by rfl, rfl⟩) ?_ ?_;rotate_left;(simp only [Act.put, sIb, sC0, sCs, i64_w, i32_w];rfl);refine pure_ (i := 6) (N := some 22) (v := undef) (a' := ?_) #[true, true, true, true, true, true, true, false, false, false, false] rfl rfl (any_of HT_.out (by kernel_rfl)) (fun _ _ _ h => h) (Or.inr ⟨by rfl, rfl⟩) ?_ ?_;rotate_left;(simp only [Act.put, sIb, sC0, sCs, i64_w, i32_w];rfl);refine pure_ (i := 7) (N := some 23) (v := undef) (a' := ?_) #[true, true, true, true, true, true, true, true, false, false, false] rfl rfl (any_of HT_.out (by kernel_rfl)) (fun _ _ _ h => h) (Or.inr ⟨by rfl, rfl⟩) ?_ ?_;rotate_left;(simp only [Act.put, sIb, sC0, sCs, i64_w, i32_w];rfl);refine pure_ (i := 8) (N := some 24) (v := undef) (a' := ?_) #[true, true, true, true, true, true, true, true, true, false, false] rfl rfl (any_of HT_.out (by kernel_rfl)) (fun _ _ _ h => h) (Or.inr ⟨by rfl, rfl⟩) ?_ ?_;rotate_left;(simp only [Act.put, sIb, sC0, sCs, i64_w, i32_w];rfl);refine pure_ (i := 9) (N := some 25) (v := undef) (a' := ?_) #[true, true, true, true, true, true, true, true, true, true, false] rfl rfl (any_of HT_.out (by kernel_rfl)) (fun _ _ _ h => h) (Or.inr ⟨by rfl, rfl⟩) ?_ ?_;rotate_left;(simp only [Act.put, sIb, sC0, sCs, i64_w, i32_w];rfl);refine pure_ (i := 10) (N := some 26) (v := ?_) (a' := ?_) #[true, true, true, true, true, true, true, true, true, true, true] rfl rfl (any_of HT_.out (by kernel_rfl)) (fun _ _ _ h => h) (Or.inl ⟨by rfl, ?_⟩) ?_ ?_;rotate_left;(intro w';go_simp;with_reducible rfl);rotate_left;(simp only [Act.put, sIb, sC0, sCs, i64_w, i32_w];rfl)
        refine done_ (done_of HT_.out (by kernel_rfl)) ?_
        have hcz35_0 : w34.cell? ⟨gb120, 0, none⟩ = some (.int .i64 ((rd_T24 l0 x10_1).f0)) := (blk_cell BK120.out 0).trans rfl
        have hcz35_1 : w34.cell? ⟨gb120, 1, none⟩ = some (.int .i64 ((rd_T24 l0 x10_1).f1)) := (blk_cell BK120.out 1).trans rfl
        have hcz35_2 : w34.cell? ⟨gb120, 2, none⟩ = some (.int .i64 ((rd_T24 l0 x10_1).f2)) := (blk_cell BK120.out 2).trans rfl
        have hcz35_3 : w34.cell? ⟨gb120, 3, none⟩ = some (.bool ((rd_T24 l0 x10_1).f3)) := (blk_cell BK120.out 3).trans rfl
        have hfz35_0 := blk_frozen BK120.out 0
        have hfz35_1 := blk_frozen BK120.out 1
        have hfz35_2 := blk_frozen BK120.out 2
        have hfz35_3 := blk_frozen BK120.out 3
        try go_wp2_with (first | ((with_reducible refine gate_builtin (b := .append) (xs := #[.tmp 38, .tmp 40]) rfl ?_); at_builtin; refine Kd.R_append k24 (w0 := w) w.heap.size rfl (.tmp 38) (.tmp 40) 22 24 (.agg #[(.int .i64 0), (.int .i64 0), (.int .i64 0), (.bool false)]) 32 rfl Try.underlying22 info24 rfl (by decide) (by omega) (.slice Ao32 x4_1.length co32) x4_1 (⟨(rd_T24 l0 x10_1).f0, (rd_T24 l0 x10_1).f1, (rd_T24 l0 x10_1).f2, (rd_T24 l0 x10_1).f3⟩ : S24) [.int .i64 ((rd_T24 l0 x10_1).f0), .int .i64 ((rd_T24 l0 x10_1).f1), .int .i64 ((rd_T24 l0 x10_1).f2), .bool ((rd_T24 l0 x10_1).f3)] (fun k_ => k_ ≠ gb120) (fun _ => False) rfl rfl ?aP (fun _ hk => hk.elim) ?aF ?aO ?aB ?aS ?aL ?_; (case aP => exact k24_mkM _ _ _ (⟨(rd_T24 l0 x10_1).f0, (rd_T24 l0 x10_1).f1, (rd_T24 l0 x10_1).f2, (rd_T24 l0 x10_1).f3⟩ : S24)); (case aB => exact (by repeat (first | (with_reducible first | exact HB.out | apply below_alloc | apply pw_below_drewN | apply below_drew1 | refine below_set ?_ GE120.out) | exact HB.out))); (case aF => exact (fun k_ hk => Kd.freshB (g := gb120) (o := .cells #[.int .i64 ((rd_T24 l0 x10_1).f0), .int .i64 ((rd_T24 l0 x10_1).f1), .int .i64 ((rd_T24 l0 x10_1).f2), .bool ((rd_T24 l0 x10_1).f3)] 24 (0, 0)) (by (with_reducible repeat (first | refine blk_drewN ?_ _ | refine blk_drew ?_ | refine blk_alloc ?_ _)); exact BK120.out) k_ hk)); (case aO => exact (by (with_reducible repeat (first | apply Kd.R_alloc | apply Kd.R_drewN | apply Kd.R_drew)); exact HO_4.out)); (case aS => exact (below_size (by repeat (first | (with_reducible first | exact HB.out | apply below_alloc | apply pw_below_drewN | apply below_drew1 | refine below_set ?_ GE120.out) | exact HB.out)))); (case aL => have := LMc29.out; omega); intro v129 w36 ho hb hg hat; rw [← Ny128.out] at ho; have n0_ := Aside0.mk (blk_grown (g := gb120) (o := .cells #[.int .i64 ((rd_T24 l0 x10_1).f0), .int .i64 ((rd_T24 l0 x10_1).f1), .int .i64 ((rd_T24 l0 x10_1).f2), .bool ((rd_T24 l0 x10_1).f3)] 24 (0, 0)) (by (with_reducible repeat (first | refine blk_drewN ?_ _ | refine blk_drew ?_ | refine blk_alloc ?_ _)); exact BK120.out) hg (Kd.R_away HO_4.out (fun _ hk => hk))); have n1_ := Aside0.mk (hb); have n2_ := Aside0.mk (ho); clear BK120; clear HB; clear HO_4; have BK120 := n0_; have HB := n1_; have HO130 := n2_; clear n0_ n1_ n2_; clear ho hb hg hat))
        go_roundg k1
        case measure => have := HK1.out; omega
        case rel => exact ⟨(y128), (wrap64 (x10_1 + 1)), (by first | rfl | (simp; done) | (simp [*]; done)), H', ⟨by have := HK1.out; omega⟩, ⟨by (with_reducible repeat (first | apply Kd.R_alloc | apply Kd.R_drewN | apply Kd.R_drew)); exact Kd.R_mono HO130.out (fun _ hk => trivial)⟩, ⟨by repeat (first | (with_reducible first | exact HB.out | apply below_alloc | apply pw_below_drewN | apply below_drew1 | refine below_set ?_ GE120.out) | exact HB.out)⟩⟩
       ·rw [if_neg c29] at H
        exact absurd H (by simp)
     ·rw [if_neg c4] at H
      exact absurd H (by simp)
    ·rw [if_neg c3] at H
     exact absurd H (by simp)
   ·rw [if_neg c2] at H
    have c2b0 : decide (x10_1 < (l0.length : Int)) = false := decide_eq_false c2
    clear c2
    by_cases c37 : (x4_1.length : Int) > 60
    ·rw [if_pos c37] at H
     have c37b0 : decide (60 < (x4_1.length : Int)) = true := decide_eq_true c37
     have c37b1 : decide (60 < x4_1.length) = true := decide_eq_true (by omega)
     clear c37
     simp only [Option.some.injEq, Prod.mk.injEq] at H
     obtain ⟨rfl, rfl⟩ := H
     obtain ⟨Ao38, co38, eo38⟩ := Kd.R_slice HO_4.out
     subst eo38
     go_wp2
     go_ret2
     exact ⟨_, by first | rfl | (simp [errW_none, errW_some] <;> rfl) | (simp [*, errW_none, errW_some] <;> rfl), by first | exact Kd.R_nil _ _ _ _ _ | exact Kd.N_nil _ _ _ _ _ | exact Kd.V_nil _ _ _ _ _ | exact Kd.Q_nil _ _ _ _ _ | exact Kd.S_nil _ _ _ _ _, by repeat (first | (with_reducible first | exact HB.out | apply below_alloc | apply pw_below_drewN | apply below_drew1) | exact HB.out)⟩
    ·rw [if_neg c37] at H
     have c37b0 : decide (60 < (x4_1.length : Int)) = false := decide_eq_false c37
     have c37b1 : decide (60 < x4_1.length) = false := decide_eq_false (by omega)
     clear c37
     simp only [Option.some.injEq, Prod.mk.injEq] at H
     obtain ⟨rfl, rfl⟩ := H
     obtain ⟨Ao39, co39, eo39⟩ := Kd.R_slice HO_4.out
     subst eo39
     go_wp2
     go_ret2
     exact ⟨_, by first | rfl | (simp [errW_none, errW_some] <;> rfl) | (simp [*, errW_none, errW_some] <;> rfl), by (with_reducible repeat (first | apply Kd.R_alloc | apply Kd.R_drewN | apply Kd.R_drew)); exact HO_4.out, by repeat (first | (with_reducible first | exact HB.out | apply below_alloc | apply pw_below_drewN | apply below_drew1) | exact HB.out)⟩
end Go.Proofs.Ytopmjjnkolfciaa.Pr
end
section
namespace Go.Proofs.Ytopmjjnkolfciaa.Pr
open Go.RowKit Go.Proofs.YtopmjjnkolfciaaW.PrintWords Go.Proofs.YtopmjjnkolfciaaW.PrintLast Go.Proofs.YtopmjjnkolfciaaW.PrintMore
set_option linter.unusedVariables false
set_option linter.unusedSimpArgs false
theorem disjD_symm (a b : S24) : disjD a b = disjD b a := by
  unfold disjD
  exact decide_eq_decide.2 ⟨fun h => h.symm, fun h => h.symm⟩
theorem apartL_iff : ∀ l : List S24, apartL l = true ↔ l.Pairwise (fun a b => disjD a b = true)
  | [] => by simp [apartL]
  | e :: l => by
    rw [apartL, Bool.and_eq_true, List.all_eq_true, apartL_iff l, List.pairwise_cons]
theorem apart_ins {l : List S24} {e : S24} (h : apartL l = true) : apartL (insE l e) = true ↔ ∀ x ∈ l, disjD x e = true := by
  rw [apartL_iff] at h
  rw [← List.take_append_drop (behindN l e.f0) l, List.pairwise_append] at h
  rw [apartL_iff]
  unfold insE
  rw [List.pairwise_append, List.pairwise_cons]
  constructor
  · rintro ⟨h1, ⟨h2, h3⟩, h4⟩ x hx
    rw [← List.take_append_drop (behindN l e.f0) l] at hx
    rcases List.mem_append.1 hx with hx | hx
    · exact h4 x hx e List.mem_cons_self
    · rw [disjD_symm]; exact h2 x hx
  · intro h2
    refine ⟨h.1, ⟨fun x hx => by rw [disjD_symm]; exact h2 x (List.mem_of_mem_drop hx), h.2.1⟩, fun x hx y hy => ?_⟩
    rcases List.mem_cons.1 hy with rfl | hy
    · exact h2 x (List.mem_of_mem_take hx)
    · exact h.2.2 x hx y hy
theorem clash_iff {l : List S24} {e : S24} : clash l e = false ↔ (∀ x ∈ l, disjD x e = true) ∧ ∀ x ∈ l, disjF x e = true := by
  unfold clash
  rw [List.any_eq_false]
  constructor
  · intro h
    refine ⟨fun x hx => ?_, fun x hx => ?_⟩
    · have := h x hx
      cases hd : disjD x e
      · rw [hd] at this; simp at this
      · rfl
    · have := h x hx
      cases hd : disjF x e
      · rw [hd] at this; simp at this
      · rfl
  · rintro ⟨h1, h2⟩ x hx
    rw [h1 x hx, h2 x hx]; simp
theorem room_file {l : List S24} {e : S24} (hall : ∀ x ∈ l, mayE x = true) (hr : riseL l) (he : mayE e = true) (h : ∀ hi : behindN l e.f0 < l.length, ¬ l[behindN l e.f0].f0 < e.f0 + e.f2) : ∀ x ∈ l, disjF x e = true := by
  intro x hx
  have hm := mayE_facts he
  have hmx := mayE_facts (hall x hx)
  refine decide_eq_true ?_
  rw [← List.take_append_drop (behindN l e.f0) l] at hx
  rcases List.mem_append.1 hx with hx | hx
  · exact Or.inl (behind_take l e.f0 x hx)
  · by_cases hi : behindN l e.f0 < l.length
    · have h1 := h hi
      obtain ⟨j, hj, rfl⟩ := List.mem_iff_getElem.1 hx
      rw [List.getElem_drop]
      rw [List.length_drop] at hj
      by_cases j0 : j = 0
      · subst j0
        right
        simpa using (show e.f0 + e.f2 ≤ l[behindN l e.f0].f0 by omega)
      · have := List.pairwise_iff_getElem.1 hr (behindN l e.f0) (behindN l e.f0 + j) hi (by omega) (by omega)
        have := mayE_facts (hall l[behindN l e.f0] (List.getElem_mem hi))
        right; omega
    · rw [List.drop_of_length_le (by omega)] at hx
      cases hx
theorem no_room_file {l : List S24} {e : S24} (hall : ∀ x ∈ l, mayE x = true) (hr : riseL l) (he : mayE e = true) (hi : behindN l e.f0 < l.length) (h : l[behindN l e.f0].f0 < e.f0 + e.f2) : clash l e = true := by
  have hm := mayE_facts he
  have hd := behind_drop l e.f0 hr (fun y hy => by have := mayE_facts (hall y hy); omega) l[behindN l e.f0] (by rw [List.drop_eq_getElem_cons hi]; exact List.mem_cons_self)
  cases hc : clash l e
  · have := of_decide_eq_true ((clash_iff.1 hc).2 _ (List.getElem_mem hi))
    omega
  · rfl
theorem ins_may {l : List S24} {e : S24} (hall : ∀ x ∈ l, mayE x = true) (he : mayE e = true) : ∀ y ∈ insE l e, mayE y = true := fun y hy => by
  rcases insE_mem.1 hy with rfl | hy
  · exact he
  · exact hall y hy
theorem mayE_D {e : S24} (h : mayE e = true) : mayD e = true := by
  have := mayE_facts h
  exact decide_eq_true (by omega)
theorem insE_len (l : List S24) (e : S24) : (insE l e).length = l.length + 1 := by
  unfold insE
  rw [List.length_append, List.length_cons, List.length_take, List.length_drop]
  have := behindN_le l e.f0
  omega
theorem goesC_f (a b : S24) : extent_goes.f a.f0 a.f1 a.f2 a.f3 b.f0 b.f1 b.f2 b.f3 = some (goesR a b) := by
  unfold extent_goes.f extent_end.f extent_last.f goesR
  rw [Option.bind_some]
  by_cases h1 : wrap64 (a.f0 + a.f2) = b.f0
  · rw [if_pos h1, beq_iff_eq.2 h1, Option.bind_some]
    by_cases h2 : wrap64 (a.f1 + a.f2) = b.f1
    · rw [if_pos h2, beq_iff_eq.2 h2]; rfl
    · rw [if_neg h2, beq_eq_false_iff_ne.2 h2]; rfl
  · rw [if_neg h1, beq_eq_false_iff_ne.2 h1]; rfl
theorem merged_l0 (l : List S24) (hl : l.length < 4398046511104) : ∀ (d k i : Nat) (acc : List S24), i + d = l.length → d < k → acc.length ≤ i → extent_merged.l0 k acc l (l.length : Int) (i : Int) = some (fitL ((l.drop i).foldl addE acc))
  | 0, k, i, acc, h1, h2, h3 => by
    obtain ⟨k, rfl⟩ : ∃ m, k = m + 1 := ⟨k - 1, by omega⟩
    unfold extent_merged.l0
    rw [if_neg (by omega), List.drop_of_length_le (by omega)]
    show _ = some (fitL acc)
    unfold fitL
    by_cases c : acc.length > 60
    · rw [if_pos (by omega), if_pos c]
    · rw [if_neg (by omega), if_neg c]
  | d + 1, k, i, acc, h1, h2, h3 => by
    obtain ⟨k, rfl⟩ : ∃ m, k = m + 1 := ⟨k - 1, by omega⟩
    have hi : i < l.length := by omega
    have hw : wrap64 ((i : Int) + 1) = ((i + 1 : Nat) : Int) := by unfold wrap64; omega
    have hrd : rd_T24 l (i : Int) = l[i] := rd_in hi
    rw [List.drop_eq_getElem_cons hi, List.foldl_cons]
    unfold extent_merged.l0
    rw [if_pos (by omega), if_pos (by omega), if_pos (by omega), hrd, hw]
    obtain ⟨e, he⟩ : ∃ e, l[i] = e := ⟨_, rfl⟩
    rw [he]
    by_cases h0 : acc.length = 0
    · rw [if_neg (by omega), if_pos (by omega), merged_l0 l hl d k (i + 1) _ (by omega) (by omega) (by rw [List.length_append]; simp; omega)]
      unfold addE
      rw [if_pos h0]
    · obtain ⟨m, hm⟩ : ∃ m, acc.length - 1 = m := ⟨_, rfl⟩
      have hmw : wrap64 ((acc.length : Int) - 1) = (m : Int) := by unfold wrap64; omega
      have hrm : rd_T24 acc (m : Int) = acc.getD m z24 := rfl
      rw [if_pos (by omega), hmw, if_pos (by omega), if_pos (by omega), hrm, goesC_f, Option.bind_some]
      by_cases hg : goesR (acc.getD m z24) e = true
      · rw [if_pos hg, Int.toNat_natCast, merged_l0 l hl d k (i + 1) _ (by omega) (by omega) (by rw [List.length_set]; omega)]
        unfold addE
        rw [if_neg h0, hm, if_pos hg]
      · rw [if_neg hg, if_pos (by omega), merged_l0 l hl d k (i + 1) _ (by omega) (by omega) (by rw [List.length_append]; simp; omega)]
        unfold addE
        rw [if_neg h0, hm, if_neg hg]
theorem merged_f (l : List S24) (hl : l.length < 4398046511104) (k : Nat) (hk : l.length < k) : extent_merged.f k l = some (fitL (mergeL l)) := by
  unfold extent_merged.f
  have := merged_l0 l hl l.length k 0 [] (by omega) hk (Nat.le_refl _)
  rw [List.drop_zero] at this
  exact this
end Go.Proofs.Ytopmjjnkolfciaa.Pr
end
section
namespace Go.Proofs.Ytopmjjnkolfciaa.Sq
open Go Go.RowKit
variable {F : Fence} {n : Nat} {P : Program}
set_option linter.unusedVariables false
theorem range_state {α : Type} {g : Operand} {ps : Array Tmp} {assign body : Code} {Q : Exit → Act → World → Prop} {a : Act} {w : World}
    (hro : F.round = none) (h1 : 1 ≤ n) {gf : Nat} {lb : Array Value} (hg : a.eval g = .func (.func gf) #[] lb) (hFg : F.fn gf) (eg : ∀ args w, (callFunc gf args).run P w = .ok (.enter gf args) w)
    (encs : α → Array Value) (hps : ∀ x, (encs x).size = ps.size) (Kp : World → World → Prop) (S Sp : List α → Prop) (N : Nat)
    (hKt : ∀ {A B C : World}, Kp A B → Kp B C → Kp A C) (hKb : ∀ (W : World) (o : Obj), Kp W (W.putObj (w.heap.size + 1) o))
    (I : List α → World → Prop) (Ix : Code → List α → World → Prop) (hI : OwnFrom w.heap.size I) (hIx : ∀ c, OwnFrom w.heap.size (Ix c)) (h0 : I [] w) (As : Act → List α × α × World → World → Prop) (hAs : ∀ a', OwnFrom w.heap.size (As a'))
    (hit : ∀ (l : Nat) (R : World → Prop) (Rx : Code → World → Prop) (W : World), (∀ A B, KeepsFrom w.heap.size A B → R A → R B) → (∀ c A B, KeepsFrom w.heap.size A B → Rx c A → Rx c B) → (∀ A, R A → w.heap.size + 1 < A.heap.size) → Below w.heap.size w W →
      (∀ pre x W1, I pre W1 → R W1 → pre.length < N → YieldAt F (n - 1 - 1) P l (encs x) W1 fun e W' =>
        (e = .returned (.bool true) ∧ I (pre ++ [x]) W' ∧ R W' ∧ Kp W1 W') ∨ (e = .returned (.bool false) ∧ ∃ c, Ix c (pre ++ [x]) W' ∧ Rx c W')) →
      I [] W → R W →
      CallsIn F (n - 1) P gf (#[.func (.yield l) #[] #[]] ++ lb) W fun e W' => (∃ v, e = .returned v) ∧ ((∃ xs, S xs ∧ I xs W' ∧ R W') ∨ (∃ c pre, Sp pre ∧ Ix c pre W' ∧ Rx c W')))
    (hassign : ∀ (l : Nat) (pre : List α) (x : α) (W : World) (K : Act → World → Prop), I pre W → pre.length < N → w.heap.size + 1 < W.heap.size → (∀ a' W', KeepsFrom w.heap.size W W' → As a' (pre, x, W) W' → K a' W') →
      assign.wpIn (F.inRound l) (n - 1 - 1) P (Exit.then K (fun _ _ _ => False)) { tmps := (ps.zip (encs x)).foldl (fun t (p, v) => t.setIfInBounds p v) a.tmps, defers := [] } W)
    (hbody : ∀ (l : Nat) (pre : List α) (x : α) (a' : Act) (W0 W : World), As a' (pre, x, W0) W → pre.length < N → body.wpIn (F.inRound l) (n - 1 - 1) P (ownPostG w.heap.size (fun _ W' => Kp W0 W') I Ix (pre ++ [x]) W) a' W)
    (hdone : ∀ (D : Nat) (xs : List α) (W : World), w.heap.size ≤ D → S xs → I xs W → W.heap[D]? = some (.deferred (some [])) → Q .normal { a with defers := { target := .collected D, args := #[] } :: a.defers } W)
    (hstop : ∀ (D : Nat) (c : Code) (pre : List α) (W : World), w.heap.size ≤ D → Sp pre → Ix c pre W → W.heap[D]? = some (.deferred (some [])) → c.wpIn F n P Q { a with defers := { target := .collected D, args := #[] } :: a.defers } W) :
    (Code.rangeFunc g ps assign body).wpIn F n P Q a w := by
  refine wpIn_rangeFunc fun fn hfn => ?_
  rw [hro]
  obtain ⟨rec, hrec⟩ : ∃ rec : LoopState → Option Code → Loop, rec = fun st pe => { state := st, pending := pe, fn, tmps := a.tmps, params := ps, assign, body, defers := w.heap.size } := ⟨_, rfl⟩
  obtain ⟨d, hd⟩ : ∃ d, d = w.heap.size := ⟨_, rfl⟩
  obtain ⟨W1, hW1⟩ : ∃ W1, (w.alloc (.deferred (some []))).alloc (.loop (rec .ready none)) = W1 := ⟨_, rfl⟩
  obtain ⟨Rec, hRec⟩ : ∃ Rec : LoopState → Option Code → World → Prop, Rec = fun st pe W => W.heap[d + 1]? = some (.loop (rec st pe)) ∧ W.heap[d]? = some (.deferred (some [])) := ⟨_, rfl⟩
  have hkeep : ∀ st pe A B, KeepsFrom d A B → Rec st pe A → Rec st pe B := by
    subst hRec
    exact fun st pe A B hk h => ⟨hk.same _ _ (by omega) h.1 rfl, hk.same _ _ (Nat.le_refl _) h.2 rfl⟩
  have hput : ∀ st pe st' pe' A, Rec st pe A → Rec st' pe' (A.putObj (d + 1) (.loop (rec st' pe'))) := by
    subst hRec
    exact fun st pe st' pe' A h => ⟨World.putObj_heap_same (Array.getElem?_eq_some_iff.1 h.1).1, (World.putObj_heap_other (by omega)).trans h.2⟩
  have hblk : ∀ st pe A, Rec st pe A → A.heap[d + 1]? = some (.loop (rec st pe)) := by subst hRec; exact fun _ _ _ h => h.1
  have hdef : ∀ st pe A, Rec st pe A → A.heap[d]? = some (.deferred (some [])) := by subst hRec; exact fun _ _ _ h => h.2
  have hR1 : Rec .ready none W1 := by
    subst hRec hW1 hd
    refine ⟨?_, (Below.heap_alloc _ _ _ (by simp)).trans (World.alloc_heap_new w _)⟩
    have := World.alloc_heap_new (w.alloc (.deferred (some []))) (.loop (rec .ready none))
    rwa [World.size_alloc] at this
  have hI1 : I [] W1 := by rw [← hW1]; exact hI.alloc _ (hI.alloc _ h0)
  have hb1 : Below w.heap.size w W1 := by rw [← hW1]; exact ((Below.refl _ w).alloc (Nat.le_refl _) _).alloc (by simp) _
  have hIp : ∀ s W st pe o, I s W → Rec st pe W → I s (W.putObj (d + 1) o) := fun s W st pe o hs hr => hI.putObj _ hs (by omega) (hblk _ _ _ hr) rfl
  have hIxp : ∀ c s W st pe o, Ix c s W → Rec st pe W → Ix c s (W.putObj (d + 1) o) := fun c s W st pe o hs hr => (hIx c).putObj _ hs (by omega) (hblk _ _ _ hr) rfl
  refine ⟨d + 1, [{ target := .collected d, args := #[] }], W1, { target := .fn (.func gf) lb, args := #[.func (.yield (d + 1)) #[] #[]] }, W1, gf, #[.func (.yield (d + 1)) #[] #[]] ++ lb, W1, ?_, ?_, ?_, ?_, fun _ => h1, ?_⟩
  · rw [← hW1, hrec, hd]; exact run_enterLoop_outer _ _ _ _ _
  · simp only [resolve, hg]
    simp [go_sem]
  · intro f' hf'; simp [Target.leads] at hf'; subst hf'; exact hFg
  · simp [invoke, go_sem, eg]
  · refine (hit (d + 1) (Rec .ready none) (fun c => Rec .done (some c)) W1 (by rw [← hd]; exact hkeep _ _) (fun c => by rw [← hd]; exact hkeep _ _) (fun A h => by rw [← hd]; exact (Array.getElem?_eq_some_iff.1 (hblk _ _ _ h)).1) hb1 (fun pre x W hi hr hlen => ?_) hI1 hR1).mono ?_
    ·
      have hy := run_yield (P := P) (args := encs x) (hblk _ _ _ hr) (by rw [hrec]; exact hps x)
      rw [hrec] at hy
      have hsz : w.heap.size + 1 < W.heap.size := by rw [← hd]; exact (Array.getElem?_eq_some_iff.1 (hblk _ _ _ hr)).1
      refine ⟨fn, _, assign, body, hy, roundIn_of_wpIn hfn (hassign _ pre x W _ hi hlen hsz (fun a' W' hkW has => ?_))⟩
      rw [← hd] at hkW
      have hr' := hkeep _ _ _ _ hkW hr
      have hbeg := run_beginRound (P := P) (hblk _ _ _ hr') (by rw [hrec])
      rw [show ({ rec .ready none with state := .busy } : Loop) = rec .busy none by rw [hrec]] at hbeg
      refine ⟨_, hbeg, ?_⟩
      have hr2 := hput _ _ .busy none _ hr'
      refine wpIn_mono (hbody _ pre x a' W _ ((hAs a').putObj _ has (by omega) (hblk _ _ _ hr') rfl) hlen) ?_
      have fin : ∀ (jump : Option Code) (W3 : World), Rec .busy none W3 → (Instr.endRound (d + 1) jump).run P W3 = .ok (.bool jump.isNone) (W3.putObj (d + 1) (.loop (rec (if jump.isNone then .ready else .done) jump))) := fun jump W3 h3 => by
        have := run_endRound (P := P) jump (hblk _ _ _ h3)
        rw [show ({ rec .busy none with state := if jump.isNone then .ready else .done, pending := jump } : Loop) = rec (if jump.isNone then .ready else .done) jump by rw [hrec]] at this
        exact this
      rintro e a3 W3 hp
      cases e with
      | normal =>
        obtain ⟨hk3, hkp3, hi3⟩ := hp
        rw [← hd] at hk3
        have hr3 := hkeep _ _ _ _ hk3 hr2
        exact ⟨_, _, fin none W3 hr3, .inl ⟨rfl, hIp _ _ _ _ _ hi3 hr3, hput _ _ _ _ _ hr3, hKt hkp3 (by have := hKb W3 (.loop (rec .ready none)); rw [← hd] at this; exact this)⟩⟩
      | ret =>
        obtain ⟨hk3, hi3⟩ := hp
        rw [← hd] at hk3
        have hr3 := hkeep _ _ _ _ hk3 hr2
        exact ⟨_, _, fin (some .ret) W3 hr3, .inr ⟨rfl, .ret, hIxp _ _ _ _ _ _ hi3 hr3, hput _ _ _ _ _ hr3⟩⟩
      | exit id =>
        obtain ⟨hk3, hi3⟩ := hp
        rw [← hd] at hk3
        have hr3 := hkeep _ _ _ _ hk3 hr2
        exact ⟨_, _, fin (some (.exit id)) W3 hr3, .inr ⟨rfl, .exit id, hIxp _ _ _ _ _ _ hi3 hr3, hput _ _ _ _ _ hr3⟩⟩
      | goto t =>
        obtain ⟨hk3, hi3⟩ := hp
        rw [← hd] at hk3
        have hr3 := hkeep _ _ _ _ hk3 hr2
        exact ⟨_, _, fin (some (.goto t)) W3 hr3, .inr ⟨rfl, .goto t, hIxp _ _ _ _ _ _ hi3 hr3, hput _ _ _ _ _ hr3⟩⟩
      | panic ch => exact hp.elim
      | outgrown => exact hp.elim
    ·
      have out : ∀ st pe W2, st ≠ LoopState.busy → Rec st pe W2 → (Instr.endLoop (d + 1)).run P W2 = .ok pe (W2.putObj (d + 1) (.loop (rec .exhausted pe))) := fun st pe W2 hst h2 => by
        have := run_endLoop (P := P) (hblk _ _ _ h2) (by rw [hrec]; exact hst)
        rw [show ({ rec st pe with state := .exhausted } : Loop) = rec .exhausted pe by rw [hrec], show (rec st pe).pending = pe by rw [hrec]] at this
        exact this
      rintro e W2 ⟨⟨v, rfl⟩, (⟨xs, hS, hi, hr⟩ | ⟨c, pre, hSp, hi, hr⟩)⟩
      · refine ⟨none, _, out _ _ _ (by simp) hr, ?_⟩
        rw [hd] at *
        exact hdone _ xs _ (Nat.le_refl _) hS (by have := hIp _ _ _ _ (.loop (rec .exhausted none)) hi hr; rwa [hd] at this) (by have := hdef _ _ _ (hput _ _ .exhausted none _ hr); rwa [hd] at this)
      · refine ⟨some c, _, out _ _ _ (by simp) hr, ?_⟩
        exact hstop d c pre _ (by omega) hSp (hIxp _ _ _ _ _ _ hi hr) (hdef _ _ _ (hput _ _ .exhausted (some c) _ hr))
end Go.Proofs.Ytopmjjnkolfciaa.Sq
end
section
namespace Go.Proofs.Ytopmjjnkolfciaa.Sq
open Go Go.Proofs.YtopmjjnkolfciaaW.PrintLast
set_option linter.unusedVariables false
variable {n : Nat} {P : Program} {ops : Array Oper} {Q : Exit → Act → World → Prop} {md : Region.Mode}
theorem startW {id m : Nat} {a : Act} {w : World} (l : Array Bool) (hm : P.follows .mixedOrders = true) (hn : ops.size = m) (hl : Array.replicate m false = l)
    (h : wpAnyIn Fence.wide n P .any ops Q m l a w.drew) : (Code.region id ops true).wpIn Fence.wide n P Q a w := by
  subst hn
  subst hl
  exact wpIn_region_any hm h
theorem pureW {i : Nat} {N : Option Tmp} {oi : Oper} {v : Value} {fuel : Nat} {l : Array Bool} {a : Act} {w : World} (l' : Array Bool) (hi : ops[i]? = some oi) (hN : oi.dst = N) (hc : anyB md ops l l' i = true)
    (hQ : ∀ c a w, Q (.panic c) (a.put oi.dst v) w → Q (.panic c) a w) (hy : YieldsFenced P ops oi v a) {a' : Act} (ha : a.put N v = a')
    (h : wpAnyIn Fence.wide n P md ops Q fuel l' a' w) : wpAnyIn Fence.wide n P md ops Q (fuel + 1) l a w := by
  subst ha
  subst hN
  simp only [anyB, Bool.and_eq_true, beq_iff_eq] at hc
  obtain ⟨⟨⟨h1, h2⟩, h3⟩, h6⟩ := hc
  subst h6
  exact wpAnyIn_take rfl hi h1 h2 h3 hQ hy h
theorem oneW {i : Nat} {N : Option Tmp} {oi : Oper} {fuel : Nat} {l : Array Bool} {a : Act} {w : World} (l' : Array Bool) (hi : ops[i]? = some oi) (hN : oi.dst = N) (hc : ((Region.ready md ops l == [i]) && (l.setIfInBounds i true == l')) = true)
    (h : ∀ K : Act → World → Prop, Shut (∀ a' w', wpAnyIn Fence.wide n P md ops Q fuel l' a' w' → K a' w') → if Region.wanted oi (yielded ops a.tmps) = true then Oper.wpIn Fence.wide n P oi a w K Q else (∀ f, oi.about P w a.eval = some f → Fence.wide.fn f) ∧ K (a.put N undef) w) :
    wpAnyIn Fence.wide n P md ops Q (fuel + 1) l a w := by
  subst hN
  simp only [Bool.and_eq_true, beq_iff_eq] at hc
  obtain ⟨h1, h2⟩ := hc
  subst h2
  exact wpAnyIn_ready h1 (by simp) (AllReadyIn.cons hi (fun K hK => h K hK) AllReadyIn.nil)
theorem twoW {i j : Nat} {Ni Nj : Option Tmp} {oi oj : Oper} {fuel : Nat} {l : Array Bool} {a : Act} {w : World} (li lj : Array Bool) (hi : ops[i]? = some oi) (hj : ops[j]? = some oj) (hNi : oi.dst = Ni) (hNj : oj.dst = Nj) (hc : ((Region.ready md ops l == [i, j]) && (l.setIfInBounds i true == li) && (l.setIfInBounds j true == lj)) = true)
    (h1 : ∀ K : Act → World → Prop, Shut (∀ a' w', wpAnyIn Fence.wide n P md ops Q fuel li a' w' → K a' w') → if Region.wanted oi (yielded ops a.tmps) = true then Oper.wpIn Fence.wide n P oi a w K Q else (∀ f, oi.about P w a.eval = some f → Fence.wide.fn f) ∧ K (a.put Ni undef) w)
    (h2 : ∀ K : Act → World → Prop, Shut (∀ a' w', wpAnyIn Fence.wide n P md ops Q fuel lj a' w' → K a' w') → if Region.wanted oj (yielded ops a.tmps) = true then Oper.wpIn Fence.wide n P oj a w K Q else (∀ f, oj.about P w a.eval = some f → Fence.wide.fn f) ∧ K (a.put Nj undef) w) :
    wpAnyIn Fence.wide n P md ops Q (fuel + 1) l a w := by
  subst hNi
  subst hNj
  simp only [Bool.and_eq_true, beq_iff_eq] at hc
  obtain ⟨⟨h3, h4⟩, h5⟩ := hc
  subst h4
  subst h5
  exact wpAnyIn_ready h3 (by simp) (AllReadyIn.cons hi (fun K hK => h1 K hK) (AllReadyIn.cons hj (fun K hK => h2 K hK) AllReadyIn.nil))
theorem doneW {l : Array Bool} {a : Act} {w : World} {m : Nat} (hr : (Region.ready md ops l == []) = true) (h : Q .normal a w) : wpAnyIn Fence.wide n P md ops Q m l a w := wpAnyIn_done (by simpa using hr) h m
theorem normW {fuel : Nat} {l : Array Bool} {a a' : Act} {w : World} (ha : a = a') (h : wpAnyIn Fence.wide n P md ops Q fuel l a' w) : wpAnyIn Fence.wide n P md ops Q fuel l a w := by
  subst ha
  exact h
theorem valueW {oi : Oper} {N : Option Tmp} {a : Act} {w w1 : World} {v : Value} {K : Act → World → Prop} (hw : Region.wanted oi (yielded ops a.tmps) = true) (hN : oi.dst = N) (hrun : (execOp a.eval oi).run P w = .ok (.value v) w1)
    (h : K (a.put N v) w1) : if Region.wanted oi (yielded ops a.tmps) = true then Oper.wpIn Fence.wide n P oi a w K Q else (∀ f, oi.about P w a.eval = some f → Fence.wide.fn f) ∧ K (a.put N undef) w := by
  rw [if_pos hw]
  subst hN
  refine ⟨fun _ _ => trivial, ?_⟩
  show oi.uponIn Fence.wide n P a K Q ((execOp a.eval oi).run P w)
  rw [hrun]
  exact h
theorem offW {oi : Oper} {N : Option Tmp} {a : Act} {w : World} {K : Act → World → Prop} (hw : Region.wanted oi (yielded ops a.tmps) = false) (h : K (a.put N undef) w) : if Region.wanted oi (yielded ops a.tmps) = true then Oper.wpIn Fence.wide n P oi a w K Q else (∀ f, oi.about P w a.eval = some f → Fence.wide.fn f) ∧ K (a.put N undef) w := by
  rw [hw, if_neg (by simp)]
  exact ⟨fun _ _ => trivial, h⟩
theorem goesW {oi : Oper} {N : Option Tmp} {a : Act} {w : World} {K : Act → World → Prop} {f : FuncId} {fn : Func} {as_ : Array Operand} {ts : Array TypeId} (hf : P.funcs[f]? = some fn) (hname : (fn.name == "runtime.NumGoroutine") = false) (hb : fn.body.isSome = true) (args : Array Value)
    (hw : Region.wanted oi (yielded ops a.tmps) = true) (hN : oi.dst = N) (hop : oi.op = .call { callee := .value (.func f), args := as_, argTypes := ts }) (hargs : as_.map a.eval = args)
    (h : Calls P f args w fun e w' => ∃ v, e = .returned v ∧ K (a.put N v) w') : if Region.wanted oi (yielded ops a.tmps) = true then Oper.wpIn Fence.wide n P oi a w K Q else (∀ f, oi.about P w a.eval = some f → Fence.wide.fn f) ∧ K (a.put N undef) w := by
  have he := enters_ hf hname hb args w
  have hrun : (execOp a.eval oi).run P w = .ok (.enter f args) w := by
    unfold execOp
    simp [hop, resolve, Deferred.ofValue, invoke, Act.eval, hargs, he]
  rw [if_pos hw]
  subst hN
  refine ⟨fun _ _ => trivial, ?_⟩
  show oi.uponIn Fence.wide n P a K Q ((execOp a.eval oi).run P w)
  rw [hrun, Oper.uponIn_enter]
  refine ⟨fun h => by simp [Fence.wide] at h, callsIn_wide.2 (h.mono fun e w'' hh => ?_)⟩
  obtain ⟨v, rfl, hk⟩ := hh
  exact hk
theorem yieldW {oi : Oper} {N : Option Tmp} {a : Act} {w : World} {K : Act → World → Prop} {l : Nat} {cv : Operand} {as_ : Array Operand} {ts : Array TypeId} (args : Array Value)
    (hw : Region.wanted oi (yielded ops a.tmps) = true) (hN : oi.dst = N) (hop : oi.op = .call { callee := .value cv, args := as_, argTypes := ts }) (hcv : a.eval cv = .func (.yield l) #[] #[]) (hargs : as_.map a.eval = args) {R : Ending → World → Prop}
    (hy : YieldAt Fence.wide (n - 1) P l args w R) (h : ∀ e w', R e w' → ∃ v, e = .returned v ∧ K (a.put N v) w') : if Region.wanted oi (yielded ops a.tmps) = true then Oper.wpIn Fence.wide n P oi a w K Q else (∀ f, oi.about P w a.eval = some f → Fence.wide.fn f) ∧ K (a.put N undef) w := by
  obtain ⟨fn, tmps, assign, body, hr, hR⟩ := hy
  have hrun : (execOp a.eval oi).run P w = .ok (.round l fn tmps assign body) w := by
    unfold execOp
    simp [hop, resolve, Deferred.ofValue, invoke, hcv, hargs, hr]
  rw [if_pos hw]
  subst hN
  refine ⟨fun _ _ => trivial, ?_⟩
  show oi.uponIn Fence.wide n P a K Q ((execOp a.eval oi).run P w)
  rw [hrun, Oper.uponIn_round]
  refine ⟨fun h => by simp [Fence.wide] at h, hR.mono fun e w'' hh => ?_⟩
  obtain ⟨v, rfl, hk⟩ := h e w'' hh
  exact hk
end Go.Proofs.Ytopmjjnkolfciaa.Sq
end
section
namespace Go.Proofs.Ytopmjjnkolfciaa.Pr
open Go.RowKit Go.Proofs.YtopmjjnkolfciaaW.PrintWords Go.Proofs.YtopmjjnkolfciaaW.PrintLast Go.Proofs.YtopmjjnkolfciaaW.PrintMore
attribute [local go_sem] max2_int min2_int max_two min_two max_three min_three max_four min_four
attribute [local go_sem] Go.Proofs.Ytopmjjnkolfciaa.Hl.str_geq Go.Proofs.Ytopmjjnkolfciaa.Hl.str_gtr Go.Proofs.Ytopmjjnkolfciaa.Hl.str_leq
set_option linter.unusedVariables false
set_option linter.unusedSimpArgs false
def extent_may.f (a0_0 : Int) (a0_1 : Int) (a0_2 : Int) (a0_3 : Bool) : Option (Bool) := if a0_0 ≥ 0 then (if a0_1 > 0 then (if a0_2 > 0 then (if a0_2 ≤ 256 then ((extent_end.f a0_0 a0_1 a0_2 a0_3).bind fun t104 => (if t104 ≤ 256 then (if a0_1 < 1024 then ((extent_last.f a0_0 a0_1 a0_2 a0_3).bind fun t105 => (if t105 ≤ 1024 then (some (decide (a0_0 < 256))) else (some false))) else (some false)) else (some false))) else (some false)) else (some false)) else (some false)) else (some false)
set_option maxHeartbeats 8000000 in
set_option maxRecDepth 100000 in
theorem extent_may.calls (a0_0 : Int) (a0_1 : Int) (a0_2 : Int) (a0_3 : Bool) (r : Bool) (w : World) (h : extent_may.f a0_0 a0_1 a0_2 a0_3 = some r) :
  Calls Try.prog 34 #[.agg #[.int .i64 a0_0, .int .i64 a0_1, .int .i64 a0_2, .bool a0_3]] w fun e w' => e = .returned (.bool r) ∧ Below w.heap.size w w' := by
 have hu24 := Try.underlying24
 have HB := Aside0.mk (Below.refl w.heap.size w)
 have H : (if a0_0 ≥ 0 then (if a0_1 > 0 then (if a0_2 > 0 then (if a0_2 ≤ 256 then ((extent_end.f a0_0 a0_1 a0_2 a0_3).bind fun t104 => (if t104 ≤ 256 then (if a0_1 < 1024 then ((extent_last.f a0_0 a0_1 a0_2 a0_3).bind fun t105 => (if t105 ≤ 1024 then (some (decide (a0_0 < 256))) else (some false))) else (some false)) else (some false))) else (some false)) else (some false)) else (some false)) else (some false)) = some r := h
 clear h
 by_cases c2 : a0_0 ≥ 0
 ·rw [if_pos c2] at H
  have c2b0 : decide (0 ≤ a0_0) = true := decide_eq_true c2
  clear c2
  by_cases c3 : a0_1 > 0
  ·rw [if_pos c3] at H
   have c3b0 : decide (0 < a0_1) = true := decide_eq_true c3
   clear c3
   by_cases c4 : a0_2 > 0
   ·rw [if_pos c4] at H
    have c4b0 : decide (0 < a0_2) = true := decide_eq_true c4
    clear c4
    by_cases c5 : a0_2 ≤ 256
    ·rw [if_pos c5] at H
     have c5b0 : decide (a0_2 ≤ 256) = true := decide_eq_true c5
     clear c5
     replace H := Option.bind_eq_some_iff.mp H
     obtain ⟨t104, A60, H⟩ := H
     replace H : (if t104 ≤ 256 then (if a0_1 < 1024 then ((extent_last.f a0_0 a0_1 a0_2 a0_3).bind fun t105 => (if t105 ≤ 1024 then (some (decide (a0_0 < 256))) else (some false))) else (some false)) else (some false)) = some r := H
     have A6 := Aside0.mk A60
     clear A60
     by_cases c7 : t104 ≤ 256
     ·rw [if_pos c7] at H
      have c7b0 : decide (t104 ≤ 256) = true := decide_eq_true c7
      clear c7
      by_cases c8 : a0_1 < 1024
      ·rw [if_pos c8] at H
       have c8b0 : decide (a0_1 < 1024) = true := decide_eq_true c8
       clear c8
       replace H := Option.bind_eq_some_iff.mp H
       obtain ⟨t105, A90, H⟩ := H
       replace H : (if t105 ≤ 1024 then (some (decide (a0_0 < 256))) else (some false)) = some r := H
       have A9 := Aside0.mk A90
       clear A90
       by_cases c10 : t105 ≤ 1024
       ·rw [if_pos c10] at H
        have c10b0 : decide (t105 ≤ 1024) = true := decide_eq_true c10
        clear c10;obtain rfl := Option.some.inj H
        go_enter Try.func34, Try.ntmps34
        go_wp2_with (first | ((with_reducible refine gate_dst (N := 1) rfl ?_); refine box_event ?hg (N := 1) ?hd (cs := #[.int .i64 a0_0, .int .i64 a0_1, .int .i64 a0_2, .bool a0_3]) (t := 24) ?hr ?_; (case hd => rfl); (case hg => rfl); (case hr => first | (go_simp; done) | (go_simp; rfl)); intro gb103 hg w11 hbox hb; have n0_ := Aside0.mk (below_step (by repeat (first | (with_reducible first | exact HB.out | apply below_alloc | apply pw_below_drewN | apply below_drew1) | exact HB.out)) hb); have n1_ := Aside0.mk (hbox); have n2_ := Aside0.mk ((by rw [hg]; exact (below_size (by repeat (first | (with_reducible first | exact HB.out | apply below_alloc | apply pw_below_drewN | apply below_drew1) | exact HB.out))) : w.heap.size ≤ gb103)); have n3_ := Aside0.mk ((by rw [hg]; exact (below_size (by repeat (first | (with_reducible first | exact HB.out | apply below_alloc | apply pw_below_drewN | apply below_drew1) | exact HB.out))) : w.heap.size ≤ gb103)); clear HB; have HB := n0_; have BK103 := n1_; have GW103 := n2_; have GE103 := n3_; clear n0_ n1_ n2_ n3_; clear hb hbox hg; have hcz12_0 : w11.cell? ⟨gb103, 0, none⟩ = some (.int .i64 a0_0) := (blk_cell BK103.out 0).trans rfl; have hcz12_1 : w11.cell? ⟨gb103, 1, none⟩ = some (.int .i64 a0_1) := (blk_cell BK103.out 1).trans rfl; have hcz12_2 : w11.cell? ⟨gb103, 2, none⟩ = some (.int .i64 a0_2) := (blk_cell BK103.out 2).trans rfl; have hcz12_3 : w11.cell? ⟨gb103, 3, none⟩ = some (.bool a0_3) := (blk_cell BK103.out 3).trans rfl; have hfz12_0 := blk_frozen BK103.out 0; have hfz12_1 := blk_frozen BK103.out 1; have hfz12_2 := blk_frozen BK103.out 2; have hfz12_3 := blk_frozen BK103.out 3) | (go_at_call 35; (with_reducible refine (extent_end.calls a0_0 a0_1 a0_2 a0_3 t104 _ A6.out).mono ?_); rintro e w13 ⟨rfl, hb⟩; have n0_ := Aside0.mk (blk_below (g := gb103) (o := .cells #[.int .i64 a0_0, .int .i64 a0_1, .int .i64 a0_2, .bool a0_3] 24 (0, 0)) (by (with_reducible repeat (first | refine blk_drewN ?_ _ | refine blk_drew ?_ | refine blk_alloc ?_ _)); exact BK103.out) hb); have n1_ := Aside0.mk (below_step (by repeat (first | (with_reducible first | exact HB.out | apply below_alloc | apply pw_below_drewN | apply below_drew1 | refine below_set ?_ GE103.out) | exact HB.out)) hb); clear BK103; clear HB; have BK103 := n0_; have HB := n1_; clear n0_ n1_; (try clear hb); (try clear hb2); (try clear hk); (try clear hi); have hcz14_0 : w13.cell? ⟨gb103, 0, none⟩ = some (.int .i64 a0_0) := (blk_cell BK103.out 0).trans rfl; have hcz14_1 : w13.cell? ⟨gb103, 1, none⟩ = some (.int .i64 a0_1) := (blk_cell BK103.out 1).trans rfl; have hcz14_2 : w13.cell? ⟨gb103, 2, none⟩ = some (.int .i64 a0_2) := (blk_cell BK103.out 2).trans rfl; have hcz14_3 : w13.cell? ⟨gb103, 3, none⟩ = some (.bool a0_3) := (blk_cell BK103.out 3).trans rfl; have hfz14_0 := blk_frozen BK103.out 0; have hfz14_1 := blk_frozen BK103.out 1; have hfz14_2 := blk_frozen BK103.out 2; have hfz14_3 := blk_frozen BK103.out 3) | (go_at_call 65; (with_reducible refine (extent_last.calls a0_0 a0_1 a0_2 a0_3 t105 _ A9.out).mono ?_); rintro e w15 ⟨rfl, hb⟩; have n0_ := Aside0.mk (blk_below (g := gb103) (o := .cells #[.int .i64 a0_0, .int .i64 a0_1, .int .i64 a0_2, .bool a0_3] 24 (0, 0)) (by (with_reducible repeat (first | refine blk_drewN ?_ _ | refine blk_drew ?_ | refine blk_alloc ?_ _)); exact BK103.out) hb); have n1_ := Aside0.mk (below_step (by repeat (first | (with_reducible first | exact HB.out | apply below_alloc | apply pw_below_drewN | apply below_drew1 | refine below_set ?_ GE103.out) | exact HB.out)) hb); clear BK103; clear HB; have BK103 := n0_; have HB := n1_; clear n0_ n1_; (try clear hb); (try clear hb2); (try clear hk); (try clear hi); have hcz16_0 : w15.cell? ⟨gb103, 0, none⟩ = some (.int .i64 a0_0) := (blk_cell BK103.out 0).trans rfl; have hcz16_1 : w15.cell? ⟨gb103, 1, none⟩ = some (.int .i64 a0_1) := (blk_cell BK103.out 1).trans rfl; have hcz16_2 : w15.cell? ⟨gb103, 2, none⟩ = some (.int .i64 a0_2) := (blk_cell BK103.out 2).trans rfl; have hcz16_3 : w15.cell? ⟨gb103, 3, none⟩ = some (.bool a0_3) := (blk_cell BK103.out 3).trans rfl; have hfz16_0 := blk_frozen BK103.out 0; have hfz16_1 := blk_frozen BK103.out 1; have hfz16_2 := blk_frozen BK103.out 2; have hfz16_3 := blk_frozen BK103.out 3))
        go_ret
        exact ⟨by first | rfl | (simp [errW_none, errW_some] <;> rfl) | (simp [*, errW_none, errW_some] <;> rfl), by repeat (first | (with_reducible first | exact HB.out | apply below_alloc | apply pw_below_drewN | apply below_drew1 | refine below_set ?_ GE103.out) | exact HB.out)⟩
       ·rw [if_neg c10] at H
        have c10b0 : decide (t105 ≤ 1024) = false := decide_eq_false c10
        clear c10;obtain rfl := Option.some.inj H
        go_enter Try.func34, Try.ntmps34
        go_wp2_with (first | ((with_reducible refine gate_dst (N := 1) rfl ?_); refine box_event ?hg (N := 1) ?hd (cs := #[.int .i64 a0_0, .int .i64 a0_1, .int .i64 a0_2, .bool a0_3]) (t := 24) ?hr ?_; (case hd => rfl); (case hg => rfl); (case hr => first | (go_simp; done) | (go_simp; rfl)); intro gb103 hg w17 hbox hb; have n0_ := Aside0.mk (below_step (by repeat (first | (with_reducible first | exact HB.out | apply below_alloc | apply pw_below_drewN | apply below_drew1) | exact HB.out)) hb); have n1_ := Aside0.mk (hbox); have n2_ := Aside0.mk ((by rw [hg]; exact (below_size (by repeat (first | (with_reducible first | exact HB.out | apply below_alloc | apply pw_below_drewN | apply below_drew1) | exact HB.out))) : w.heap.size ≤ gb103)); have n3_ := Aside0.mk ((by rw [hg]; exact (below_size (by repeat (first | (with_reducible first | exact HB.out | apply below_alloc | apply pw_below_drewN | apply below_drew1) | exact HB.out))) : w.heap.size ≤ gb103)); clear HB; have HB := n0_; have BK103 := n1_; have GW103 := n2_; have GE103 := n3_; clear n0_ n1_ n2_ n3_; clear hb hbox hg; have hcz18_0 : w17.cell? ⟨gb103, 0, none⟩ = some (.int .i64 a0_0) := (blk_cell BK103.out 0).trans rfl; have hcz18_1 : w17.cell? ⟨gb103, 1, none⟩ = some (.int .i64 a0_1) := (blk_cell BK103.out 1).trans rfl; have hcz18_2 : w17.cell? ⟨gb103, 2, none⟩ = some (.int .i64 a0_2) := (blk_cell BK103.out 2).trans rfl; have hcz18_3 : w17.cell? ⟨gb103, 3, none⟩ = some (.bool a0_3) := (blk_cell BK103.out 3).trans rfl; have hfz18_0 := blk_frozen BK103.out 0; have hfz18_1 := blk_frozen BK103.out 1; have hfz18_2 := blk_frozen BK103.out 2; have hfz18_3 := blk_frozen BK103.out 3) | (go_at_call 35; (with_reducible refine (extent_end.calls a0_0 a0_1 a0_2 a0_3 t104 _ A6.out).mono ?_); rintro e w19 ⟨rfl, hb⟩; have n0_ := Aside0.mk (blk_below (g := gb103) (o := .cells #[.int .i64 a0_0, .int .i64 a0_1, .int .i64 a0_2, .bool a0_3] 24 (0, 0)) (by (with_reducible repeat (first | refine blk_drewN ?_ _ | refine blk_drew ?_ | refine blk_alloc ?_ _)); exact BK103.out) hb); have n1_ := Aside0.mk (below_step (by repeat (first | (with_reducible first | exact HB.out | apply below_alloc | apply pw_below_drewN | apply below_drew1 | refine below_set ?_ GE103.out) | exact HB.out)) hb); clear BK103; clear HB; have BK103 := n0_; have HB := n1_; clear n0_ n1_; (try clear hb); (try clear hb2); (try clear hk); (try clear hi); have hcz20_0 : w19.cell? ⟨gb103, 0, none⟩ = some (.int .i64 a0_0) := (blk_cell BK103.out 0).trans rfl; have hcz20_1 : w19.cell? ⟨gb103, 1, none⟩ = some (.int .i64 a0_1) := (blk_cell BK103.out 1).trans rfl; have hcz20_2 : w19.cell? ⟨gb103, 2, none⟩ = some (.int .i64 a0_2) := (blk_cell BK103.out 2).trans rfl; have hcz20_3 : w19.cell? ⟨gb103, 3, none⟩ = some (.bool a0_3) := (blk_cell BK103.out 3).trans rfl; have hfz20_0 := blk_frozen BK103.out 0; have hfz20_1 := blk_frozen BK103.out 1; have hfz20_2 := blk_frozen BK103.out 2; have hfz20_3 := blk_frozen BK103.out 3) | (go_at_call 65; (with_reducible refine (extent_last.calls a0_0 a0_1 a0_2 a0_3 t105 _ A9.out).mono ?_); rintro e w21 ⟨rfl, hb⟩; have n0_ := Aside0.mk (blk_below (g := gb103) (o := .cells #[.int .i64 a0_0, .int .i64 a0_1, .int .i64 a0_2, .bool a0_3] 24 (0, 0)) (by (with_reducible repeat (first | refine blk_drewN ?_ _ | refine blk_drew ?_ | refine blk_alloc ?_ _)); exact BK103.out) hb); have n1_ := Aside0.mk (below_step (by repeat (first | (with_reducible first | exact HB.out | apply below_alloc | apply pw_below_drewN | apply below_drew1 | refine below_set ?_ GE103.out) | exact HB.out)) hb); clear BK103; clear HB; have BK103 := n0_; have HB := n1_; clear n0_ n1_; (try clear hb); (try clear hb2); (try clear hk); (try clear hi)))
        go_ret
        exact ⟨by first | rfl | (simp [errW_none, errW_some] <;> rfl) | (simp [*, errW_none, errW_some] <;> rfl), by repeat (first | (with_reducible first | exact HB.out | apply below_alloc | apply pw_below_drewN | apply below_drew1 | refine below_set ?_ GE103.out) | exact HB.out)⟩
      ·rw [if_neg c8] at H
       have c8b0 : decide (a0_1 < 1024) = false := decide_eq_false c8
       clear c8;obtain rfl := Option.some.inj H
       go_enter Try.func34, Try.ntmps34
       go_wp2_with (first | ((with_reducible refine gate_dst (N := 1) rfl ?_); refine box_event ?hg (N := 1) ?hd (cs := #[.int .i64 a0_0, .int .i64 a0_1, .int .i64 a0_2, .bool a0_3]) (t := 24) ?hr ?_; (case hd => rfl); (case hg => rfl); (case hr => first | (go_simp; done) | (go_simp; rfl)); intro gb103 hg w22 hbox hb; have n0_ := Aside0.mk (below_step (by repeat (first | (with_reducible first | exact HB.out | apply below_alloc | apply pw_below_drewN | apply below_drew1) | exact HB.out)) hb); have n1_ := Aside0.mk (hbox); have n2_ := Aside0.mk ((by rw [hg]; exact (below_size (by repeat (first | (with_reducible first | exact HB.out | apply below_alloc | apply pw_below_drewN | apply below_drew1) | exact HB.out))) : w.heap.size ≤ gb103)); have n3_ := Aside0.mk ((by rw [hg]; exact (below_size (by repeat (first | (with_reducible first | exact HB.out | apply below_alloc | apply pw_below_drewN | apply below_drew1) | exact HB.out))) : w.heap.size ≤ gb103)); clear HB; have HB := n0_; have BK103 := n1_; have GW103 := n2_; have GE103 := n3_; clear n0_ n1_ n2_ n3_; clear hb hbox hg; have hcz23_0 : w22.cell? ⟨gb103, 0, none⟩ = some (.int .i64 a0_0) := (blk_cell BK103.out 0).trans rfl; have hcz23_1 : w22.cell? ⟨gb103, 1, none⟩ = some (.int .i64 a0_1) := (blk_cell BK103.out 1).trans rfl; have hcz23_2 : w22.cell? ⟨gb103, 2, none⟩ = some (.int .i64 a0_2) := (blk_cell BK103.out 2).trans rfl; have hcz23_3 : w22.cell? ⟨gb103, 3, none⟩ = some (.bool a0_3) := (blk_cell BK103.out 3).trans rfl; have hfz23_0 := blk_frozen BK103.out 0; have hfz23_1 := blk_frozen BK103.out 1; have hfz23_2 := blk_frozen BK103.out 2; have hfz23_3 := blk_frozen BK103.out 3) | (go_at_call 35; (with_reducible refine (extent_end.calls a0_0 a0_1 a0_2 a0_3 t104 _ A6.out).mono ?_); rintro e w24 ⟨rfl, hb⟩; have n0_ := Aside0.mk (blk_below (g := gb103) (o := .cells #[.int .i64 a0_0, .int .i64 a0_1, .int .i64 a0_2, .bool a0_3] 24 (0, 0)) (by (with_reducible repeat (first | refine blk_drewN ?_ _ | refine blk_drew ?_ | refine blk_alloc ?_ _)); exact BK103.out) hb); have n1_ := Aside0.mk (below_step (by repeat (first | (with_reducible first | exact HB.out | apply below_alloc | apply pw_below_drewN | apply below_drew1 | refine below_set ?_ GE103.out) | exact HB.out)) hb); clear BK103; clear HB; have BK103 := n0_; have HB := n1_; clear n0_ n1_; (try clear hb); (try clear hb2); (try clear hk); (try clear hi); have hcz25_0 : w24.cell? ⟨gb103, 0, none⟩ = some (.int .i64 a0_0) := (blk_cell BK103.out 0).trans rfl; have hcz25_1 : w24.cell? ⟨gb103, 1, none⟩ = some (.int .i64 a0_1) := (blk_cell BK103.out 1).trans rfl; have hcz25_2 : w24.cell? ⟨gb103, 2, none⟩ = some (.int .i64 a0_2) := (blk_cell BK103.out 2).trans rfl; have hcz25_3 : w24.cell? ⟨gb103, 3, none⟩ = some (.bool a0_3) := (blk_cell BK103.out 3).trans rfl; have hfz25_0 := blk_frozen BK103.out 0; have hfz25_1 := blk_frozen BK103.out 1; have hfz25_2 := blk_frozen BK103.out 2; have hfz25_3 := blk_frozen BK103.out 3))
       go_ret
       exact ⟨by first | rfl | (simp [errW_none, errW_some] <;> rfl) | (simp [*, errW_none, errW_some] <;> rfl), by repeat (first | (with_reducible first | exact HB.out | apply below_alloc | apply pw_below_drewN | apply below_drew1 | refine below_set ?_ GE103.out) | exact HB.out)⟩
     ·rw [if_neg c7] at H
      have c7b0 : decide (t104 ≤ 256) = false := decide_eq_false c7
      clear c7;obtain rfl := Option.some.inj H
      go_enter Try.func34, Try.ntmps34
      go_wp2_with (first | ((with_reducible refine gate_dst (N := 1) rfl ?_); refine box_event ?hg (N := 1) ?hd (cs := #[.int .i64 a0_0, .int .i64 a0_1, .int .i64 a0_2, .bool a0_3]) (t := 24) ?hr ?_; (case hd => rfl); (case hg => rfl); (case hr => first | (go_simp; done) | (go_simp; rfl)); intro gb103 hg w26 hbox hb; have n0_ := Aside0.mk (below_step (by repeat (first | (with_reducible first | exact HB.out | apply below_alloc | apply pw_below_drewN | apply below_drew1) | exact HB.out)) hb); have n1_ := Aside0.mk (hbox); have n2_ := Aside0.mk ((by rw [hg]; exact (below_size (by repeat (first | (with_reducible first | exact HB.out | apply below_alloc | apply pw_below_drewN | apply below_drew1) | exact HB.out))) : w.heap.size ≤ gb103)); have n3_ := Aside0.mk ((by rw [hg]; exact (below_size (by repeat (first | (with_reducible first | exact HB.out | apply below_alloc | apply pw_below_drewN | apply below_drew1) | exact HB.out))) : w.heap.size ≤ gb103)); clear HB; have HB := n0_; have BK103 := n1_; have GW103 := n2_; have GE103 := n3_; clear n0_ n1_ n2_ n3_; clear hb hbox hg; have hcz27_0 : w26.cell? ⟨gb103, 0, none⟩ = some (.int .i64 a0_0) := (blk_cell BK103.out 0).trans rfl; have hcz27_1 : w26.cell? ⟨gb103, 1, none⟩ = some (.int .i64 a0_1) := (blk_cell BK103.out 1).trans rfl; have hcz27_2 : w26.cell? ⟨gb103, 2, none⟩ = some (.int .i64 a0_2) := (blk_cell BK103.out 2).trans rfl; have hcz27_3 : w26.cell? ⟨gb103, 3, none⟩ = some (.bool a0_3) := (blk_cell BK103.out 3).trans rfl; have hfz27_0 := blk_frozen BK103.out 0; have hfz27_1 := blk_frozen BK103.out 1; have hfz27_2 := blk_frozen BK103.out 2; have hfz27_3 := blk_frozen BK103.out 3) | (go_at_call 35; (with_reducible refine (extent_end.calls a0_0 a0_1 a0_2 a0_3 t104 _ A6.out).mono ?_); rintro e w28 ⟨rfl, hb⟩; have n0_ := Aside0.mk (blk_below (g := gb103) (o := .cells #[.int .i64 a0_0, .int .i64 a0_1, .int .i64 a0_2, .bool a0_3] 24 (0, 0)) (by (with_reducible repeat (first | refine blk_drewN ?_ _ | refine blk_drew ?_ | refine blk_alloc ?_ _)); exact BK103.out) hb); have n1_ := Aside0.mk (below_step (by repeat (first | (with_reducible first | exact HB.out | apply below_alloc | apply pw_below_drewN | apply below_drew1 | refine below_set ?_ GE103.out) | exact HB.out)) hb); clear BK103; clear HB; have BK103 := n0_; have HB := n1_; clear n0_ n1_; (try clear hb); (try clear hb2); (try clear hk); (try clear hi)))
      go_ret
      exact ⟨by first | rfl | (simp [errW_none, errW_some] <;> rfl) | (simp [*, errW_none, errW_some] <;> rfl), by repeat (first | (with_reducible first | exact HB.out | apply below_alloc | apply pw_below_drewN | apply below_drew1 | refine below_set ?_ GE103.out) | exact HB.out)⟩
    ·rw [if_neg c5] at H
     have c5b0 : decide (a0_2 ≤ 256) = false := decide_eq_false c5
     clear c5;obtain rfl := Option.some.inj H
     go_enter Try.func34, Try.ntmps34
     go_wp2_with (first | ((with_reducible refine gate_dst (N := 1) rfl ?_); refine box_event ?hg (N := 1) ?hd (cs := #[.int .i64 a0_0, .int .i64 a0_1, .int .i64 a0_2, .bool a0_3]) (t := 24) ?hr ?_; (case hd => rfl); (case hg => rfl); (case hr => first | (go_simp; done) | (go_simp; rfl)); intro gb103 hg w29 hbox hb; have n0_ := Aside0.mk (below_step (by repeat (first | (with_reducible first | exact HB.out | apply below_alloc | apply pw_below_drewN | apply below_drew1) | exact HB.out)) hb); have n1_ := Aside0.mk (hbox); have n2_ := Aside0.mk ((by rw [hg]; exact (below_size (by repeat (first | (with_reducible first | exact HB.out | apply below_alloc | apply pw_below_drewN | apply below_drew1) | exact HB.out))) : w.heap.size ≤ gb103)); have n3_ := Aside0.mk ((by rw [hg]; exact (below_size (by repeat (first | (with_reducible first | exact HB.out | apply below_alloc | apply pw_below_drewN | apply below_drew1) | exact HB.out))) : w.heap.size ≤ gb103)); clear HB; have HB := n0_; have BK103 := n1_; have GW103 := n2_; have GE103 := n3_; clear n0_ n1_ n2_ n3_; clear hb hbox hg; have hcz30_0 : w29.cell? ⟨gb103, 0, none⟩ = some (.int .i64 a0_0) := (blk_cell BK103.out 0).trans rfl; have hcz30_1 : w29.cell? ⟨gb103, 1, none⟩ = some (.int .i64 a0_1) := (blk_cell BK103.out 1).trans rfl; have hcz30_2 : w29.cell? ⟨gb103, 2, none⟩ = some (.int .i64 a0_2) := (blk_cell BK103.out 2).trans rfl; have hcz30_3 : w29.cell? ⟨gb103, 3, none⟩ = some (.bool a0_3) := (blk_cell BK103.out 3).trans rfl; have hfz30_0 := blk_frozen BK103.out 0; have hfz30_1 := blk_frozen BK103.out 1; have hfz30_2 := blk_frozen BK103.out 2; have hfz30_3 := blk_frozen BK103.out 3))
     go_ret
     exact ⟨by first | rfl | (simp [errW_none, errW_some] <;> rfl) | (simp [*, errW_none, errW_some] <;> rfl), by repeat (first | (with_reducible first | exact HB.out | apply below_alloc | apply pw_below_drewN | apply below_drew1 | refine below_set ?_ GE103.out) | exact HB.out)⟩
   ·rw [if_neg c4] at H
    have c4b0 : decide (0 < a0_2) = false := decide_eq_false c4
    clear c4;obtain rfl := Option.some.inj H
    go_enter Try.func34, Try.ntmps34
    go_wp2_with (first | ((with_reducible refine gate_dst (N := 1) rfl ?_); refine box_event ?hg (N := 1) ?hd (cs := #[.int .i64 a0_0, .int .i64 a0_1, .int .i64 a0_2, .bool a0_3]) (t := 24) ?hr ?_; (case hd => rfl); (case hg => rfl); (case hr => first | (go_simp; done) | (go_simp; rfl)); intro gb103 hg w31 hbox hb; have n0_ := Aside0.mk (below_step (by repeat (first | (with_reducible first | exact HB.out | apply below_alloc | apply pw_below_drewN | apply below_drew1) | exact HB.out)) hb); have n1_ := Aside0.mk (hbox); have n2_ := Aside0.mk ((by rw [hg]; exact (below_size (by repeat (first | (with_reducible first | exact HB.out | apply below_alloc | apply pw_below_drewN | apply below_drew1) | exact HB.out))) : w.heap.size ≤ gb103)); have n3_ := Aside0.mk ((by rw [hg]; exact (below_size (by repeat (first | (with_reducible first | exact HB.out | apply below_alloc | apply pw_below_drewN | apply below_drew1) | exact HB.out))) : w.heap.size ≤ gb103)); clear HB; have HB := n0_; have BK103 := n1_; have GW103 := n2_; have GE103 := n3_; clear n0_ n1_ n2_ n3_; clear hb hbox hg; have hcz32_0 : w31.cell? ⟨gb103, 0, none⟩ = some (.int .i64 a0_0) := (blk_cell BK103.out 0).trans rfl; have hcz32_1 : w31.cell? ⟨gb103, 1, none⟩ = some (.int .i64 a0_1) := (blk_cell BK103.out 1).trans rfl; have hcz32_2 : w31.cell? ⟨gb103, 2, none⟩ = some (.int .i64 a0_2) := (blk_cell BK103.out 2).trans rfl; have hcz32_3 : w31.cell? ⟨gb103, 3, none⟩ = some (.bool a0_3) := (blk_cell BK103.out 3).trans rfl; have hfz32_0 := blk_frozen BK103.out 0; have hfz32_1 := blk_frozen BK103.out 1; have hfz32_2 := blk_frozen BK103.out 2; have hfz32_3 := blk_frozen BK103.out 3))
    go_ret
    exact ⟨by first | rfl | (simp [errW_none, errW_some] <;> rfl) | (simp [*, errW_none, errW_some] <;> rfl), by repeat (first | (with_reducible first | exact HB.out | apply below_alloc | apply pw_below_drewN | apply below_drew1 | refine below_set ?_ GE103.out) | exact HB.out)⟩
  ·rw [if_neg c3] at H
   have c3b0 : decide (0 < a0_1) = false := decide_eq_false c3
   clear c3;obtain rfl := Option.some.inj H
   go_enter Try.func34, Try.ntmps34
   go_wp2_with (first | ((with_reducible refine gate_dst (N := 1) rfl ?_); refine box_event ?hg (N := 1) ?hd (cs := #[.int .i64 a0_0, .int .i64 a0_1, .int .i64 a0_2, .bool a0_3]) (t := 24) ?hr ?_; (case hd => rfl); (case hg => rfl); (case hr => first | (go_simp; done) | (go_simp; rfl)); intro gb103 hg w33 hbox hb; have n0_ := Aside0.mk (below_step (by repeat (first | (with_reducible first | exact HB.out | apply below_alloc | apply pw_below_drewN | apply below_drew1) | exact HB.out)) hb); have n1_ := Aside0.mk (hbox); have n2_ := Aside0.mk ((by rw [hg]; exact (below_size (by repeat (first | (with_reducible first | exact HB.out | apply below_alloc | apply pw_below_drewN | apply below_drew1) | exact HB.out))) : w.heap.size ≤ gb103)); have n3_ := Aside0.mk ((by rw [hg]; exact (below_size (by repeat (first | (with_reducible first | exact HB.out | apply below_alloc | apply pw_below_drewN | apply below_drew1) | exact HB.out))) : w.heap.size ≤ gb103)); clear HB; have HB := n0_; have BK103 := n1_; have GW103 := n2_; have GE103 := n3_; clear n0_ n1_ n2_ n3_; clear hb hbox hg; have hcz34_0 : w33.cell? ⟨gb103, 0, none⟩ = some (.int .i64 a0_0) := (blk_cell BK103.out 0).trans rfl; have hcz34_1 : w33.cell? ⟨gb103, 1, none⟩ = some (.int .i64 a0_1) := (blk_cell BK103.out 1).trans rfl; have hcz34_2 : w33.cell? ⟨gb103, 2, none⟩ = some (.int .i64 a0_2) := (blk_cell BK103.out 2).trans rfl; have hcz34_3 : w33.cell? ⟨gb103, 3, none⟩ = some (.bool a0_3) := (blk_cell BK103.out 3).trans rfl; have hfz34_0 := blk_frozen BK103.out 0; have hfz34_1 := blk_frozen BK103.out 1; have hfz34_2 := blk_frozen BK103.out 2; have hfz34_3 := blk_frozen BK103.out 3))
   go_ret
   exact ⟨by first | rfl | (simp [errW_none, errW_some] <;> rfl) | (simp [*, errW_none, errW_some] <;> rfl), by repeat (first | (with_reducible first | exact HB.out | apply below_alloc | apply pw_below_drewN | apply below_drew1 | refine below_set ?_ GE103.out) | exact HB.out)⟩
 ·rw [if_neg c2] at H
  have c2b0 : decide (0 ≤ a0_0) = false := decide_eq_false c2
  clear c2;obtain rfl := Option.some.inj H
  go_enter Try.func34, Try.ntmps34
  go_wp2_with (first | ((with_reducible refine gate_dst (N := 1) rfl ?_); refine box_event ?hg (N := 1) ?hd (cs := #[.int .i64 a0_0, .int .i64 a0_1, .int .i64 a0_2, .bool a0_3]) (t := 24) ?hr ?_; (case hd => rfl); (case hg => rfl); (case hr => first | (go_simp; done) | (go_simp; rfl)); intro gb103 hg w35 hbox hb; have n0_ := Aside0.mk (below_step (by repeat (first | (with_reducible first | exact HB.out | apply below_alloc | apply pw_below_drewN | apply below_drew1) | exact HB.out)) hb); have n1_ := Aside0.mk (hbox); have n2_ := Aside0.mk ((by rw [hg]; exact (below_size (by repeat (first | (with_reducible first | exact HB.out | apply below_alloc | apply pw_below_drewN | apply below_drew1) | exact HB.out))) : w.heap.size ≤ gb103)); have n3_ := Aside0.mk ((by rw [hg]; exact (below_size (by repeat (first | (with_reducible first | exact HB.out | apply below_alloc | apply pw_below_drewN | apply below_drew1) | exact HB.out))) : w.heap.size ≤ gb103)); clear HB; have HB := n0_; have BK103 := n1_; have GW103 := n2_; have GE103 := n3_; clear n0_ n1_ n2_ n3_; clear hb hbox hg; have hcz36_0 : w35.cell? ⟨gb103, 0, none⟩ = some (.int .i64 a0_0) := (blk_cell BK103.out 0).trans rfl; have hcz36_1 : w35.cell? ⟨gb103, 1, none⟩ = some (.int .i64 a0_1) := (blk_cell BK103.out 1).trans rfl; have hcz36_2 : w35.cell? ⟨gb103, 2, none⟩ = some (.int .i64 a0_2) := (blk_cell BK103.out 2).trans rfl; have hcz36_3 : w35.cell? ⟨gb103, 3, none⟩ = some (.bool a0_3) := (blk_cell BK103.out 3).trans rfl; have hfz36_0 := blk_frozen BK103.out 0; have hfz36_1 := blk_frozen BK103.out 1; have hfz36_2 := blk_frozen BK103.out 2; have hfz36_3 := blk_frozen BK103.out 3))
  go_ret
  exact ⟨by first | rfl | (simp [errW_none, errW_some] <;> rfl) | (simp [*, errW_none, errW_some] <;> rfl), by repeat (first | (with_reducible first | exact HB.out | apply below_alloc | apply pw_below_drewN | apply below_drew1 | refine below_set ?_ GE103.out) | exact HB.out)⟩
end Go.Proofs.Ytopmjjnkolfciaa.Pr
end
section
namespace Go.Proofs.Ytopmjjnkolfciaa.Pr
open Go.RowKit Go.Proofs.YtopmjjnkolfciaaW.PrintWords Go.Proofs.YtopmjjnkolfciaaW.PrintLast Go.Proofs.YtopmjjnkolfciaaW.PrintMore
attribute [local go_sem] max2_int min2_int max_two min_two max_three min_three max_four min_four
attribute [local go_sem] Go.Proofs.Ytopmjjnkolfciaa.Hl.str_geq Go.Proofs.Ytopmjjnkolfciaa.Hl.str_gtr Go.Proofs.Ytopmjjnkolfciaa.Hl.str_leq
set_option linter.unusedVariables false
set_option linter.unusedSimpArgs false
def extent_apart.f (l0 : List S24) : Option Bool := if l0.all mayD = true ∧ l0.length < 4398046511104 then some (apartL l0) else none
set_option maxHeartbeats 8000000 in
set_option maxRecDepth 100000 in
theorem extent_apart.calls (A0 : Option Addr) (c0 : Nat) (l0 : List (S24)) (r : Bool) (w : World) (hr0 : Kd.C k24 w A0 l0.length l0) (hc0 : l0.length ≤ c0) (h : extent_apart.f l0 = some r) :
  Calls Try.prog 37 #[.slice A0 l0.length c0] w fun e w' => e = .returned (.bool r) ∧ Below w.heap.size w w' := by
 unfold extent_apart.f at h
 by_cases hall : l0.all mayD = true ∧ l0.length < 4398046511104
 ·rw [if_pos hall] at h
  have HL4 := Aside0.mk hall.2
  replace hall := hall.1
  obtain rfl := Option.some.inj h
  clear h
  have hu24 := Try.underlying24
  have HR0 := Aside0.mk hr0
  have HC0 := Aside0.mk hc0
  have HM := Aside0.mk hall
  clear hr0 hc0 hall
  go_enter Try.func37, Try.ntmps37
  go_wp2
  go_loopg [9] l0.length (fun kq v9 w' => ∃ (i : Nat) (ws : List Nat), v9 = .int .i64 (i : Int) ∧ Aside0 (i + kq = l0.length) ∧ Aside0 (apartL (l0.take i) = true) ∧ Aside0 (Taken ws (fun b => ∃ e ∈ l0.take i, inD e b)) ∧ Aside0 (w'.heap[w.heap.size]? = some (.cells (wordsV ws) 92 (0, 0))) ∧ Aside0 (Below w.heap.size w w'))
  case atStart => exact ⟨0, List.replicate 16 0, rfl, ⟨by omega⟩, ⟨rfl⟩, ⟨by simpa using Taken.none⟩, ⟨blk_new w _⟩, ⟨(Below.refl _ _).alloc (Nat.le_refl _) _⟩⟩
  case round =>
   obtain ⟨i, ws, rfl, HK, HA, HT, HG, HB⟩ := hrel
   cases gk with
   | zero =>
    have ei : i = l0.length := by have := HK.out; omega
    have hlt : decide (i < l0.length) = false := decide_eq_false (by omega)
    have hr : apartL l0 = true := by have := HA.out; rwa [ei, List.take_length] at this
    have HR := Aside0.mk hr
    clear ei hr;go_wp2;go_ret
    exact ⟨by rw [HR.out]; rfl, HB.out⟩
   | succ g =>
    have hil : i < l0.length := by have := HK.out; omega
    have hlt : decide (i < l0.length) = true := decide_eq_true (by omega)
    have hmay : mayD (rd_T24 l0 (i : Int)) = true := mayD_at HM.out hil
    have hi0 : (0 : Int) ≤ (i : Int) := by omega
    have hi1 : (i : Int) < (l0.length : Int) := by omega
    obtain ⟨ad, ead, hca, hcb, hcc, hcd⟩ := at_T24 HR0.out (i : Int) hi0 hi1
    cases ead
    simp only [Int.toNat_natCast] at hca hcb hcc hcd
    replace hca := (HB.out.cell (World.block_lt_of_cell? w _ hca)).trans hca
    replace hcb := (HB.out.cell (World.block_lt_of_cell? w _ hcb)).trans hcb
    replace hcc := (HB.out.cell (World.block_lt_of_cell? w _ hcc)).trans hcc
    replace hcd := (HB.out.cell (World.block_lt_of_cell? w _ hcd)).trans hcd
    obtain ⟨e, he⟩ : ∃ e, e = rd_T24 l0 (i : Int) := ⟨_, rfl⟩
    rw [← he] at hca hcb hcc hcd
    rw [← he] at hmay
    have HE := Aside0.mk he
    obtain ⟨hm1, hm2, hm3⟩ := of_decide_eq_true hmay
    have HM1 := Aside0.mk hm1
    have HM2 := Aside0.mk hm2
    have HM3 := Aside0.mk hm3
    clear he hmay hm1 hm2 hm3;go_wp2
    obtain ⟨lo, hlo⟩ : ∃ lo : Nat, e.f1 = (lo : Int) := ⟨e.f1.toNat, by have := HM1.out; omega⟩
    obtain ⟨hi, hhi⟩ : ∃ hi : Nat, e.f1 + e.f2 = (hi : Int) := ⟨(e.f1 + e.f2).toNat, by have := HM1.out; have := HM2.out; omega⟩
    have HG1 := Aside0.mk (blk_alloc HG.out (.cells #[.int .i64 e.f0, .int .i64 e.f1, .int .i64 e.f2, .bool e.f3] 24))
    have HE1 := Aside0.mk (blk_new wr (.cells #[.int .i64 e.f0, .int .i64 e.f1, .int .i64 e.f2, .bool e.f3] 24))
    have HB1 := Aside0.mk (HB.out.alloc HB.out.size (.cells #[.int .i64 e.f0, .int .i64 e.f1, .int .i64 e.f2, .bool e.f3] 24))
    have HNE := Aside0.mk (show w.heap.size ≠ wr.heap.size from fun h => by have := blk_lt HG.out; omega)
    have HLO := Aside0.mk (⟨hlo, hhi⟩ : e.f1 = (lo : Int) ∧ e.f1 + e.f2 = (hi : Int))
    have HHI := Aside0.mk (show lo < hi ∧ hi ≤ 1024 by have := HM2.out; have := HM3.out; omega)
    clear hca hcb hcc hcd HG HB hlo hhi
    generalize hW : wr.alloc (.cells #[.int .i64 e.f0, .int .i64 e.f1, .int .i64 e.f2, .bool e.f3] 24) = W1 at HG1 HE1 HB1 ⊢
    generalize hEB : wr.heap.size = eb at HE1 HNE ⊢
    clear hW hEB
    have hst : e.f1 = (lo : Int) := HLO.out.1
    go_loopg [6] (hi - lo) (fun kq v6 w' => ∃ (b : Nat) (us : List Nat), v6 = .int .i64 (b : Int) ∧ Aside0 (b + kq = hi) ∧ Aside0 (lo ≤ b) ∧ Aside0 (∀ x : Int, lo ≤ x → x < b → ¬ ∃ e ∈ l0.take i, inD e x) ∧ Aside0 (Taken us (fun x => (∃ e ∈ l0.take i, inD e x) ∨ ((lo : Int) ≤ x ∧ x < b))) ∧ Aside0 (w'.heap[w.heap.size]? = some (.cells (wordsV us) 92 (0, 0))) ∧ Aside0 (w'.heap[eb]? = some (.cells #[.int .i64 e.f0, .int .i64 e.f1, .int .i64 e.f2, .bool e.f3] 24 (0, 0))) ∧ Aside0 (Below w.heap.size w w'))
    case atStart => exact ⟨lo, ws, by rw [hst], ⟨by have := HHI.out; omega⟩, ⟨Nat.le_refl _⟩, ⟨fun x h1 h2 => by omega⟩, ⟨by
     have := HT.out
     have e0 : (fun x : Int => (∃ e ∈ l0.take i, inD e x) ∨ ((lo : Int) ≤ x ∧ x < lo)) = (fun x => ∃ e ∈ l0.take i, inD e x) := funext fun x => propext ⟨fun h => h.elim id (fun h => by omega), Or.inl⟩
     rw [e0]; exact this⟩, HG1, HE1, HB1⟩
    case round =>
     obtain ⟨b, us, rfl, HK2, HLB, HNO, HT2, HG2, HE2, HB2⟩ := hrel
     have hc0 := (blk_cell HE2.out 0).trans rfl
     have hc1 := (blk_cell HE2.out 1).trans rfl
     have hc2 := (blk_cell HE2.out 2).trans rfl
     have hc3 := (blk_cell HE2.out 3).trans rfl
     have hlast : extent_last.f e.f0 e.f1 e.f2 e.f3 = some (hi : Int) := by
      unfold extent_last.f
      have h1 := HLO.out.2
      have h2 := HHI.out.2
      have : wrap64 (e.f1 + e.f2) = (hi : Int) := by rw [h1]; unfold wrap64; omega
      rw [this]
     have HLA := Aside0.mk hlast
     clear hlast hst
     cases gk with
     | zero =>
      have hbh : decide (b < hi) = false := decide_eq_false (by have := HK2.out; omega)
      go_wp2_with (go_at_call 65; refine (extent_last.calls e.f0 e.f1 e.f2 e.f3 (hi : Int) _ HLA.out).mono ?_; rintro e3 w3 ⟨rfl, hb3⟩; have HG3 := Aside0.mk (blk_below HG2.out hb3); have HB3 := Aside0.mk (HB2.out.trans (hb3.mono HB2.out.size)); clear hb3)
      have hw1 : wrap64 ((i : Int) + 1) = ((i + 1 : Nat) : Int) := by have := HL4.out; have := HK.out; unfold wrap64; omega
      go_roundg g
      case measure => omega
      case rel =>
       have eb0 : b = hi := by have := HK2.out; omega
       have htk : l0.take (i + 1) = l0.take i ++ [e] := by rw [List.take_succ_eq_append_getElem hil, HE.out, rd_in hil]
       refine ⟨i + 1, us, by rw [hw1], ⟨by have := HK.out; omega⟩, ⟨?_⟩, ⟨?_⟩, HG3, HB3⟩
       ·rw [htk, apartL_snoc, HA.out, Bool.true_and]
        refine List.all_eq_true.2 fun x hx => disj_of (List.all_eq_true.1 HM.out x (List.mem_of_mem_take hx)) HM2.out fun y h1 h2 h3 => ?_
        exact HNO.out y (by have := HLO.out.1; omega) (by have := HLO.out.2; omega) ⟨x, hx, h3⟩
       ·have h9 := HT2.out
        have e0 : (fun x : Int => (∃ e ∈ l0.take i, inD e x) ∨ ((lo : Int) ≤ x ∧ x < b)) = (fun x => ∃ e ∈ l0.take (i + 1), inD e x) := funext fun x => propext ⟨fun h => by
         rcases h with ⟨y, h1, h2⟩ | h
         ·exact ⟨y, by rw [htk]; exact List.mem_append_left _ h1, h2⟩
         ·exact ⟨e, by rw [htk]; exact List.mem_append_right _ (by simp), by have := HLO.out.1; omega, by have := HLO.out.2; omega⟩, fun h => by
         obtain ⟨y, h1, h2, h3⟩ := h
         rw [htk] at h1
         rcases List.mem_append.1 h1 with h1 | h1
         ·exact Or.inl ⟨y, h1, h2, h3⟩
         ·rw [List.mem_singleton.1 h1] at h2 h3
          exact Or.inr (by have := HLO.out.1; have := HLO.out.2; omega)⟩
        rw [← e0]
        exact h9
     | succ g2 =>
      have hbh : decide (b < hi) = true := decide_eq_true (by have := HK2.out; omega)
      have htn : ((b : Int) / 64).toNat = b / 64 := by omega
      have hb16 : (0 : Int) ≤ (b : Int) / 64 ∧ (b : Int) / 64 < 16 := by have := HK2.out; have := HHI.out; omega
      obtain ⟨n, hn⟩ : ∃ n, us.getD (b / 64) 0 = n := ⟨_, rfl⟩
      have HN := Aside0.mk hn
      have hbl : b / 64 < us.length := by have := HT2.out.len; have := HK2.out; have := HHI.out; omega
      have HW := Aside0.mk (wordsV_get hbl)
      rw [hn] at HW
      have hn64 : n < 18446744073709551616 := by rw [← hn]; exact HT2.out.lt _
      have hb1024 : b < 1024 := by have := HK2.out; have := HHI.out; omega
      obtain ⟨c, hc⟩ : ∃ c, b % 64 = c := ⟨_, rfl⟩
      have hcl : c ≤ 64 := by omega
      have hand : bits .and .i64 (b : Int) 63 = (c : Int) := by rw [and63 b hb1024, hc]
      obtain ⟨m, hm⟩ : ∃ m, n / 2 ^ c = m := ⟨_, rfl⟩
      have hdiv : (n : Int) / 2 ^ c = (m : Int) := by rw [← hm]; push_cast; rfl
      have hm64 : m < 18446744073709551616 := by rw [← hm]; exact Nat.lt_of_le_of_lt (Nat.div_le_self _ _) hn64
      have htb : n.testBit c = decide (m % 2 = 1) := by rw [← hm, Nat.testBit_eq_decide_div_mod_eq]
      have hbit := HT2.out.bit b hb1024
      rw [hn, hc, htb, decide_eq_true_eq] at hbit
      have HC := Aside0.mk hc
      have HBIT := Aside0.mk hbit
      have HN64 := Aside0.mk hn64
      clear hn hbl hc hm htb hbit
      by_cases hq : m % 2 = 1
      ·have hone : bits .and .u64 (m : Int) 1 = 1 := by rw [bit1 m hm64, hq]; rfl
       have HRES := Aside0.mk (show apartL l0 = false by
        obtain ⟨x, hx, hxb⟩ := (HBIT.out.1 hq).elim id (fun h => absurd h.2 (by omega))
        have hsp : l0 = l0.take (i + 1) ++ l0.drop (i + 1) := (List.take_append_drop _ _).symm
        rw [hsp]
        refine apartL_app _ _ ?_
        rw [List.take_succ_eq_append_getElem hil, apartL_snoc]
        have he : l0[i] = e := by rw [HE.out, rd_in hil]
        rw [he]
        have hf : (l0.take i).all (fun x => disjD x e) = false := by
         refine Bool.eq_false_iff.2 fun h => ?_
         have h1 := List.all_eq_true.1 h x hx
         rw [disj_not hxb ⟨by have := HLO.out.1; have := HLB.out; omega, by have := HLO.out.2; have := HK2.out; omega⟩] at h1
         cases h1
        rw [hf, Bool.and_false])
       clear hq hm64 hb1024
       go_wp2_with (go_at_call 65; refine (extent_last.calls e.f0 e.f1 e.f2 e.f3 (hi : Int) _ HLA.out).mono ?_; rintro e3 w3 ⟨rfl, hb3⟩; have HG3 := Aside0.mk (blk_below HG2.out hb3); have HE3 := Aside0.mk (blk_below HE2.out hb3); have hc3w := (blk_cell HG3.out (b / 64)).trans HW.out; have HB3 := Aside0.mk (HB2.out.trans (hb3.mono HB2.out.size)); clear hb3)
       go_ret
       exact ⟨by rw [HRES.out]; rfl, HB3.out⟩
      ·have hone : bits .and .u64 (m : Int) 1 = 0 := by rw [bit1 m hm64, show m % 2 = 0 by omega]; rfl
       obtain ⟨p, hp⟩ : ∃ p : Nat, 2 ^ c = p := ⟨_, rfl⟩
       have hp64 : p < 18446744073709551616 := by rw [← hp]; exact Nat.pow_lt_pow_right (by decide) (show c < 64 by have := HC.out; omega)
       have hpw : IntKind.u64.wrap ((2 : Int) ^ c) = (p : Int) := by
        have : ((2 : Int) ^ c) = ((2 ^ c : Nat) : Int) := by push_cast; rfl
        rw [this, hp, u64_nat p hp64]
       obtain ⟨o, ho⟩ : ∃ o : Nat, n ||| p = o := ⟨_, rfl⟩
       have hor : bits .or .u64 (n : Int) (p : Int) = (o : Int) := by rw [or64 n p HN64.out hp64, ho]
       have HO := Aside0.mk (show n ||| 2 ^ c = o by rw [hp]; exact ho)
       have HNB := Aside0.mk (show ¬ ∃ e ∈ l0.take i, inD e (b : Int) from fun h => hq (HBIT.out.2 (Or.inl h)))
       have HB10 := Aside0.mk hb1024
       clear hq hm64 hb1024 hp hp64 ho
       go_wp2_with (go_at_call 65; refine (extent_last.calls e.f0 e.f1 e.f2 e.f3 (hi : Int) _ HLA.out).mono ?_; rintro e3 w3 ⟨rfl, hb3⟩; have HG3 := Aside0.mk (blk_below HG2.out hb3); have HE3 := Aside0.mk (blk_below HE2.out hb3); have hc3w := (blk_cell HG3.out (b / 64)).trans HW.out; have HB3 := Aside0.mk (HB2.out.trans (hb3.mono HB2.out.size)); clear hb3)
       have hf3 := blk_frozen HG3.out (b / 64)
       refine start_ (n := 10) (S := fun w' => w'.cell? ⟨w.heap.size, b / 64, none⟩ = some (.int .u64 (n : Int))) (ds := [9]) #[false, false, false, false, false, false, false, false, false, false] (by kernel_rfl) rfl rfl (hc3w) (fun hHeld => ?_)
       refine pure_ (i := 0) (N := some 30) (v := ?_) (a' := ?_) #[true, false, false, false, false, false, false, false, false, false] rfl rfl (by kernel_rfl) (fun _ _ _ h => h) (Or.inl ⟨by rfl, ?_⟩) ?_ ?_;rotate_left;(intro w';go_simp;with_reducible rfl);rotate_left;(simp only [Act.put, sIb, sC0, sCs, i64_w, i32_w];rfl);refine pure_ (i := 1) (N := some 31) (v := ?_) (a' := ?_) #[true, true, false, false, false, false, false, false, false, false] rfl rfl (by kernel_rfl) (fun _ _ _ h => h) (Or.inl ⟨by rfl, ?_⟩) ?_ ?_;rotate_left;(intro w';go_simp;with_reducible rfl);rotate_left;(simp only [Act.put, sIb, sC0, sCs, i64_w, i32_w];rfl);refine pure_ (i := 2) (N := some 32) (v := ?_) (a' := ?_) #[true, true, true, false, false, false, false, false, false, false] rfl rfl (by kernel_rfl) (fun _ _ _ h => h) (Or.inl ⟨by rfl, ?_⟩) ?_ ?_;rotate_left;(intro w';go_simp;with_reducible rfl);rotate_left;(simp only [Act.put, sIb, sC0, sCs, i64_w, i32_w];rfl);refine pure_ (i := 4) (N := some 34) (v := ?_) (a' := ?_) #[true, true, true, false, true, false, false, false, false, false] rfl rfl (by kernel_rfl) (fun _ _ _ h => h) (Or.inl ⟨by rfl, ?_⟩) ?_ ?_;rotate_left;(intro w';go_simp;with_reducible rfl);rotate_left;(simp only [Act.put, sIb, sC0, sCs, i64_w, i32_w];rfl);refine pure_ (i := 5) (N := some 35) (v := ?_) (a' := ?_) #[true, true, true, false, true, true, false, false, false, false] rfl rfl (by kernel_rfl) (fun _ _ _ h => h) (Or.inl ⟨by rfl, ?_⟩) ?_ ?_;rotate_left;(intro w';go_simp;with_reducible rfl);rotate_left;(simp only [Act.put, sIb, sC0, sCs, i64_w, i32_w];rfl);refine pure_ (i := 6) (N := some 36) (v := ?_) (a' := ?_) #[true, true, true, false, true, true, true, false, false, false] rfl rfl (by kernel_rfl) (fun _ _ _ h => h) (Or.inl ⟨by rfl, ?_⟩) ?_ ?_;rotate_left;(intro w';go_simp;with_reducible rfl);rotate_left;(simp only [Act.put, sIb, sC0, sCs, i64_w, i32_w];rfl);refine take_ (i := 3) (N := some 33) (v := ?_) (a' := ?_) #[true, true, true, true, true, true, true, false, false, false] rfl rfl (by kernel_rfl) (fun _ _ _ h => h) (Or.inl ⟨by rfl, ?_⟩) hHeld ?_ ?_;rotate_left
       ·intro w' s0
        go_simp;with_reducible rfl
       rotate_left;(simp only [Act.put, sIb, sC0, sCs, i64_w, i32_w];rfl);refine pure_ (i := 7) (N := some 37) (v := ?_) (a' := ?_) #[true, true, true, true, true, true, true, true, false, false] rfl rfl (by kernel_rfl) (fun _ _ _ h => h) (Or.inl ⟨by rfl, ?_⟩) ?_ ?_;rotate_left;(intro w';go_simp;with_reducible rfl);rotate_left;(simp only [Act.put, sIb, sC0, sCs, i64_w, i32_w];rfl);refine pure_ (i := 8) (N := some 38) (v := ?_) (a' := ?_) #[true, true, true, true, true, true, true, true, true, false] rfl rfl (by kernel_rfl) (fun _ _ _ h => h) (Or.inl ⟨by rfl, ?_⟩) ?_ ?_;rotate_left;(intro w';go_simp;with_reducible rfl);rotate_left;(simp only [Act.put, sIb, sC0, sCs, i64_w, i32_w];rfl)
       refine last_ (i := 9) (N := none) #[true, true, true, true, true, true, true, true, true, true] rfl rfl (by kernel_rfl) (by decide) (fun K hK => ?_)
       refine skip_ (w1 := ?_) (by rfl) rfl ?_ ?_
       rotate_left;(go_simp;rfl);refine hK.out _ _ ?_;clear hK K
       refine done_ (by kernel_rfl) ?_
       clear hf3 hc3w htn hb16 hand hdiv hone hpw hor;go_wp2
       have hw1 : wrap64 ((b : Int) + 1) = ((b + 1 : Nat) : Int) := by have := HK2.out; have := HHI.out; unfold wrap64; omega
       go_roundg g2
       case measure => omega
       case rel =>
        refine ⟨b + 1, us.set (b / 64) o, by rw [hw1], ⟨by have := HK2.out; omega⟩, ⟨by have := HLB.out; omega⟩, ⟨fun x h1 h2 => ?_⟩, ⟨?_⟩, ⟨?_⟩, ⟨?_⟩, ⟨?_⟩⟩
        ·by_cases hxb : x < b
         ·exact HNO.out x h1 hxb
         ·obtain rfl : x = b := by omega
          exact HNB.out
        ·have h9 := HT2.out.more HB10.out
         rw [HC.out, HN.out, HO.out] at h9
         have e0 : (fun x : Int => ((∃ e ∈ l0.take i, inD e x) ∨ ((lo : Int) ≤ x ∧ x < b)) ∨ x = b) = (fun x => (∃ e ∈ l0.take i, inD e x) ∨ ((lo : Int) ≤ x ∧ x < ((b + 1 : Nat) : Int))) := funext fun x => propext ⟨fun h => by
          rcases h with (h | h) | h
          ·exact Or.inl h
          ·exact Or.inr (by omega)
          ·exact Or.inr (by have := HLB.out; omega), fun h => by
          rcases h with h | h
          ·exact Or.inl (Or.inl h)
          ·by_cases hxb : x < b
           ·exact Or.inl (Or.inr ⟨h.1, hxb⟩)
           ·exact Or.inr (by omega)⟩
         rw [← e0]
         exact h9
        ·exact blk_drew (blk_put HG3.out (b / 64) (.int .u64 (o : Int)) (wordsV_set us (b / 64) o))
        ·exact blk_drew (blk_far HE3.out (p := ⟨w.heap.size, b / 64, none⟩) (fun h => HNE.out h.symm) _)
        ·exact below_drew1 (Hl.below_set_ HB3.out (Nat.le_refl _))
 ·rw [if_neg hall] at h
  cases h
end Go.Proofs.Ytopmjjnkolfciaa.Pr
end
section
namespace Go.Proofs.Ytopmjjnkolfciaa.Pr
open Go.RowKit Go.Proofs.YtopmjjnkolfciaaW.PrintWords Go.Proofs.YtopmjjnkolfciaaW.PrintLast Go.Proofs.YtopmjjnkolfciaaW.PrintMore
attribute [local go_sem] max2_int min2_int max_two min_two max_three min_three max_four min_four
attribute [local go_sem] Go.Proofs.Ytopmjjnkolfciaa.Hl.str_geq Go.Proofs.Ytopmjjnkolfciaa.Hl.str_gtr Go.Proofs.Ytopmjjnkolfciaa.Hl.str_leq
set_option linter.unusedVariables false
set_option linter.unusedSimpArgs false
def extent_Check.l0 : Nat → List (S24) → List (S24) → Int → Int → Option (Int)
 | 0, _, _, _, _ => none
 | k + 1, x0, x8, x9, x10 => if x10 < x9 then (if 0 ≤ x10 then (if x10 < (x8.length : Int) then ((extent_may.f ((rd_T24 x8 x10).f0) ((rd_T24 x8 x10).f1) ((rd_T24 x8 x10).f2) ((rd_T24 x8 x10).f3)).bind fun t113 => (if t113 = true then (if x10 > 0 then (if 0 ≤ (wrap64 (x10 - 1)) then (if (wrap64 (x10 - 1)) < (x0.length : Int) then ((extent_end.f ((rd_T24 x0 (wrap64 (x10 - 1))).f0) ((rd_T24 x0 (wrap64 (x10 - 1))).f1) ((rd_T24 x0 (wrap64 (x10 - 1))).f2) ((rd_T24 x0 (wrap64 (x10 - 1))).f3)).bind fun t115 => (if ((rd_T24 x8 x10).f0) < t115 then (some 1) else ((extent_goes.f ((rd_T24 x0 (wrap64 (x10 - 1))).f0) ((rd_T24 x0 (wrap64 (x10 - 1))).f1) ((rd_T24 x0 (wrap64 (x10 - 1))).f2) ((rd_T24 x0 (wrap64 (x10 - 1))).f3) ((rd_T24 x8 x10).f0) ((rd_T24 x8 x10).f1) ((rd_T24 x8 x10).f2) ((rd_T24 x8 x10).f3)).bind fun t117 => (if t117 = true then (some 1) else (extent_Check.l0 k x0 x8 x9 (wrap64 (x10 + 1))))))) else (none)) else (none)) else (extent_Check.l0 k x0 x8 x9 (wrap64 (x10 + 1)))) else (some 1))) else (none)) else (none)) else ((extent_apart.f x0).bind fun t110 => (if t110 = true then (some 0) else (some 1)))
def extent_Check.f (k : Nat) (l0 : List (S24)) : Option (Int) := if (l0.length : Int) > 60 then (some 1) else (extent_Check.l0 k l0 l0 (l0.length : Int) 0)
def extent_Check.T6 : Bool × List (List Nat × List Nat) := (true, [([], []), ([0], [0]), ([1], [1]), ([2, 1], [2]), ([3], [3]), ([4, 3], [3, 4]), ([5, 3, 3], [3, 5]), ([6], [6]), ([7, 6], [6, 7]), ([6], [6]), ([6], [6]), ([10, 6], [6, 10]), ([9, 11, 6], [6, 9, 11]), ([12, 6], [6, 12]), ([13, 6, 6], [6, 13]), ([8, 14, 6], [6, 8, 14]), ([15, 14, 6], [6, 15]), ([16], [16]), ([16], [16]), ([18, 16], [16, 18]), ([17, 19, 16], [16, 17, 19]), ([20, 16], [16, 20]), ([16], [16]), ([21, 22, 16, 16], [16, 21, 22]), ([16, 23, 6], [6, 16, 23]), ([6, 24, 3], [3, 6, 24]), ([3, 25], [3, 25])])
def extent_Check.B6 : List Nat := [0, 1, 3, 7, 15, 31, 63, 127, 255, 127, 127, 1151, 3711, 7807, 15999, 32767, 65535, 131071, 131071, 393215, 1048575, 2097151, 131071, 8388607, 16777215, 33554431, 67108863]
theorem extent_Check.tab6 : rtab .any (opsOf Try.f12 6) = extent_Check.T6 := by kernel_rfl
theorem extent_Check.bits6 : waitsOk extent_Check.T6.2 extent_Check.B6 = true := by kernel_rfl
set_option maxHeartbeats 8000000 in
set_option maxRecDepth 100000 in
theorem extent_Check.calls (k : Nat) (A0 : Option Addr) (c0 : Nat) (l0 : List (S24)) (r : Int) (w : World) (hr0 : Kd.C k24 w A0 l0.length l0) (hc0 : l0.length ≤ c0) (h : extent_Check.f k l0 = some r) :
  Calls Try.prog 12 #[.slice A0 l0.length c0] w fun e w' => e = .returned (.int .i64 r) ∧ Below w.heap.size w w' := by
 have hu24 := Try.underlying24
 have HR0 := Aside0.mk hr0
 have HC0 := Aside0.mk hc0
 clear hr0 hc0
 have HB := Aside0.mk (Below.refl w.heap.size w)
 have H : (if (l0.length : Int) > 60 then (some 1) else (extent_Check.l0 k l0 l0 (l0.length : Int) 0)) = some r := h
 clear h
 by_cases c2 : (l0.length : Int) > 60
 ·rw [if_pos c2] at H
  have c2b0 : decide (60 < (l0.length : Int)) = true := decide_eq_true c2
  have c2b1 : decide (60 < l0.length) = true := decide_eq_true (by omega)
  clear c2;obtain rfl := Option.some.inj H
  go_enter Try.func12, Try.ntmps12
  go_wp2;go_ret
  exact ⟨by first | rfl | (simp [errW_none, errW_some] <;> rfl) | (simp [*, errW_none, errW_some] <;> rfl), by repeat (first | (with_reducible first | exact HB.out | apply below_alloc | apply pw_below_drewN | apply below_drew1) | exact HB.out)⟩
 ·rw [if_neg c2] at H
  have c2b0 : decide (60 < (l0.length : Int)) = false := decide_eq_false c2
  have c2b1 : decide (60 < l0.length) = false := decide_eq_false (by omega)
  clear c2
  have H' := Aside0.mk H
  clear H
  go_enter Try.func12, Try.ntmps12
  go_wp2
  go_loopg [10] k (fun kq v10 w' => ∃ (x10_1 : Int), v10 = .int .i64 x10_1 ∧ Aside0 (extent_Check.l0 kq l0 l0 (l0.length : Int) x10_1 = some r) ∧ Aside0 (kq ≤ k) ∧ Aside0 (Below w.heap.size w w'))
  case atStart => exact ⟨(0), (by first | rfl | (simp; done) | (simp [*]; done)), H', ⟨Nat.le_refl _⟩, ⟨by repeat (first | (with_reducible first | exact HB.out | apply below_alloc | apply pw_below_drewN | apply below_drew1) | exact HB.out)⟩⟩
  case round =>
   clear H'
   try clear c1
   try clear c2
   try clear c2b0
   try clear c2b1
   try clear p2
   obtain ⟨x10_1, rfl, HA, HK1, HB⟩ := hrel
   cases gk with
   | zero => exact absurd HA.out (by intro h_; cases h_)
   | succ k1 =>
    have H := HA.out
    clear HA
    simp only [extent_Check.l0] at H
    by_cases c3 : x10_1 < (l0.length : Int)
    ·rw [if_pos c3] at H
     have c3b0 : decide (x10_1 < (l0.length : Int)) = true := decide_eq_true c3
     clear c3
     by_cases c4 : 0 ≤ x10_1
     ·rw [if_pos c4] at H
      have c4b0 : decide (0 ≤ x10_1) = true := decide_eq_true c4
      clear c4
      by_cases c5 : x10_1 < (l0.length : Int)
      ·rw [if_pos c5] at H
       have c5b0 : decide (x10_1 < (l0.length : Int)) = true := decide_eq_true c5
       clear c5
       replace H := Option.bind_eq_some_iff.mp H
       obtain ⟨t113, A60, H⟩ := H
       replace H : (if t113 = true then (if x10_1 > 0 then (if 0 ≤ (wrap64 (x10_1 - 1)) then (if (wrap64 (x10_1 - 1)) < (l0.length : Int) then ((extent_end.f ((rd_T24 l0 (wrap64 (x10_1 - 1))).f0) ((rd_T24 l0 (wrap64 (x10_1 - 1))).f1) ((rd_T24 l0 (wrap64 (x10_1 - 1))).f2) ((rd_T24 l0 (wrap64 (x10_1 - 1))).f3)).bind fun t115 => (if ((rd_T24 l0 x10_1).f0) < t115 then (some 1) else ((extent_goes.f ((rd_T24 l0 (wrap64 (x10_1 - 1))).f0) ((rd_T24 l0 (wrap64 (x10_1 - 1))).f1) ((rd_T24 l0 (wrap64 (x10_1 - 1))).f2) ((rd_T24 l0 (wrap64 (x10_1 - 1))).f3) ((rd_T24 l0 x10_1).f0) ((rd_T24 l0 x10_1).f1) ((rd_T24 l0 x10_1).f2) ((rd_T24 l0 x10_1).f3)).bind fun t117 => (if t117 = true then (some 1) else (extent_Check.l0 k1 l0 l0 (l0.length : Int) (wrap64 (x10_1 + 1))))))) else (none)) else (none)) else (extent_Check.l0 k1 l0 l0 (l0.length : Int) (wrap64 (x10_1 + 1)))) else (some 1)) = some r := H
       have A6 := Aside0.mk A60
       clear A60
       by_cases c7 : t113 = true
       ·subst c7
        have H1 : (if x10_1 > 0 then (if 0 ≤ (wrap64 (x10_1 - 1)) then (if (wrap64 (x10_1 - 1)) < (l0.length : Int) then ((extent_end.f ((rd_T24 l0 (wrap64 (x10_1 - 1))).f0) ((rd_T24 l0 (wrap64 (x10_1 - 1))).f1) ((rd_T24 l0 (wrap64 (x10_1 - 1))).f2) ((rd_T24 l0 (wrap64 (x10_1 - 1))).f3)).bind fun t115 => (if ((rd_T24 l0 x10_1).f0) < t115 then (some 1) else ((extent_goes.f ((rd_T24 l0 (wrap64 (x10_1 - 1))).f0) ((rd_T24 l0 (wrap64 (x10_1 - 1))).f1) ((rd_T24 l0 (wrap64 (x10_1 - 1))).f2) ((rd_T24 l0 (wrap64 (x10_1 - 1))).f3) ((rd_T24 l0 x10_1).f0) ((rd_T24 l0 x10_1).f1) ((rd_T24 l0 x10_1).f2) ((rd_T24 l0 x10_1).f3)).bind fun t117 => (if t117 = true then (some 1) else (extent_Check.l0 k1 l0 l0 (l0.length : Int) (wrap64 (x10_1 + 1))))))) else (none)) else (none)) else (extent_Check.l0 k1 l0 l0 (l0.length : Int) (wrap64 (x10_1 + 1)))) = some r := by rw [if_pos rfl] at H; exact H
        clear H;have H := H1;clear H1
        by_cases c8 : x10_1 > 0
        ·rw [if_pos c8] at H
         have c8b0 : decide (0 < x10_1) = true := decide_eq_true c8
         clear c8
         obtain ⟨ji9, hji9⟩ : ∃ j_ : Int, (wrap64 (x10_1 - 1)) = j_ := ⟨_, rfl⟩
         replace H : (if 0 ≤ (ji9) then (if (ji9) < (l0.length : Int) then ((extent_end.f ((rd_T24 l0 (ji9)).f0) ((rd_T24 l0 (ji9)).f1) ((rd_T24 l0 (ji9)).f2) ((rd_T24 l0 (ji9)).f3)).bind fun t115 => (if ((rd_T24 l0 x10_1).f0) < t115 then (some 1) else ((extent_goes.f ((rd_T24 l0 (ji9)).f0) ((rd_T24 l0 (ji9)).f1) ((rd_T24 l0 (ji9)).f2) ((rd_T24 l0 (ji9)).f3) ((rd_T24 l0 x10_1).f0) ((rd_T24 l0 x10_1).f1) ((rd_T24 l0 x10_1).f2) ((rd_T24 l0 x10_1).f3)).bind fun t117 => (if t117 = true then (some 1) else (extent_Check.l0 k1 l0 l0 (l0.length : Int) (wrap64 (x10_1 + 1))))))) else (none)) else (none)) = some r := by first | (rw [hji9] at H; exact H) | (simp only [hji9] at H ⊢; exact H)
         (try rw [hji9] at A6)
         have hji9w : (IntKind.i64.wrap (x10_1 - 1)) = ji9 := (i64_w _).trans hji9
         (try rw [hji9] at c2b0)
         (try rw [hji9] at c2b1)
         (try rw [hji9] at c3b0)
         (try rw [hji9] at c4b0)
         (try rw [hji9] at c5b0)
         (try rw [hji9] at c8b0)
         by_cases c10 : 0 ≤ (ji9)
         ·rw [if_pos c10] at H
          have c10b0 : decide (0 ≤ (ji9)) = true := decide_eq_true c10
          clear c10
          by_cases c11 : (ji9) < (l0.length : Int)
          ·rw [if_pos c11] at H
           have c11b0 : decide ((ji9) < (l0.length : Int)) = true := decide_eq_true c11
           clear c11
           replace H := Option.bind_eq_some_iff.mp H
           obtain ⟨t115, A120, H⟩ := H
           replace H : (if ((rd_T24 l0 x10_1).f0) < t115 then (some 1) else ((extent_goes.f ((rd_T24 l0 (ji9)).f0) ((rd_T24 l0 (ji9)).f1) ((rd_T24 l0 (ji9)).f2) ((rd_T24 l0 (ji9)).f3) ((rd_T24 l0 x10_1).f0) ((rd_T24 l0 x10_1).f1) ((rd_T24 l0 x10_1).f2) ((rd_T24 l0 x10_1).f3)).bind fun t117 => (if t117 = true then (some 1) else (extent_Check.l0 k1 l0 l0 (l0.length : Int) (wrap64 (x10_1 + 1)))))) = some r := H
           have A12 := Aside0.mk A120
           clear A120
           by_cases c13 : ((rd_T24 l0 x10_1).f0) < t115
           ·rw [if_pos c13] at H
            have c13b0 : decide (((rd_T24 l0 x10_1).f0) < t115) = true := decide_eq_true c13
            clear c13;obtain rfl := Option.some.inj H
            have p111 : 0 ≤ (x10_1 : Int) := of_decide_eq_true (by first | (with_reducible assumption) | assumption)
            have q111 : x10_1 < (l0.length : Int) := of_decide_eq_true (by first | (with_reducible assumption) | assumption)
            obtain ⟨ad111, e111, hx111_0, hx111_1, hx111_2, hx111_3⟩ := at_T24 HR0.out x10_1 p111 q111
            cases e111
            replace hx111_0 := (HB.out.cell (World.block_lt_of_cell? w _ hx111_0)).trans hx111_0
            replace hx111_1 := (HB.out.cell (World.block_lt_of_cell? w _ hx111_1)).trans hx111_1
            replace hx111_2 := (HB.out.cell (World.block_lt_of_cell? w _ hx111_2)).trans hx111_2
            replace hx111_3 := (HB.out.cell (World.block_lt_of_cell? w _ hx111_3)).trans hx111_3
            replace p111 := eq_true p111;replace q111 := eq_true q111
            try go_wp2_with (first | ((with_reducible refine gate_dst (N := 4) rfl ?_); refine box_event ?hg (N := 4) ?hd (cs := #[.int .i64 0, .int .i64 0, .int .i64 0, .bool false]) (t := 24) ?hr ?_; (case hd => rfl); (case hg => rfl); (case hr => first | (go_simp; done) | (go_simp; rfl)); intro gb112 hg w14 hbox hb; have n0_ := Aside0.mk (below_step (by repeat (first | (with_reducible first | exact HB.out | apply below_alloc | apply pw_below_drewN | apply below_drew1) | exact HB.out)) hb); have n1_ := Aside0.mk (hbox); have n2_ := Aside0.mk ((by rw [hg]; exact (below_size (by repeat (first | (with_reducible first | exact HB.out | apply below_alloc | apply pw_below_drewN | apply below_drew1) | exact HB.out))) : w.heap.size ≤ gb112)); have n3_ := Aside0.mk ((by rw [hg]; exact (below_size (by repeat (first | (with_reducible first | exact HB.out | apply below_alloc | apply pw_below_drewN | apply below_drew1) | exact HB.out))) : w.heap.size ≤ gb112)); clear HB; have HB := n0_; have BK112 := n1_; have GW112 := n2_; have GE112 := n3_; clear n0_ n1_ n2_ n3_; clear hb hbox hg; have hcz15_0 : w14.cell? ⟨gb112, 0, none⟩ = some (.int .i64 0) := (blk_cell BK112.out 0).trans rfl; have hcz15_1 : w14.cell? ⟨gb112, 1, none⟩ = some (.int .i64 0) := (blk_cell BK112.out 1).trans rfl; have hcz15_2 : w14.cell? ⟨gb112, 2, none⟩ = some (.int .i64 0) := (blk_cell BK112.out 2).trans rfl; have hcz15_3 : w14.cell? ⟨gb112, 3, none⟩ = some (.bool false) := (blk_cell BK112.out 3).trans rfl; have hfz15_0 := blk_frozen BK112.out 0; have hfz15_1 := blk_frozen BK112.out 1; have hfz15_2 := blk_frozen BK112.out 2; have hfz15_3 := blk_frozen BK112.out 3))
            have n0_ : Aside0 (((((w14.setCell ⟨gb112, 0, none⟩ (.int .i64 ((rd_T24 l0 x10_1).f0))).setCell ⟨gb112, 1, none⟩ (.int .i64 ((rd_T24 l0 x10_1).f1))).setCell ⟨gb112, 2, none⟩ (.int .i64 ((rd_T24 l0 x10_1).f2))).setCell ⟨gb112, 3, none⟩ (.bool ((rd_T24 l0 x10_1).f3))).heap[gb112]? = some (.cells #[.int .i64 ((rd_T24 l0 x10_1).f0), .int .i64 ((rd_T24 l0 x10_1).f1), .int .i64 ((rd_T24 l0 x10_1).f2), .bool ((rd_T24 l0 x10_1).f3)] 24 (0, 0))) := ⟨by (with_reducible repeat (first | refine blk_drewN ?_ _ | refine blk_drew ?_ | refine blk_alloc ?_ _)); refine blk_put (cs := #[.int .i64 ((rd_T24 l0 x10_1).f0), .int .i64 ((rd_T24 l0 x10_1).f1), .int .i64 ((rd_T24 l0 x10_1).f2), .bool false]) ?_ 3 _ rfl; (with_reducible repeat (first | refine blk_drewN ?_ _ | refine blk_drew ?_ | refine blk_alloc ?_ _)); refine blk_put (cs := #[.int .i64 ((rd_T24 l0 x10_1).f0), .int .i64 ((rd_T24 l0 x10_1).f1), .int .i64 0, .bool false]) ?_ 2 _ rfl; (with_reducible repeat (first | refine blk_drewN ?_ _ | refine blk_drew ?_ | refine blk_alloc ?_ _)); refine blk_put (cs := #[.int .i64 ((rd_T24 l0 x10_1).f0), .int .i64 0, .int .i64 0, .bool false]) ?_ 1 _ rfl; (with_reducible repeat (first | refine blk_drewN ?_ _ | refine blk_drew ?_ | refine blk_alloc ?_ _)); refine blk_put (cs := #[.int .i64 0, .int .i64 0, .int .i64 0, .bool false]) ?_ 0 _ rfl; (with_reducible repeat (first | refine blk_drewN ?_ _ | refine blk_drew ?_ | refine blk_alloc ?_ _)); exact BK112.out⟩
            have n1_ : Aside0 (Below w.heap.size w ((((w14.setCell ⟨gb112, 0, none⟩ (.int .i64 ((rd_T24 l0 x10_1).f0))).setCell ⟨gb112, 1, none⟩ (.int .i64 ((rd_T24 l0 x10_1).f1))).setCell ⟨gb112, 2, none⟩ (.int .i64 ((rd_T24 l0 x10_1).f2))).setCell ⟨gb112, 3, none⟩ (.bool ((rd_T24 l0 x10_1).f3)))) := ⟨by repeat (first | (with_reducible first | exact HB.out | apply below_alloc | apply pw_below_drewN | apply below_drew1 | refine below_set ?_ GE112.out) | exact HB.out)⟩
            (try clear BK112)
            (try clear HB)
            generalize ((((w14.setCell ⟨gb112, 0, none⟩ (.int .i64 ((rd_T24 l0 x10_1).f0))).setCell ⟨gb112, 1, none⟩ (.int .i64 ((rd_T24 l0 x10_1).f1))).setCell ⟨gb112, 2, none⟩ (.int .i64 ((rd_T24 l0 x10_1).f2))).setCell ⟨gb112, 3, none⟩ (.bool ((rd_T24 l0 x10_1).f3))) = w16 at n0_ n1_ ⊢
            have BK112 := n0_;have HB := n1_;clear n0_ n1_
            have n0_ := Aside0.mk (blk_drew BK112.out)
            have n1_ := Aside0.mk (below_drew1 HB.out)
            clear BK112;clear HB;have BK112 := n0_;have HB := n1_;clear n0_ n1_
            have p114 : 0 ≤ ((ji9) : Int) := of_decide_eq_true (by first | (with_reducible assumption) | assumption)
            have q114 : (ji9) < (l0.length : Int) := of_decide_eq_true (by first | (with_reducible assumption) | assumption)
            obtain ⟨ad114, e114, hx114_0, hx114_1, hx114_2, hx114_3⟩ := at_T24 HR0.out (ji9) p114 q114
            have hw114_3 := hx114_3;have hw114_2 := hx114_2;have hw114_1 := hx114_1;have hw114_0 := hx114_0
            obtain rfl : ad111 = ad114 := (by injection e114)
            replace hx114_0 := (HB.out.cell (World.block_lt_of_cell? w _ hx114_0)).trans hx114_0
            replace hx114_1 := (HB.out.cell (World.block_lt_of_cell? w _ hx114_1)).trans hx114_1
            replace hx114_2 := (HB.out.cell (World.block_lt_of_cell? w _ hx114_2)).trans hx114_2
            replace hx114_3 := (HB.out.cell (World.block_lt_of_cell? w _ hx114_3)).trans hx114_3
            replace p114 := eq_true p114;replace q114 := eq_true q114
            refine start_ (n := 27) (S := fun w' => w'.cell? ⟨gb112, 0, none⟩ = some (.int .i64 ((rd_T24 l0 x10_1).f0)) ∧ w'.cell? ⟨gb112, 1, none⟩ = some (.int .i64 ((rd_T24 l0 x10_1).f1)) ∧ w'.cell? ⟨gb112, 2, none⟩ = some (.int .i64 ((rd_T24 l0 x10_1).f2)) ∧ w'.cell? ⟨gb112, 3, none⟩ = some (.bool ((rd_T24 l0 x10_1).f3)) ∧ w'.cell? (ad111.add (((ji9)).toNat * 4)) = some (.int .i64 ((rd_T24 l0 (ji9)).f0)) ∧ w'.cell? ⟨(ad111.add (((ji9)).toNat * 4)).block, (ad111.add (((ji9)).toNat * 4)).off + 1, none⟩ = some (.int .i64 ((rd_T24 l0 (ji9)).f1)) ∧ w'.cell? ⟨(ad111.add (((ji9)).toNat * 4)).block, (ad111.add (((ji9)).toNat * 4)).off + 2, none⟩ = some (.int .i64 ((rd_T24 l0 (ji9)).f2)) ∧ w'.cell? ⟨(ad111.add (((ji9)).toNat * 4)).block, (ad111.add (((ji9)).toNat * 4)).off + 3, none⟩ = some (.bool ((rd_T24 l0 (ji9)).f3))) (ds := []) #[false, false, false, false, false, false, false, false, false, false, false, false, false, false, false, false, false, false, false, false, false, false, false, false, false, false, false] (by kernel_rfl) rfl rfl ⟨(blk_cell BK112.out 0).trans rfl, (blk_cell BK112.out 1).trans rfl, (blk_cell BK112.out 2).trans rfl, (blk_cell BK112.out 3).trans rfl, ((HB.out.cell (World.block_lt_of_cell? w _ hw114_0)).trans hw114_0), ((HB.out.cell (World.block_lt_of_cell? w _ hw114_1)).trans hw114_1), ((HB.out.cell (World.block_lt_of_cell? w _ hw114_2)).trans hw114_2), ((HB.out.cell (World.block_lt_of_cell? w _ hw114_3)).trans hw114_3)⟩ (fun hHeld => ?_); refine with_tabW extent_Check.tab6 extent_Check.bits6 (fun HT_ HW_ => ?_)
            generalize w16.drew = w17 at BK112 HB hx114_0 hx114_1 hx114_2 hx114_3 hHeld ⊢
            refine take_ (i := 0) (N := some 15) (v := ?_) (a' := ?_) #[true, false, false, false, false, false, false, false, false, false, false, false, false, false, false, false, false, false, false, false, false, false, false, false, false, false, false] rfl rfl (take_ofW HT_.out HW_.out (by kernel_rfl)) (fun _ _ _ h => h) (Or.inl ⟨by rfl, ?_⟩) hHeld ?_ ?_;rotate_left
            ·rintro w' ⟨s0, s1, s2, s3, s4, s5, s6, s7⟩
             go_simp;with_reducible rfl
            rotate_left;(simp only [Act.put, sIb, sC0, sCs, i64_w, i32_w];rfl)
            refine one_ (i := 1) (N := some 16) #[true, true, false, false, false, false, false, false, false, false, false, false, false, false, false, false, false, false, false, false, false, false, false, false, false, false, false] rfl rfl (one_of HT_.out (by kernel_rfl)) (by decide) (fun K hK => ?_)
            refine goes_ Try.func34 (by kernel_rfl) rfl #[.agg #[.int .i64 ((rd_T24 l0 x10_1).f0), .int .i64 ((rd_T24 l0 x10_1).f1), .int .i64 ((rd_T24 l0 x10_1).f2), .bool ((rd_T24 l0 x10_1).f3)]] (by rfl) rfl rfl (by (try simp only [List.map_toArray, List.map_cons, List.map_nil]); first | done | rfl | (simp only [List.length_drop, List.length_take]; rfl)) ?_
            with_reducible refine (extent_may.calls ((rd_T24 l0 x10_1).f0) ((rd_T24 l0 x10_1).f1) ((rd_T24 l0 x10_1).f2) ((rd_T24 l0 x10_1).f3) true _ A6.out).mono ?_
            rintro e w18 ⟨rfl, hb⟩
            refine ⟨_, rfl, ?_⟩
            have n0_ := Aside0.mk (blk_below (g := gb112) (o := .cells #[.int .i64 ((rd_T24 l0 x10_1).f0), .int .i64 ((rd_T24 l0 x10_1).f1), .int .i64 ((rd_T24 l0 x10_1).f2), .bool ((rd_T24 l0 x10_1).f3)] 24 (0, 0)) (by (with_reducible repeat (first | refine blk_drewN ?_ _ | refine blk_drew ?_ | refine blk_alloc ?_ _)); exact BK112.out) hb)
            have n1_ := Aside0.mk (below_step (by repeat (first | (with_reducible first | exact HB.out | apply below_alloc | apply pw_below_drewN | apply below_drew1 | refine below_set ?_ GE112.out) | exact HB.out)) hb)
            clear BK112;clear HB;have BK112 := n0_;have HB := n1_;clear n0_ n1_
            (try clear hb)
            (try clear hb2)
            (try clear hk)
            (try clear hi)
            refine hK.out _ _ ⟨(blk_cell BK112.out 0).trans rfl, (blk_cell BK112.out 1).trans rfl, (blk_cell BK112.out 2).trans rfl, (blk_cell BK112.out 3).trans rfl, ((HB.out.cell (World.block_lt_of_cell? w _ hw114_0)).trans hw114_0), ((HB.out.cell (World.block_lt_of_cell? w _ hw114_1)).trans hw114_1), ((HB.out.cell (World.block_lt_of_cell? w _ hw114_2)).trans hw114_2), ((HB.out.cell (World.block_lt_of_cell? w _ hw114_3)).trans hw114_3)⟩ (fun hHeld => ?_)
            clear hK K;refine norm_ (a' := ?_) ?_ ?_;rotate_left
            ·show Act.put _ (some 16) _ = _
             simp only [Act.put, sIb, sC0, sCs, i64_w, i32_w];rfl
            refine pure_ (i := 2) (N := some 17) (v := ?_) (a' := ?_) #[true, true, true, false, false, false, false, false, false, false, false, false, false, false, false, false, false, false, false, false, false, false, false, false, false, false, false] rfl rfl (any_of HT_.out (by kernel_rfl)) (fun _ _ _ h => h) (Or.inl ⟨by rfl, ?_⟩) ?_ ?_;rotate_left;(intro w';go_simp;with_reducible rfl);rotate_left;(simp only [Act.put, sIb, sC0, sCs, i64_w, i32_w];rfl);refine pure_ (i := 3) (N := some 18) (v := ?_) (a' := ?_) #[true, true, true, true, false, false, false, false, false, false, false, false, false, false, false, false, false, false, false, false, false, false, false, false, false, false, false] rfl rfl (any_of HT_.out (by kernel_rfl)) (fun _ _ _ h => h) (Or.inl ⟨by rfl, ?_⟩) ?_ ?_;rotate_left;(intro w';go_simp;with_reducible rfl);rotate_left;(simp only [Act.put, sIb, sC0, sCs, i64_w, i32_w];rfl);refine pure_ (i := 4) (N := some 19) (v := ?_) (a' := ?_) #[true, true, true, true, true, false, false, false, false, false, false, false, false, false, false, false, false, false, false, false, false, false, false, false, false, false, false] rfl rfl (any_of HT_.out (by kernel_rfl)) (fun _ _ _ h => h) (Or.inl ⟨by rfl, ?_⟩) ?_ ?_;rotate_left;(intro w';go_simp;with_reducible rfl);rotate_left;(simp only [Act.put, sIb, sC0, sCs, i64_w, i32_w];rfl);refine pure_ (i := 5) (N := some 20) (v := ?_) (a' := ?_) #[true, true, true, true, true, true, false, false, false, false, false, false, false, false, false, false, false, false, false, false, false, false, false, false, false, false, false] rfl rfl (any_of HT_.out (by kernel_rfl)) (fun _ _ _ h => h) (Or.inl ⟨by rfl, ?_⟩) ?_ ?_;rotate_left;(intro w';go_simp;with_reducible rfl);rotate_left;(simp only [Act.put, sIb, sC0, sCs, i64_w, i32_w];rfl);refine pure_ (i := 6) (N := some 21) (v := ?_) (a' := ?_) #[true, true, true, true, true, true, true, false, false, false, false, false, false, false, false, false, false, false, false, false, false, false, false, false, false, false, false] rfl rfl (any_of HT_.out (by kernel_rfl)) (fun _ _ _ h => h) (Or.inl ⟨by rfl, ?_⟩) ?_ ?_;rotate_left;(intro w';go_simp;with_reducible rfl);rotate_left;(simp only [Act.put, sIb, sC0, sCs, i64_w, i32_w];rfl);refine pure_ (i := 7) (N := some 22) (v := ?_) (a' := ?_) #[true, true, true, true, true, true, true, true, false, false, false, false, false, false, false, false, false, false, false, false, false, false, false, false, false, false, false] rfl rfl (any_of HT_.out (by kernel_rfl)) (fun _ _ _ h => h) (Or.inl ⟨by rfl, ?_⟩) ?_ ?_;rotate_left;(intro w';go_simp;with_reducible rfl);rotate_left;(simp only [Act.put, sIb, sC0, sCs, i64_w, i32_w];rfl);refine pure_ (i := 9) (N := some 24) (v := ?_) (a' := ?_) #[true, true, true, true, true, true, true, true, false, true, false, false, false, false, false, false, false, false, false, false, false, false, false, false, false, false, false] rfl rfl (any_of HT_.out (by kernel_rfl)) (fun _ _ _ h => h) (Or.inl ⟨by rfl, ?_⟩) ?_ ?_;rotate_left;(intro w';go_simp;with_reducible rfl);rotate_left;(simp only [Act.put, sIb, sC0, sCs, i64_w, i32_w];rfl);refine pure_ (i := 10) (N := some 25) (v := ?_) (a' := ?_) #[true, true, true, true, true, true, true, true, false, true, true, false, false, false, false, false, false, false, false, false, false, false, false, false, false, false, false] rfl rfl (any_of HT_.out (by kernel_rfl)) (fun _ _ _ h => h) (Or.inl ⟨by rfl, ?_⟩) ?_ ?_;rotate_left;(intro w';go_simp;with_reducible rfl);rotate_left;(simp only [Act.put, sIb, sC0, sCs, i64_w, i32_w];rfl);refine pure_ (i := 11) (N := some 26) (v := ?_) (a' := ?_) #[true, true, true, true, true, true, true, true, false, true, true, true, false, false, false, false, false, false, false, false, false, false, false, false, false, false, false] rfl rfl (any_of HT_.out (by kernel_rfl)) (fun _ _ _ h => h) (Or.inl ⟨by rfl, ?_⟩) ?_ ?_;rotate_left;(intro w';go_simp;with_reducible rfl);rotate_left;(simp only [Act.put, sIb, sC0, sCs, i64_w, i32_w];rfl);refine pure_ (i := 12) (N := some 27) (v := ?_) (a' := ?_) #[true, true, true, true, true, true, true, true, false, true, true, true, true, false, false, false, false, false, false, false, false, false, false, false, false, false, false] rfl rfl (any_of HT_.out (by kernel_rfl)) (fun _ _ _ h => h) (Or.inl ⟨by rfl, ?_⟩) ?_ ?_;rotate_left;(intro w';go_simp;with_reducible rfl);rotate_left;(simp only [Act.put, sIb, sC0, sCs, i64_w, i32_w];rfl);refine take_ (i := 8) (N := some 23) (v := ?_) (a' := ?_) #[true, true, true, true, true, true, true, true, true, true, true, true, true, false, false, false, false, false, false, false, false, false, false, false, false, false, false] rfl rfl (take_ofW HT_.out HW_.out (by kernel_rfl)) (fun _ _ _ h => h) (Or.inl ⟨by rfl, ?_⟩) hHeld ?_ ?_;rotate_left
            ·rintro w' ⟨s0, s1, s2, s3, s4, s5, s6, s7⟩
             go_simp;with_reducible rfl
            rotate_left;(simp only [Act.put, sIb, sC0, sCs, i64_w, i32_w];rfl);refine take_ (i := 13) (N := some 28) (v := ?_) (a' := ?_) #[true, true, true, true, true, true, true, true, true, true, true, true, true, true, false, false, false, false, false, false, false, false, false, false, false, false, false] rfl rfl (take_ofW HT_.out HW_.out (by kernel_rfl)) (fun _ _ _ h => h) (Or.inl ⟨by rfl, ?_⟩) hHeld ?_ ?_;rotate_left
            ·rintro w' ⟨s0, s1, s2, s3, s4, s5, s6, s7⟩
             go_simp;with_reducible rfl
            rotate_left;(simp only [Act.put, sIb, sC0, sCs, i64_w, i32_w];rfl)
            refine one_ (i := 14) (N := some 29) #[true, true, true, true, true, true, true, true, true, true, true, true, true, true, true, false, false, false, false, false, false, false, false, false, false, false, false] rfl rfl (one_of HT_.out (by kernel_rfl)) (by decide) (fun K hK => ?_)
            refine goes_ Try.func35 (by kernel_rfl) rfl #[.agg #[.int .i64 ((rd_T24 l0 (ji9)).f0), .int .i64 ((rd_T24 l0 (ji9)).f1), .int .i64 ((rd_T24 l0 (ji9)).f2), .bool ((rd_T24 l0 (ji9)).f3)]] (by rfl) rfl rfl (by (try simp only [List.map_toArray, List.map_cons, List.map_nil]); first | done | (simp only [hji9]; rfl) | rfl | (simp only [List.length_drop, List.length_take]; rfl)) ?_
            with_reducible refine (extent_end.calls ((rd_T24 l0 (ji9)).f0) ((rd_T24 l0 (ji9)).f1) ((rd_T24 l0 (ji9)).f2) ((rd_T24 l0 (ji9)).f3) t115 _ A12.out).mono ?_
            rintro e w19 ⟨rfl, hb⟩
            refine ⟨_, rfl, ?_⟩
            have n0_ := Aside0.mk (blk_below (g := gb112) (o := .cells #[.int .i64 ((rd_T24 l0 x10_1).f0), .int .i64 ((rd_T24 l0 x10_1).f1), .int .i64 ((rd_T24 l0 x10_1).f2), .bool ((rd_T24 l0 x10_1).f3)] 24 (0, 0)) (by (with_reducible repeat (first | refine blk_drewN ?_ _ | refine blk_drew ?_ | refine blk_alloc ?_ _)); exact BK112.out) hb)
            have n1_ := Aside0.mk (below_step (by repeat (first | (with_reducible first | exact HB.out | apply below_alloc | apply pw_below_drewN | apply below_drew1 | refine below_set ?_ GE112.out) | exact HB.out)) hb)
            clear BK112;clear HB;have BK112 := n0_;have HB := n1_;clear n0_ n1_
            (try clear hb)
            (try clear hb2)
            (try clear hk)
            (try clear hi)
            refine hK.out _ _ ⟨(blk_cell BK112.out 0).trans rfl, (blk_cell BK112.out 1).trans rfl, (blk_cell BK112.out 2).trans rfl, (blk_cell BK112.out 3).trans rfl, ((HB.out.cell (World.block_lt_of_cell? w _ hw114_0)).trans hw114_0), ((HB.out.cell (World.block_lt_of_cell? w _ hw114_1)).trans hw114_1), ((HB.out.cell (World.block_lt_of_cell? w _ hw114_2)).trans hw114_2), ((HB.out.cell (World.block_lt_of_cell? w _ hw114_3)).trans hw114_3)⟩ (fun hHeld => ?_)
            clear hK K;refine norm_ (a' := ?_) ?_ ?_;rotate_left
            ·show Act.put _ (some 29) _ = _
             simp only [Act.put, sIb, sC0, sCs, i64_w, i32_w];rfl
            refine pure_ (i := 15) (N := some 30) (v := ?_) (a' := ?_) #[true, true, true, true, true, true, true, true, true, true, true, true, true, true, true, true, false, false, false, false, false, false, false, false, false, false, false] rfl rfl (any_of HT_.out (by kernel_rfl)) (fun _ _ _ h => h) (Or.inl ⟨by rfl, ?_⟩) ?_ ?_;rotate_left;(intro w';go_simp;with_reducible rfl);rotate_left;(simp only [Act.put, sIb, sC0, sCs, i64_w, i32_w];rfl);refine pure_ (i := 16) (N := some 31) (v := ?_) (a' := ?_) #[true, true, true, true, true, true, true, true, true, true, true, true, true, true, true, true, true, false, false, false, false, false, false, false, false, false, false] rfl rfl (any_of HT_.out (by kernel_rfl)) (fun _ _ _ h => h) (Or.inl ⟨by rfl, ?_⟩) ?_ ?_;rotate_left;(intro w';go_simp;with_reducible rfl);rotate_left;(simp only [Act.put, sIb, sC0, sCs, i64_w, i32_w];rfl);refine pure_ (i := 17) (N := some 32) (v := undef) (a' := ?_) #[true, true, true, true, true, true, true, true, true, true, true, true, true, true, true, true, true, true, false, false, false, false, false, false, false, false, false] rfl rfl (any_of HT_.out (by kernel_rfl)) (fun _ _ _ h => h) (Or.inr ⟨by rfl, rfl⟩) ?_ ?_;rotate_left;(simp only [Act.put, sIb, sC0, sCs, i64_w, i32_w];rfl);refine pure_ (i := 18) (N := some 33) (v := undef) (a' := ?_) #[true, true, true, true, true, true, true, true, true, true, true, true, true, true, true, true, true, true, true, false, false, false, false, false, false, false, false] rfl rfl (any_of HT_.out (by kernel_rfl)) (fun _ _ _ h => h) (Or.inr ⟨by rfl, rfl⟩) ?_ ?_;rotate_left;(simp only [Act.put, sIb, sC0, sCs, i64_w, i32_w];rfl);refine pure_ (i := 19) (N := some 34) (v := undef) (a' := ?_) #[true, true, true, true, true, true, true, true, true, true, true, true, true, true, true, true, true, true, true, true, false, false, false, false, false, false, false] rfl rfl (any_of HT_.out (by kernel_rfl)) (fun _ _ _ h => h) (Or.inr ⟨by rfl, rfl⟩) ?_ ?_;rotate_left;(simp only [Act.put, sIb, sC0, sCs, i64_w, i32_w];rfl);refine pure_ (i := 20) (N := some 35) (v := undef) (a' := ?_) #[true, true, true, true, true, true, true, true, true, true, true, true, true, true, true, true, true, true, true, true, true, false, false, false, false, false, false] rfl rfl (any_of HT_.out (by kernel_rfl)) (fun _ _ _ h => h) (Or.inr ⟨by rfl, rfl⟩) ?_ ?_;rotate_left;(simp only [Act.put, sIb, sC0, sCs, i64_w, i32_w];rfl);refine pure_ (i := 21) (N := some 36) (v := undef) (a' := ?_) #[true, true, true, true, true, true, true, true, true, true, true, true, true, true, true, true, true, true, true, true, true, true, false, false, false, false, false] rfl rfl (any_of HT_.out (by kernel_rfl)) (fun _ _ _ h => h) (Or.inr ⟨by rfl, rfl⟩) ?_ ?_;rotate_left;(simp only [Act.put, sIb, sC0, sCs, i64_w, i32_w];rfl);refine pure_ (i := 22) (N := some 37) (v := undef) (a' := ?_) #[true, true, true, true, true, true, true, true, true, true, true, true, true, true, true, true, true, true, true, true, true, true, true, false, false, false, false] rfl rfl (any_of HT_.out (by kernel_rfl)) (fun _ _ _ h => h) (Or.inr ⟨by rfl, rfl⟩) ?_ ?_;rotate_left;(simp only [Act.put, sIb, sC0, sCs, i64_w, i32_w];rfl);refine pure_ (i := 23) (N := some 38) (v := undef) (a' := ?_) #[true, true, true, true, true, true, true, true, true, true, true, true, true, true, true, true, true, true, true, true, true, true, true, true, false, false, false] rfl rfl (any_of HT_.out (by kernel_rfl)) (fun _ _ _ h => h) (Or.inr ⟨by rfl, rfl⟩) ?_ ?_;rotate_left;(simp only [Act.put, sIb, sC0, sCs, i64_w, i32_w];rfl);refine pure_ (i := 24) (N := some 39) (v := ?_) (a' := ?_) #[true, true, true, true, true, true, true, true, true, true, true, true, true, true, true, true, true, true, true, true, true, true, true, true, true, false, false] rfl rfl (any_of HT_.out (by kernel_rfl)) (fun _ _ _ h => h) (Or.inl ⟨by rfl, ?_⟩) ?_ ?_;rotate_left;(intro w';go_simp;with_reducible rfl);rotate_left;(simp only [Act.put, sIb, sC0, sCs, i64_w, i32_w];rfl);refine pure_ (i := 25) (N := some 40) (v := ?_) (a' := ?_) #[true, true, true, true, true, true, true, true, true, true, true, true, true, true, true, true, true, true, true, true, true, true, true, true, true, true, false] rfl rfl (any_of HT_.out (by kernel_rfl)) (fun _ _ _ h => h) (Or.inl ⟨by rfl, ?_⟩) ?_ ?_;rotate_left;(intro w';go_simp;with_reducible rfl);rotate_left;(simp only [Act.put, sIb, sC0, sCs, i64_w, i32_w];rfl);refine pure_ (i := 26) (N := some 41) (v := ?_) (a' := ?_) #[true, true, true, true, true, true, true, true, true, true, true, true, true, true, true, true, true, true, true, true, true, true, true, true, true, true, true] rfl rfl (any_of HT_.out (by kernel_rfl)) (fun _ _ _ h => h) (Or.inl ⟨by rfl, ?_⟩) ?_ ?_;rotate_left;(intro w';go_simp;with_reducible rfl);rotate_left;(simp only [Act.put, sIb, sC0, sCs, i64_w, i32_w];rfl)
            refine done_ (done_of HT_.out (by kernel_rfl)) ?_
            try go_wp2
            go_ret
            exact ⟨by first | rfl | (simp [errW_none, errW_some] <;> rfl) | (simp only [← hji9]; first | rfl | (simp [errW_none, errW_some] <;> rfl)) | (simp [*, errW_none, errW_some] <;> rfl), by repeat (first | (with_reducible first | exact HB.out | apply below_alloc | apply pw_below_drewN | apply below_drew1 | refine below_set ?_ GE112.out) | exact HB.out)⟩
           ·rw [if_neg c13] at H
            have c13b0 : decide (((rd_T24 l0 x10_1).f0) < t115) = false := decide_eq_false c13
            clear c13
            replace H := Option.bind_eq_some_iff.mp H
            obtain ⟨t117, A200, H⟩ := H
            replace H : (if t117 = true then (some 1) else (extent_Check.l0 k1 l0 l0 (l0.length : Int) (wrap64 (x10_1 + 1)))) = some r := H
            have A20 := Aside0.mk A200
            clear A200
            by_cases c21 : t117 = true
            ·subst c21
             have H1 : (some 1) = some r := by rw [if_pos rfl] at H; exact H
             clear H;have H := H1;clear H1;obtain rfl := Option.some.inj H
             have p111 : 0 ≤ (x10_1 : Int) := of_decide_eq_true (by first | (with_reducible assumption) | assumption)
             have q111 : x10_1 < (l0.length : Int) := of_decide_eq_true (by first | (with_reducible assumption) | assumption)
             obtain ⟨ad111, e111, hx111_0, hx111_1, hx111_2, hx111_3⟩ := at_T24 HR0.out x10_1 p111 q111
             cases e111
             replace hx111_0 := (HB.out.cell (World.block_lt_of_cell? w _ hx111_0)).trans hx111_0
             replace hx111_1 := (HB.out.cell (World.block_lt_of_cell? w _ hx111_1)).trans hx111_1
             replace hx111_2 := (HB.out.cell (World.block_lt_of_cell? w _ hx111_2)).trans hx111_2
             replace hx111_3 := (HB.out.cell (World.block_lt_of_cell? w _ hx111_3)).trans hx111_3
             replace p111 := eq_true p111;replace q111 := eq_true q111
             try go_wp2_with (first | ((with_reducible refine gate_dst (N := 4) rfl ?_); refine box_event ?hg (N := 4) ?hd (cs := #[.int .i64 0, .int .i64 0, .int .i64 0, .bool false]) (t := 24) ?hr ?_; (case hd => rfl); (case hg => rfl); (case hr => first | (go_simp; done) | (go_simp; rfl)); intro gb112 hg w22 hbox hb; have n0_ := Aside0.mk (below_step (by repeat (first | (with_reducible first | exact HB.out | apply below_alloc | apply pw_below_drewN | apply below_drew1) | exact HB.out)) hb); have n1_ := Aside0.mk (hbox); have n2_ := Aside0.mk ((by rw [hg]; exact (below_size (by repeat (first | (with_reducible first | exact HB.out | apply below_alloc | apply pw_below_drewN | apply below_drew1) | exact HB.out))) : w.heap.size ≤ gb112)); have n3_ := Aside0.mk ((by rw [hg]; exact (below_size (by repeat (first | (with_reducible first | exact HB.out | apply below_alloc | apply pw_below_drewN | apply below_drew1) | exact HB.out))) : w.heap.size ≤ gb112)); clear HB; have HB := n0_; have BK112 := n1_; have GW112 := n2_; have GE112 := n3_; clear n0_ n1_ n2_ n3_; clear hb hbox hg; have hcz23_0 : w22.cell? ⟨gb112, 0, none⟩ = some (.int .i64 0) := (blk_cell BK112.out 0).trans rfl; have hcz23_1 : w22.cell? ⟨gb112, 1, none⟩ = some (.int .i64 0) := (blk_cell BK112.out 1).trans rfl; have hcz23_2 : w22.cell? ⟨gb112, 2, none⟩ = some (.int .i64 0) := (blk_cell BK112.out 2).trans rfl; have hcz23_3 : w22.cell? ⟨gb112, 3, none⟩ = some (.bool false) := (blk_cell BK112.out 3).trans rfl; have hfz23_0 := blk_frozen BK112.out 0; have hfz23_1 := blk_frozen BK112.out 1; have hfz23_2 := blk_frozen BK112.out 2; have hfz23_3 := blk_frozen BK112.out 3))
             have n0_ : Aside0 (((((w22.setCell ⟨gb112, 0, none⟩ (.int .i64 ((rd_T24 l0 x10_1).f0))).setCell ⟨gb112, 1, none⟩ (.int .i64 ((rd_T24 l0 x10_1).f1))).setCell ⟨gb112, 2, none⟩ (.int .i64 ((rd_T24 l0 x10_1).f2))).setCell ⟨gb112, 3, none⟩ (.bool ((rd_T24 l0 x10_1).f3))).heap[gb112]? = some (.cells #[.int .i64 ((rd_T24 l0 x10_1).f0), .int .i64 ((rd_T24 l0 x10_1).f1), .int .i64 ((rd_T24 l0 x10_1).f2), .bool ((rd_T24 l0 x10_1).f3)] 24 (0, 0))) := ⟨by (with_reducible repeat (first | refine blk_drewN ?_ _ | refine blk_drew ?_ | refine blk_alloc ?_ _)); refine blk_put (cs := #[.int .i64 ((rd_T24 l0 x10_1).f0), .int .i64 ((rd_T24 l0 x10_1).f1), .int .i64 ((rd_T24 l0 x10_1).f2), .bool false]) ?_ 3 _ rfl; (with_reducible repeat (first | refine blk_drewN ?_ _ | refine blk_drew ?_ | refine blk_alloc ?_ _)); refine blk_put (cs := #[.int .i64 ((rd_T24 l0 x10_1).f0), .int .i64 ((rd_T24 l0 x10_1).f1), .int .i64 0, .bool false]) ?_ 2 _ rfl; (with_reducible repeat (first | refine blk_drewN ?_ _ | refine blk_drew ?_ | refine blk_alloc ?_ _)); refine blk_put (cs := #[.int .i64 ((rd_T24 l0 x10_1).f0), .int .i64 0, .int .i64 0, .bool false]) ?_ 1 _ rfl; (with_reducible repeat (first | refine blk_drewN ?_ _ | refine blk_drew ?_ | refine blk_alloc ?_ _)); refine blk_put (cs := #[.int .i64 0, .int .i64 0, .int .i64 0, .bool false]) ?_ 0 _ rfl; (with_reducible repeat (first | refine blk_drewN ?_ _ | refine blk_drew ?_ | refine blk_alloc ?_ _)); exact BK112.out⟩
             have n1_ : Aside0 (Below w.heap.size w ((((w22.setCell ⟨gb112, 0, none⟩ (.int .i64 ((rd_T24 l0 x10_1).f0))).setCell ⟨gb112, 1, none⟩ (.int .i64 ((rd_T24 l0 x10_1).f1))).setCell ⟨gb112, 2, none⟩ (.int .i64 ((rd_T24 l0 x10_1).f2))).setCell ⟨gb112, 3, none⟩ (.bool ((rd_T24 l0 x10_1).f3)))) := ⟨by repeat (first | (with_reducible first | exact HB.out | apply below_alloc | apply pw_below_drewN | apply below_drew1 | refine below_set ?_ GE112.out) | exact HB.out)⟩
             (try clear BK112)
             (try clear HB)
             generalize ((((w22.setCell ⟨gb112, 0, none⟩ (.int .i64 ((rd_T24 l0 x10_1).f0))).setCell ⟨gb112, 1, none⟩ (.int .i64 ((rd_T24 l0 x10_1).f1))).setCell ⟨gb112, 2, none⟩ (.int .i64 ((rd_T24 l0 x10_1).f2))).setCell ⟨gb112, 3, none⟩ (.bool ((rd_T24 l0 x10_1).f3))) = w24 at n0_ n1_ ⊢
             have BK112 := n0_;have HB := n1_;clear n0_ n1_
             have n0_ := Aside0.mk (blk_drew BK112.out)
             have n1_ := Aside0.mk (below_drew1 HB.out)
             clear BK112;clear HB;have BK112 := n0_;have HB := n1_;clear n0_ n1_
             have p114 : 0 ≤ ((ji9) : Int) := of_decide_eq_true (by first | (with_reducible assumption) | assumption)
             have q114 : (ji9) < (l0.length : Int) := of_decide_eq_true (by first | (with_reducible assumption) | assumption)
             obtain ⟨ad114, e114, hx114_0, hx114_1, hx114_2, hx114_3⟩ := at_T24 HR0.out (ji9) p114 q114
             have hw114_3 := hx114_3;have hw114_2 := hx114_2;have hw114_1 := hx114_1;have hw114_0 := hx114_0
             obtain rfl : ad111 = ad114 := (by injection e114)
             replace hx114_0 := (HB.out.cell (World.block_lt_of_cell? w _ hx114_0)).trans hx114_0
             replace hx114_1 := (HB.out.cell (World.block_lt_of_cell? w _ hx114_1)).trans hx114_1
             replace hx114_2 := (HB.out.cell (World.block_lt_of_cell? w _ hx114_2)).trans hx114_2
             replace hx114_3 := (HB.out.cell (World.block_lt_of_cell? w _ hx114_3)).trans hx114_3
             replace p114 := eq_true p114;replace q114 := eq_true q114
             have p116 : 0 ≤ ((ji9) : Int) := of_decide_eq_true (by first | (with_reducible assumption) | assumption)
             have q116 : (ji9) < (l0.length : Int) := of_decide_eq_true (by first | (with_reducible assumption) | assumption)
             obtain ⟨ad116, e116, hx116_0, hx116_1, hx116_2, hx116_3⟩ := at_T24 HR0.out (ji9) p116 q116
             have hw116_3 := hx116_3;have hw116_2 := hx116_2;have hw116_1 := hx116_1;have hw116_0 := hx116_0
             obtain rfl : ad111 = ad116 := (by injection e116)
             replace hx116_0 := (HB.out.cell (World.block_lt_of_cell? w _ hx116_0)).trans hx116_0
             replace hx116_1 := (HB.out.cell (World.block_lt_of_cell? w _ hx116_1)).trans hx116_1
             replace hx116_2 := (HB.out.cell (World.block_lt_of_cell? w _ hx116_2)).trans hx116_2
             replace hx116_3 := (HB.out.cell (World.block_lt_of_cell? w _ hx116_3)).trans hx116_3
             replace p116 := eq_true p116;replace q116 := eq_true q116
             refine start_ (n := 27) (S := fun w' => w'.cell? ⟨gb112, 0, none⟩ = some (.int .i64 ((rd_T24 l0 x10_1).f0)) ∧ w'.cell? ⟨gb112, 1, none⟩ = some (.int .i64 ((rd_T24 l0 x10_1).f1)) ∧ w'.cell? ⟨gb112, 2, none⟩ = some (.int .i64 ((rd_T24 l0 x10_1).f2)) ∧ w'.cell? ⟨gb112, 3, none⟩ = some (.bool ((rd_T24 l0 x10_1).f3)) ∧ w'.cell? (ad111.add (((ji9)).toNat * 4)) = some (.int .i64 ((rd_T24 l0 (ji9)).f0)) ∧ w'.cell? ⟨(ad111.add (((ji9)).toNat * 4)).block, (ad111.add (((ji9)).toNat * 4)).off + 1, none⟩ = some (.int .i64 ((rd_T24 l0 (ji9)).f1)) ∧ w'.cell? ⟨(ad111.add (((ji9)).toNat * 4)).block, (ad111.add (((ji9)).toNat * 4)).off + 2, none⟩ = some (.int .i64 ((rd_T24 l0 (ji9)).f2)) ∧ w'.cell? ⟨(ad111.add (((ji9)).toNat * 4)).block, (ad111.add (((ji9)).toNat * 4)).off + 3, none⟩ = some (.bool ((rd_T24 l0 (ji9)).f3)) ∧ w'.cell? (ad111.add (((ji9)).toNat * 4)) = some (.int .i64 ((rd_T24 l0 (ji9)).f0)) ∧ w'.cell? ⟨(ad111.add (((ji9)).toNat * 4)).block, (ad111.add (((ji9)).toNat * 4)).off + 1, none⟩ = some (.int .i64 ((rd_T24 l0 (ji9)).f1)) ∧ w'.cell? ⟨(ad111.add (((ji9)).toNat * 4)).block, (ad111.add (((ji9)).toNat * 4)).off + 2, none⟩ = some (.int .i64 ((rd_T24 l0 (ji9)).f2)) ∧ w'.cell? ⟨(ad111.add (((ji9)).toNat * 4)).block, (ad111.add (((ji9)).toNat * 4)).off + 3, none⟩ = some (.bool ((rd_T24 l0 (ji9)).f3))) (ds := []) #[false, false, false, false, false, false, false, false, false, false, false, false, false, false, false, false, false, false, false, false, false, false, false, false, false, false, false] (by kernel_rfl) rfl rfl ⟨(blk_cell BK112.out 0).trans rfl, (blk_cell BK112.out 1).trans rfl, (blk_cell BK112.out 2).trans rfl, (blk_cell BK112.out 3).trans rfl, ((HB.out.cell (World.block_lt_of_cell? w _ hw114_0)).trans hw114_0), ((HB.out.cell (World.block_lt_of_cell? w _ hw114_1)).trans hw114_1), ((HB.out.cell (World.block_lt_of_cell? w _ hw114_2)).trans hw114_2), ((HB.out.cell (World.block_lt_of_cell? w _ hw114_3)).trans hw114_3), ((HB.out.cell (World.block_lt_of_cell? w _ hw116_0)).trans hw116_0), ((HB.out.cell (World.block_lt_of_cell? w _ hw116_1)).trans hw116_1), ((HB.out.cell (World.block_lt_of_cell? w _ hw116_2)).trans hw116_2), ((HB.out.cell (World.block_lt_of_cell? w _ hw116_3)).trans hw116_3)⟩ (fun hHeld => ?_); refine with_tabW extent_Check.tab6 extent_Check.bits6 (fun HT_ HW_ => ?_)
             generalize w24.drew = w25 at BK112 HB hx114_0 hx114_1 hx114_2 hx114_3 hx116_0 hx116_1 hx116_2 hx116_3 hHeld ⊢
             refine take_ (i := 0) (N := some 15) (v := ?_) (a' := ?_) #[true, false, false, false, false, false, false, false, false, false, false, false, false, false, false, false, false, false, false, false, false, false, false, false, false, false, false] rfl rfl (take_ofW HT_.out HW_.out (by kernel_rfl)) (fun _ _ _ h => h) (Or.inl ⟨by rfl, ?_⟩) hHeld ?_ ?_;rotate_left
             ·rintro w' ⟨s0, s1, s2, s3, s4, s5, s6, s7, s8, s9, s10, s11⟩
              go_simp;with_reducible rfl
             rotate_left;(simp only [Act.put, sIb, sC0, sCs, i64_w, i32_w];rfl)
             refine one_ (i := 1) (N := some 16) #[true, true, false, false, false, false, false, false, false, false, false, false, false, false, false, false, false, false, false, false, false, false, false, false, false, false, false] rfl rfl (one_of HT_.out (by kernel_rfl)) (by decide) (fun K hK => ?_)
             refine goes_ Try.func34 (by kernel_rfl) rfl #[.agg #[.int .i64 ((rd_T24 l0 x10_1).f0), .int .i64 ((rd_T24 l0 x10_1).f1), .int .i64 ((rd_T24 l0 x10_1).f2), .bool ((rd_T24 l0 x10_1).f3)]] (by rfl) rfl rfl (by (try simp only [List.map_toArray, List.map_cons, List.map_nil]); first | done | rfl | (simp only [List.length_drop, List.length_take]; rfl)) ?_
             with_reducible refine (extent_may.calls ((rd_T24 l0 x10_1).f0) ((rd_T24 l0 x10_1).f1) ((rd_T24 l0 x10_1).f2) ((rd_T24 l0 x10_1).f3) true _ A6.out).mono ?_
             rintro e w26 ⟨rfl, hb⟩
             refine ⟨_, rfl, ?_⟩
             have n0_ := Aside0.mk (blk_below (g := gb112) (o := .cells #[.int .i64 ((rd_T24 l0 x10_1).f0), .int .i64 ((rd_T24 l0 x10_1).f1), .int .i64 ((rd_T24 l0 x10_1).f2), .bool ((rd_T24 l0 x10_1).f3)] 24 (0, 0)) (by (with_reducible repeat (first | refine blk_drewN ?_ _ | refine blk_drew ?_ | refine blk_alloc ?_ _)); exact BK112.out) hb)
             have n1_ := Aside0.mk (below_step (by repeat (first | (with_reducible first | exact HB.out | apply below_alloc | apply pw_below_drewN | apply below_drew1 | refine below_set ?_ GE112.out) | exact HB.out)) hb)
             clear BK112;clear HB;have BK112 := n0_;have HB := n1_;clear n0_ n1_
             (try clear hb)
             (try clear hb2)
             (try clear hk)
             (try clear hi)
             refine hK.out _ _ ⟨(blk_cell BK112.out 0).trans rfl, (blk_cell BK112.out 1).trans rfl, (blk_cell BK112.out 2).trans rfl, (blk_cell BK112.out 3).trans rfl, ((HB.out.cell (World.block_lt_of_cell? w _ hw114_0)).trans hw114_0), ((HB.out.cell (World.block_lt_of_cell? w _ hw114_1)).trans hw114_1), ((HB.out.cell (World.block_lt_of_cell? w _ hw114_2)).trans hw114_2), ((HB.out.cell (World.block_lt_of_cell? w _ hw114_3)).trans hw114_3), ((HB.out.cell (World.block_lt_of_cell? w _ hw116_0)).trans hw116_0), ((HB.out.cell (World.block_lt_of_cell? w _ hw116_1)).trans hw116_1), ((HB.out.cell (World.block_lt_of_cell? w _ hw116_2)).trans hw116_2), ((HB.out.cell (World.block_lt_of_cell? w _ hw116_3)).trans hw116_3)⟩ (fun hHeld => ?_)
             clear hK K;refine norm_ (a' := ?_) ?_ ?_;rotate_left
             ·show Act.put _ (some 16) _ = _
              simp only [Act.put, sIb, sC0, sCs, i64_w, i32_w];rfl
             refine pure_ (i := 2) (N := some 17) (v := ?_) (a' := ?_) #[true, true, true, false, false, false, false, false, false, false, false, false, false, false, false, false, false, false, false, false, false, false, false, false, false, false, false] rfl rfl (any_of HT_.out (by kernel_rfl)) (fun _ _ _ h => h) (Or.inl ⟨by rfl, ?_⟩) ?_ ?_;rotate_left;(intro w';go_simp;with_reducible rfl);rotate_left;(simp only [Act.put, sIb, sC0, sCs, i64_w, i32_w];rfl);refine pure_ (i := 3) (N := some 18) (v := ?_) (a' := ?_) #[true, true, true, true, false, false, false, false, false, false, false, false, false, false, false, false, false, false, false, false, false, false, false, false, false, false, false] rfl rfl (any_of HT_.out (by kernel_rfl)) (fun _ _ _ h => h) (Or.inl ⟨by rfl, ?_⟩) ?_ ?_;rotate_left;(intro w';go_simp;with_reducible rfl);rotate_left;(simp only [Act.put, sIb, sC0, sCs, i64_w, i32_w];rfl);refine pure_ (i := 4) (N := some 19) (v := ?_) (a' := ?_) #[true, true, true, true, true, false, false, false, false, false, false, false, false, false, false, false, false, false, false, false, false, false, false, false, false, false, false] rfl rfl (any_of HT_.out (by kernel_rfl)) (fun _ _ _ h => h) (Or.inl ⟨by rfl, ?_⟩) ?_ ?_;rotate_left;(intro w';go_simp;with_reducible rfl);rotate_left;(simp only [Act.put, sIb, sC0, sCs, i64_w, i32_w];rfl);refine pure_ (i := 5) (N := some 20) (v := ?_) (a' := ?_) #[true, true, true, true, true, true, false, false, false, false, false, false, false, false, false, false, false, false, false, false, false, false, false, false, false, false, false] rfl rfl (any_of HT_.out (by kernel_rfl)) (fun _ _ _ h => h) (Or.inl ⟨by rfl, ?_⟩) ?_ ?_;rotate_left;(intro w';go_simp;with_reducible rfl);rotate_left;(simp only [Act.put, sIb, sC0, sCs, i64_w, i32_w];rfl);refine pure_ (i := 6) (N := some 21) (v := ?_) (a' := ?_) #[true, true, true, true, true, true, true, false, false, false, false, false, false, false, false, false, false, false, false, false, false, false, false, false, false, false, false] rfl rfl (any_of HT_.out (by kernel_rfl)) (fun _ _ _ h => h) (Or.inl ⟨by rfl, ?_⟩) ?_ ?_;rotate_left;(intro w';go_simp;with_reducible rfl);rotate_left;(simp only [Act.put, sIb, sC0, sCs, i64_w, i32_w];rfl);refine pure_ (i := 7) (N := some 22) (v := ?_) (a' := ?_) #[true, true, true, true, true, true, true, true, false, false, false, false, false, false, false, false, false, false, false, false, false, false, false, false, false, false, false] rfl rfl (any_of HT_.out (by kernel_rfl)) (fun _ _ _ h => h) (Or.inl ⟨by rfl, ?_⟩) ?_ ?_;rotate_left;(intro w';go_simp;with_reducible rfl);rotate_left;(simp only [Act.put, sIb, sC0, sCs, i64_w, i32_w];rfl);refine pure_ (i := 9) (N := some 24) (v := ?_) (a' := ?_) #[true, true, true, true, true, true, true, true, false, true, false, false, false, false, false, false, false, false, false, false, false, false, false, false, false, false, false] rfl rfl (any_of HT_.out (by kernel_rfl)) (fun _ _ _ h => h) (Or.inl ⟨by rfl, ?_⟩) ?_ ?_;rotate_left;(intro w';go_simp;with_reducible rfl);rotate_left;(simp only [Act.put, sIb, sC0, sCs, i64_w, i32_w];rfl);refine pure_ (i := 10) (N := some 25) (v := ?_) (a' := ?_) #[true, true, true, true, true, true, true, true, false, true, true, false, false, false, false, false, false, false, false, false, false, false, false, false, false, false, false] rfl rfl (any_of HT_.out (by kernel_rfl)) (fun _ _ _ h => h) (Or.inl ⟨by rfl, ?_⟩) ?_ ?_;rotate_left;(intro w';go_simp;with_reducible rfl);rotate_left;(simp only [Act.put, sIb, sC0, sCs, i64_w, i32_w];rfl);refine pure_ (i := 11) (N := some 26) (v := ?_) (a' := ?_) #[true, true, true, true, true, true, true, true, false, true, true, true, false, false, false, false, false, false, false, false, false, false, false, false, false, false, false] rfl rfl (any_of HT_.out (by kernel_rfl)) (fun _ _ _ h => h) (Or.inl ⟨by rfl, ?_⟩) ?_ ?_;rotate_left;(intro w';go_simp;with_reducible rfl);rotate_left;(simp only [Act.put, sIb, sC0, sCs, i64_w, i32_w];rfl);refine pure_ (i := 12) (N := some 27) (v := ?_) (a' := ?_) #[true, true, true, true, true, true, true, true, false, true, true, true, true, false, false, false, false, false, false, false, false, false, false, false, false, false, false] rfl rfl (any_of HT_.out (by kernel_rfl)) (fun _ _ _ h => h) (Or.inl ⟨by rfl, ?_⟩) ?_ ?_;rotate_left;(intro w';go_simp;with_reducible rfl);rotate_left;(simp only [Act.put, sIb, sC0, sCs, i64_w, i32_w];rfl);refine take_ (i := 8) (N := some 23) (v := ?_) (a' := ?_) #[true, true, true, true, true, true, true, true, true, true, true, true, true, false, false, false, false, false, false, false, false, false, false, false, false, false, false] rfl rfl (take_ofW HT_.out HW_.out (by kernel_rfl)) (fun _ _ _ h => h) (Or.inl ⟨by rfl, ?_⟩) hHeld ?_ ?_;rotate_left
             ·rintro w' ⟨s0, s1, s2, s3, s4, s5, s6, s7, s8, s9, s10, s11⟩
              go_simp;with_reducible rfl
             rotate_left;(simp only [Act.put, sIb, sC0, sCs, i64_w, i32_w];rfl);refine take_ (i := 13) (N := some 28) (v := ?_) (a' := ?_) #[true, true, true, true, true, true, true, true, true, true, true, true, true, true, false, false, false, false, false, false, false, false, false, false, false, false, false] rfl rfl (take_ofW HT_.out HW_.out (by kernel_rfl)) (fun _ _ _ h => h) (Or.inl ⟨by rfl, ?_⟩) hHeld ?_ ?_;rotate_left
             ·rintro w' ⟨s0, s1, s2, s3, s4, s5, s6, s7, s8, s9, s10, s11⟩
              go_simp;with_reducible rfl
             rotate_left;(simp only [Act.put, sIb, sC0, sCs, i64_w, i32_w];rfl)
             refine one_ (i := 14) (N := some 29) #[true, true, true, true, true, true, true, true, true, true, true, true, true, true, true, false, false, false, false, false, false, false, false, false, false, false, false] rfl rfl (one_of HT_.out (by kernel_rfl)) (by decide) (fun K hK => ?_)
             refine goes_ Try.func35 (by kernel_rfl) rfl #[.agg #[.int .i64 ((rd_T24 l0 (ji9)).f0), .int .i64 ((rd_T24 l0 (ji9)).f1), .int .i64 ((rd_T24 l0 (ji9)).f2), .bool ((rd_T24 l0 (ji9)).f3)]] (by rfl) rfl rfl (by (try simp only [List.map_toArray, List.map_cons, List.map_nil]); first | done | (simp only [hji9]; rfl) | rfl | (simp only [List.length_drop, List.length_take]; rfl)) ?_
             with_reducible refine (extent_end.calls ((rd_T24 l0 (ji9)).f0) ((rd_T24 l0 (ji9)).f1) ((rd_T24 l0 (ji9)).f2) ((rd_T24 l0 (ji9)).f3) t115 _ A12.out).mono ?_
             rintro e w27 ⟨rfl, hb⟩
             refine ⟨_, rfl, ?_⟩
             have n0_ := Aside0.mk (blk_below (g := gb112) (o := .cells #[.int .i64 ((rd_T24 l0 x10_1).f0), .int .i64 ((rd_T24 l0 x10_1).f1), .int .i64 ((rd_T24 l0 x10_1).f2), .bool ((rd_T24 l0 x10_1).f3)] 24 (0, 0)) (by (with_reducible repeat (first | refine blk_drewN ?_ _ | refine blk_drew ?_ | refine blk_alloc ?_ _)); exact BK112.out) hb)
             have n1_ := Aside0.mk (below_step (by repeat (first | (with_reducible first | exact HB.out | apply below_alloc | apply pw_below_drewN | apply below_drew1 | refine below_set ?_ GE112.out) | exact HB.out)) hb)
             clear BK112;clear HB;have BK112 := n0_;have HB := n1_;clear n0_ n1_
             (try clear hb)
             (try clear hb2)
             (try clear hk)
             (try clear hi)
             refine hK.out _ _ ⟨(blk_cell BK112.out 0).trans rfl, (blk_cell BK112.out 1).trans rfl, (blk_cell BK112.out 2).trans rfl, (blk_cell BK112.out 3).trans rfl, ((HB.out.cell (World.block_lt_of_cell? w _ hw114_0)).trans hw114_0), ((HB.out.cell (World.block_lt_of_cell? w _ hw114_1)).trans hw114_1), ((HB.out.cell (World.block_lt_of_cell? w _ hw114_2)).trans hw114_2), ((HB.out.cell (World.block_lt_of_cell? w _ hw114_3)).trans hw114_3), ((HB.out.cell (World.block_lt_of_cell? w _ hw116_0)).trans hw116_0), ((HB.out.cell (World.block_lt_of_cell? w _ hw116_1)).trans hw116_1), ((HB.out.cell (World.block_lt_of_cell? w _ hw116_2)).trans hw116_2), ((HB.out.cell (World.block_lt_of_cell? w _ hw116_3)).trans hw116_3)⟩ (fun hHeld => ?_)
             clear hK K;refine norm_ (a' := ?_) ?_ ?_;rotate_left
             ·show Act.put _ (some 29) _ = _
              simp only [Act.put, sIb, sC0, sCs, i64_w, i32_w];rfl
             refine pure_ (i := 15) (N := some 30) (v := ?_) (a' := ?_) #[true, true, true, true, true, true, true, true, true, true, true, true, true, true, true, true, false, false, false, false, false, false, false, false, false, false, false] rfl rfl (any_of HT_.out (by kernel_rfl)) (fun _ _ _ h => h) (Or.inl ⟨by rfl, ?_⟩) ?_ ?_;rotate_left;(intro w';go_simp;with_reducible rfl);rotate_left;(simp only [Act.put, sIb, sC0, sCs, i64_w, i32_w];rfl);refine pure_ (i := 16) (N := some 31) (v := ?_) (a' := ?_) #[true, true, true, true, true, true, true, true, true, true, true, true, true, true, true, true, true, false, false, false, false, false, false, false, false, false, false] rfl rfl (any_of HT_.out (by kernel_rfl)) (fun _ _ _ h => h) (Or.inl ⟨by rfl, ?_⟩) ?_ ?_;rotate_left;(intro w';go_simp;with_reducible rfl);rotate_left;(simp only [Act.put, sIb, sC0, sCs, i64_w, i32_w];rfl);refine pure_ (i := 17) (N := some 32) (v := ?_) (a' := ?_) #[true, true, true, true, true, true, true, true, true, true, true, true, true, true, true, true, true, true, false, false, false, false, false, false, false, false, false] rfl rfl (any_of HT_.out (by kernel_rfl)) (fun _ _ _ h => h) (Or.inl ⟨by rfl, ?_⟩) ?_ ?_;rotate_left;(intro w';go_simp;with_reducible rfl);rotate_left;(simp only [Act.put, sIb, sC0, sCs, i64_w, i32_w];rfl);refine pure_ (i := 18) (N := some 33) (v := ?_) (a' := ?_) #[true, true, true, true, true, true, true, true, true, true, true, true, true, true, true, true, true, true, true, false, false, false, false, false, false, false, false] rfl rfl (any_of HT_.out (by kernel_rfl)) (fun _ _ _ h => h) (Or.inl ⟨by rfl, ?_⟩) ?_ ?_;rotate_left;(intro w';go_simp;with_reducible rfl);rotate_left;(simp only [Act.put, sIb, sC0, sCs, i64_w, i32_w];rfl);refine pure_ (i := 19) (N := some 34) (v := ?_) (a' := ?_) #[true, true, true, true, true, true, true, true, true, true, true, true, true, true, true, true, true, true, true, true, false, false, false, false, false, false, false] rfl rfl (any_of HT_.out (by kernel_rfl)) (fun _ _ _ h => h) (Or.inl ⟨by rfl, ?_⟩) ?_ ?_;rotate_left;(intro w';go_simp;with_reducible rfl);rotate_left;(simp only [Act.put, sIb, sC0, sCs, i64_w, i32_w];rfl);refine pure_ (i := 20) (N := some 35) (v := ?_) (a' := ?_) #[true, true, true, true, true, true, true, true, true, true, true, true, true, true, true, true, true, true, true, true, true, false, false, false, false, false, false] rfl rfl (any_of HT_.out (by kernel_rfl)) (fun _ _ _ h => h) (Or.inl ⟨by rfl, ?_⟩) ?_ ?_;rotate_left;(intro w';go_simp;with_reducible rfl);rotate_left;(simp only [Act.put, sIb, sC0, sCs, i64_w, i32_w];rfl);refine take_ (i := 21) (N := some 36) (v := ?_) (a' := ?_) #[true, true, true, true, true, true, true, true, true, true, true, true, true, true, true, true, true, true, true, true, true, true, false, false, false, false, false] rfl rfl (take_ofW HT_.out HW_.out (by kernel_rfl)) (fun _ _ _ h => h) (Or.inl ⟨by rfl, ?_⟩) hHeld ?_ ?_;rotate_left
             ·rintro w' ⟨s0, s1, s2, s3, s4, s5, s6, s7, s8, s9, s10, s11⟩
              go_simp;with_reducible rfl
             rotate_left;(simp only [Act.put, sIb, sC0, sCs, i64_w, i32_w];rfl);refine take_ (i := 22) (N := some 37) (v := ?_) (a' := ?_) #[true, true, true, true, true, true, true, true, true, true, true, true, true, true, true, true, true, true, true, true, true, true, true, false, false, false, false] rfl rfl (take_ofW HT_.out HW_.out (by kernel_rfl)) (fun _ _ _ h => h) (Or.inl ⟨by rfl, ?_⟩) hHeld ?_ ?_;rotate_left
             ·rintro w' ⟨s0, s1, s2, s3, s4, s5, s6, s7, s8, s9, s10, s11⟩
              go_simp;with_reducible rfl
             rotate_left;(simp only [Act.put, sIb, sC0, sCs, i64_w, i32_w];rfl)
             refine one_ (i := 23) (N := some 38) #[true, true, true, true, true, true, true, true, true, true, true, true, true, true, true, true, true, true, true, true, true, true, true, true, false, false, false] rfl rfl (one_of HT_.out (by kernel_rfl)) (by decide) (fun K hK => ?_)
             refine goes_ Try.func36 (by kernel_rfl) rfl #[.agg #[.int .i64 ((rd_T24 l0 (ji9)).f0), .int .i64 ((rd_T24 l0 (ji9)).f1), .int .i64 ((rd_T24 l0 (ji9)).f2), .bool ((rd_T24 l0 (ji9)).f3)], .agg #[.int .i64 ((rd_T24 l0 x10_1).f0), .int .i64 ((rd_T24 l0 x10_1).f1), .int .i64 ((rd_T24 l0 x10_1).f2), .bool ((rd_T24 l0 x10_1).f3)]] (by rfl) rfl rfl (by (try simp only [List.map_toArray, List.map_cons, List.map_nil]); first | done | (simp only [hji9]; rfl) | rfl | (simp only [List.length_drop, List.length_take]; rfl)) ?_
             with_reducible refine (extent_goes.calls ((rd_T24 l0 (ji9)).f0) ((rd_T24 l0 (ji9)).f1) ((rd_T24 l0 (ji9)).f2) ((rd_T24 l0 (ji9)).f3) ((rd_T24 l0 x10_1).f0) ((rd_T24 l0 x10_1).f1) ((rd_T24 l0 x10_1).f2) ((rd_T24 l0 x10_1).f3) true _ A20.out).mono ?_
             rintro e w28 ⟨rfl, hb⟩
             refine ⟨_, rfl, ?_⟩
             have n0_ := Aside0.mk (blk_below (g := gb112) (o := .cells #[.int .i64 ((rd_T24 l0 x10_1).f0), .int .i64 ((rd_T24 l0 x10_1).f1), .int .i64 ((rd_T24 l0 x10_1).f2), .bool ((rd_T24 l0 x10_1).f3)] 24 (0, 0)) (by (with_reducible repeat (first | refine blk_drewN ?_ _ | refine blk_drew ?_ | refine blk_alloc ?_ _)); exact BK112.out) hb)
             have n1_ := Aside0.mk (below_step (by repeat (first | (with_reducible first | exact HB.out | apply below_alloc | apply pw_below_drewN | apply below_drew1 | refine below_set ?_ GE112.out) | exact HB.out)) hb)
             clear BK112;clear HB;have BK112 := n0_;have HB := n1_;clear n0_ n1_
             (try clear hb)
             (try clear hb2)
             (try clear hk)
             (try clear hi)
             refine hK.out _ _ ⟨(blk_cell BK112.out 0).trans rfl, (blk_cell BK112.out 1).trans rfl, (blk_cell BK112.out 2).trans rfl, (blk_cell BK112.out 3).trans rfl, ((HB.out.cell (World.block_lt_of_cell? w _ hw114_0)).trans hw114_0), ((HB.out.cell (World.block_lt_of_cell? w _ hw114_1)).trans hw114_1), ((HB.out.cell (World.block_lt_of_cell? w _ hw114_2)).trans hw114_2), ((HB.out.cell (World.block_lt_of_cell? w _ hw114_3)).trans hw114_3), ((HB.out.cell (World.block_lt_of_cell? w _ hw116_0)).trans hw116_0), ((HB.out.cell (World.block_lt_of_cell? w _ hw116_1)).trans hw116_1), ((HB.out.cell (World.block_lt_of_cell? w _ hw116_2)).trans hw116_2), ((HB.out.cell (World.block_lt_of_cell? w _ hw116_3)).trans hw116_3)⟩ (fun hHeld => ?_)
             clear hK K;refine norm_ (a' := ?_) ?_ ?_;rotate_left
             ·show Act.put _ (some 38) _ = _
              simp only [Act.put, sIb, sC0, sCs, i64_w, i32_w];rfl
             refine pure_ (i := 24) (N := some 39) (v := ?_) (a' := ?_) #[true, true, true, true, true, true, true, true, true, true, true, true, true, true, true, true, true, true, true, true, true, true, true, true, true, false, false] rfl rfl (any_of HT_.out (by kernel_rfl)) (fun _ _ _ h => h) (Or.inl ⟨by rfl, ?_⟩) ?_ ?_;rotate_left;(intro w';go_simp;with_reducible rfl);rotate_left;(simp only [Act.put, sIb, sC0, sCs, i64_w, i32_w];rfl);refine pure_ (i := 25) (N := some 40) (v := ?_) (a' := ?_) #[true, true, true, true, true, true, true, true, true, true, true, true, true, true, true, true, true, true, true, true, true, true, true, true, true, true, false] rfl rfl (any_of HT_.out (by kernel_rfl)) (fun _ _ _ h => h) (Or.inl ⟨by rfl, ?_⟩) ?_ ?_;rotate_left;(intro w';go_simp;with_reducible rfl);rotate_left;(simp only [Act.put, sIb, sC0, sCs, i64_w, i32_w];rfl);refine pure_ (i := 26) (N := some 41) (v := ?_) (a' := ?_) #[true, true, true, true, true, true, true, true, true, true, true, true, true, true, true, true, true, true, true, true, true, true, true, true, true, true, true] rfl rfl (any_of HT_.out (by kernel_rfl)) (fun _ _ _ h => h) (Or.inl ⟨by rfl, ?_⟩) ?_ ?_;rotate_left;(intro w';go_simp;with_reducible rfl);rotate_left;(simp only [Act.put, sIb, sC0, sCs, i64_w, i32_w];rfl)
             refine done_ (done_of HT_.out (by kernel_rfl)) ?_
             try go_wp2
             go_ret
             exact ⟨by first | rfl | (simp [errW_none, errW_some] <;> rfl) | (simp only [← hji9]; first | rfl | (simp [errW_none, errW_some] <;> rfl)) | (simp [*, errW_none, errW_some] <;> rfl), by repeat (first | (with_reducible first | exact HB.out | apply below_alloc | apply pw_below_drewN | apply below_drew1 | refine below_set ?_ GE112.out) | exact HB.out)⟩
            ·replace c21 := Bool.eq_false_iff.mpr c21
             subst c21
             have H1 : (extent_Check.l0 k1 l0 l0 (l0.length : Int) (wrap64 (x10_1 + 1))) = some r := by rw [if_neg (show ¬ (false = true) by decide)] at H; exact H
             clear H;have H := H1;clear H1
             have H' := Aside0.mk H
             clear H
             have p111 : 0 ≤ (x10_1 : Int) := of_decide_eq_true (by first | (with_reducible assumption) | assumption)
             have q111 : x10_1 < (l0.length : Int) := of_decide_eq_true (by first | (with_reducible assumption) | assumption)
             obtain ⟨ad111, e111, hx111_0, hx111_1, hx111_2, hx111_3⟩ := at_T24 HR0.out x10_1 p111 q111
             cases e111
             replace hx111_0 := (HB.out.cell (World.block_lt_of_cell? w _ hx111_0)).trans hx111_0
             replace hx111_1 := (HB.out.cell (World.block_lt_of_cell? w _ hx111_1)).trans hx111_1
             replace hx111_2 := (HB.out.cell (World.block_lt_of_cell? w _ hx111_2)).trans hx111_2
             replace hx111_3 := (HB.out.cell (World.block_lt_of_cell? w _ hx111_3)).trans hx111_3
             replace p111 := eq_true p111;replace q111 := eq_true q111
             try go_wp2_with (first | ((with_reducible refine gate_dst (N := 4) rfl ?_); refine box_event ?hg (N := 4) ?hd (cs := #[.int .i64 0, .int .i64 0, .int .i64 0, .bool false]) (t := 24) ?hr ?_; (case hd => rfl); (case hg => rfl); (case hr => first | (go_simp; done) | (go_simp; rfl)); intro gb112 hg w29 hbox hb; have n0_ := Aside0.mk (below_step (by repeat (first | (with_reducible first | exact HB.out | apply below_alloc | apply pw_below_drewN | apply below_drew1) | exact HB.out)) hb); have n1_ := Aside0.mk (hbox); have n2_ := Aside0.mk ((by rw [hg]; exact (below_size (by repeat (first | (with_reducible first | exact HB.out | apply below_alloc | apply pw_below_drewN | apply below_drew1) | exact HB.out))) : w.heap.size ≤ gb112)); have n3_ := Aside0.mk ((by rw [hg]; exact (below_size (by repeat (first | (with_reducible first | exact HB.out | apply below_alloc | apply pw_below_drewN | apply below_drew1) | exact HB.out))) : w.heap.size ≤ gb112)); clear HB; have HB := n0_; have BK112 := n1_; have GW112 := n2_; have GE112 := n3_; clear n0_ n1_ n2_ n3_; clear hb hbox hg; have hcz30_0 : w29.cell? ⟨gb112, 0, none⟩ = some (.int .i64 0) := (blk_cell BK112.out 0).trans rfl; have hcz30_1 : w29.cell? ⟨gb112, 1, none⟩ = some (.int .i64 0) := (blk_cell BK112.out 1).trans rfl; have hcz30_2 : w29.cell? ⟨gb112, 2, none⟩ = some (.int .i64 0) := (blk_cell BK112.out 2).trans rfl; have hcz30_3 : w29.cell? ⟨gb112, 3, none⟩ = some (.bool false) := (blk_cell BK112.out 3).trans rfl; have hfz30_0 := blk_frozen BK112.out 0; have hfz30_1 := blk_frozen BK112.out 1; have hfz30_2 := blk_frozen BK112.out 2; have hfz30_3 := blk_frozen BK112.out 3))
             have n0_ : Aside0 (((((w29.setCell ⟨gb112, 0, none⟩ (.int .i64 ((rd_T24 l0 x10_1).f0))).setCell ⟨gb112, 1, none⟩ (.int .i64 ((rd_T24 l0 x10_1).f1))).setCell ⟨gb112, 2, none⟩ (.int .i64 ((rd_T24 l0 x10_1).f2))).setCell ⟨gb112, 3, none⟩ (.bool ((rd_T24 l0 x10_1).f3))).heap[gb112]? = some (.cells #[.int .i64 ((rd_T24 l0 x10_1).f0), .int .i64 ((rd_T24 l0 x10_1).f1), .int .i64 ((rd_T24 l0 x10_1).f2), .bool ((rd_T24 l0 x10_1).f3)] 24 (0, 0))) := ⟨by (with_reducible repeat (first | refine blk_drewN ?_ _ | refine blk_drew ?_ | refine blk_alloc ?_ _)); refine blk_put (cs := #[.int .i64 ((rd_T24 l0 x10_1).f0), .int .i64 ((rd_T24 l0 x10_1).f1), .int .i64 ((rd_T24 l0 x10_1).f2), .bool false]) ?_ 3 _ rfl; (with_reducible repeat (first | refine blk_drewN ?_ _ | refine blk_drew ?_ | refine blk_alloc ?_ _)); refine blk_put (cs := #[.int .i64 ((rd_T24 l0 x10_1).f0), .int .i64 ((rd_T24 l0 x10_1).f1), .int .i64 0, .bool false]) ?_ 2 _ rfl; (with_reducible repeat (first | refine blk_drewN ?_ _ | refine blk_drew ?_ | refine blk_alloc ?_ _)); refine blk_put (cs := #[.int .i64 ((rd_T24 l0 x10_1).f0), .int .i64 0, .int .i64 0, .bool false]) ?_ 1 _ rfl; (with_reducible repeat (first | refine blk_drewN ?_ _ | refine blk_drew ?_ | refine blk_alloc ?_ _)); refine blk_put (cs := #[.int .i64 0, .int .i64 0, .int .i64 0, .bool false]) ?_ 0 _ rfl; (with_reducible repeat (first | refine blk_drewN ?_ _ | refine blk_drew ?_ | refine blk_alloc ?_ _)); exact BK112.out⟩
             have n1_ : Aside0 (Below w.heap.size w ((((w29.setCell ⟨gb112, 0, none⟩ (.int .i64 ((rd_T24 l0 x10_1).f0))).setCell ⟨gb112, 1, none⟩ (.int .i64 ((rd_T24 l0 x10_1).f1))).setCell ⟨gb112, 2, none⟩ (.int .i64 ((rd_T24 l0 x10_1).f2))).setCell ⟨gb112, 3, none⟩ (.bool ((rd_T24 l0 x10_1).f3)))) := ⟨by repeat (first | (with_reducible first | exact HB.out | apply below_alloc | apply pw_below_drewN | apply below_drew1 | refine below_set ?_ GE112.out) | exact HB.out)⟩
             (try clear BK112)
             (try clear HB)
             generalize ((((w29.setCell ⟨gb112, 0, none⟩ (.int .i64 ((rd_T24 l0 x10_1).f0))).setCell ⟨gb112, 1, none⟩ (.int .i64 ((rd_T24 l0 x10_1).f1))).setCell ⟨gb112, 2, none⟩ (.int .i64 ((rd_T24 l0 x10_1).f2))).setCell ⟨gb112, 3, none⟩ (.bool ((rd_T24 l0 x10_1).f3))) = w31 at n0_ n1_ ⊢
             have BK112 := n0_;have HB := n1_;clear n0_ n1_
             have n0_ := Aside0.mk (blk_drew BK112.out)
             have n1_ := Aside0.mk (below_drew1 HB.out)
             clear BK112;clear HB;have BK112 := n0_;have HB := n1_;clear n0_ n1_
             have p114 : 0 ≤ ((ji9) : Int) := of_decide_eq_true (by first | (with_reducible assumption) | assumption)
             have q114 : (ji9) < (l0.length : Int) := of_decide_eq_true (by first | (with_reducible assumption) | assumption)
             obtain ⟨ad114, e114, hx114_0, hx114_1, hx114_2, hx114_3⟩ := at_T24 HR0.out (ji9) p114 q114
             have hw114_3 := hx114_3;have hw114_2 := hx114_2;have hw114_1 := hx114_1;have hw114_0 := hx114_0
             obtain rfl : ad111 = ad114 := (by injection e114)
             replace hx114_0 := (HB.out.cell (World.block_lt_of_cell? w _ hx114_0)).trans hx114_0
             replace hx114_1 := (HB.out.cell (World.block_lt_of_cell? w _ hx114_1)).trans hx114_1
             replace hx114_2 := (HB.out.cell (World.block_lt_of_cell? w _ hx114_2)).trans hx114_2
             replace hx114_3 := (HB.out.cell (World.block_lt_of_cell? w _ hx114_3)).trans hx114_3
             replace p114 := eq_true p114;replace q114 := eq_true q114
             have p116 : 0 ≤ ((ji9) : Int) := of_decide_eq_true (by first | (with_reducible assumption) | assumption)
             have q116 : (ji9) < (l0.length : Int) := of_decide_eq_true (by first | (with_reducible assumption) | assumption)
             obtain ⟨ad116, e116, hx116_0, hx116_1, hx116_2, hx116_3⟩ := at_T24 HR0.out (ji9) p116 q116
             have hw116_3 := hx116_3;have hw116_2 := hx116_2;have hw116_1 := hx116_1;have hw116_0 := hx116_0
             obtain rfl : ad111 = ad116 := (by injection e116)
             replace hx116_0 := (HB.out.cell (World.block_lt_of_cell? w _ hx116_0)).trans hx116_0
             replace hx116_1 := (HB.out.cell (World.block_lt_of_cell? w _ hx116_1)).trans hx116_1
             replace hx116_2 := (HB.out.cell (World.block_lt_of_cell? w _ hx116_2)).trans hx116_2
             replace hx116_3 := (HB.out.cell (World.block_lt_of_cell? w _ hx116_3)).trans hx116_3
             replace p116 := eq_true p116;replace q116 := eq_true q116
             refine start_ (n := 27) (S := fun w' => w'.cell? ⟨gb112, 0, none⟩ = some (.int .i64 ((rd_T24 l0 x10_1).f0)) ∧ w'.cell? ⟨gb112, 1, none⟩ = some (.int .i64 ((rd_T24 l0 x10_1).f1)) ∧ w'.cell? ⟨gb112, 2, none⟩ = some (.int .i64 ((rd_T24 l0 x10_1).f2)) ∧ w'.cell? ⟨gb112, 3, none⟩ = some (.bool ((rd_T24 l0 x10_1).f3)) ∧ w'.cell? (ad111.add (((ji9)).toNat * 4)) = some (.int .i64 ((rd_T24 l0 (ji9)).f0)) ∧ w'.cell? ⟨(ad111.add (((ji9)).toNat * 4)).block, (ad111.add (((ji9)).toNat * 4)).off + 1, none⟩ = some (.int .i64 ((rd_T24 l0 (ji9)).f1)) ∧ w'.cell? ⟨(ad111.add (((ji9)).toNat * 4)).block, (ad111.add (((ji9)).toNat * 4)).off + 2, none⟩ = some (.int .i64 ((rd_T24 l0 (ji9)).f2)) ∧ w'.cell? ⟨(ad111.add (((ji9)).toNat * 4)).block, (ad111.add (((ji9)).toNat * 4)).off + 3, none⟩ = some (.bool ((rd_T24 l0 (ji9)).f3)) ∧ w'.cell? (ad111.add (((ji9)).toNat * 4)) = some (.int .i64 ((rd_T24 l0 (ji9)).f0)) ∧ w'.cell? ⟨(ad111.add (((ji9)).toNat * 4)).block, (ad111.add (((ji9)).toNat * 4)).off + 1, none⟩ = some (.int .i64 ((rd_T24 l0 (ji9)).f1)) ∧ w'.cell? ⟨(ad111.add (((ji9)).toNat * 4)).block, (ad111.add (((ji9)).toNat * 4)).off + 2, none⟩ = some (.int .i64 ((rd_T24 l0 (ji9)).f2)) ∧ w'.cell? ⟨(ad111.add (((ji9)).toNat * 4)).block, (ad111.add (((ji9)).toNat * 4)).off + 3, none⟩ = some (.bool ((rd_T24 l0 (ji9)).f3))) (ds := []) #[false, false, false, false, false, false, false, false, false, false, false, false, false, false, false, false, false, false, false, false, false, false, false, false, false, false, false] (by kernel_rfl) rfl rfl ⟨(blk_cell BK112.out 0).trans rfl, (blk_cell BK112.out 1).trans rfl, (blk_cell BK112.out 2).trans rfl, (blk_cell BK112.out 3).trans rfl, ((HB.out.cell (World.block_lt_of_cell? w _ hw114_0)).trans hw114_0), ((HB.out.cell (World.block_lt_of_cell? w _ hw114_1)).trans hw114_1), ((HB.out.cell (World.block_lt_of_cell? w _ hw114_2)).trans hw114_2), ((HB.out.cell (World.block_lt_of_cell? w _ hw114_3)).trans hw114_3), ((HB.out.cell (World.block_lt_of_cell? w _ hw116_0)).trans hw116_0), ((HB.out.cell (World.block_lt_of_cell? w _ hw116_1)).trans hw116_1), ((HB.out.cell (World.block_lt_of_cell? w _ hw116_2)).trans hw116_2), ((HB.out.cell (World.block_lt_of_cell? w _ hw116_3)).trans hw116_3)⟩ (fun hHeld => ?_); refine with_tabW extent_Check.tab6 extent_Check.bits6 (fun HT_ HW_ => ?_)
             generalize w31.drew = w32 at BK112 HB hx114_0 hx114_1 hx114_2 hx114_3 hx116_0 hx116_1 hx116_2 hx116_3 hHeld ⊢
             refine take_ (i := 0) (N := some 15) (v := ?_) (a' := ?_) #[true, false, false, false, false, false, false, false, false, false, false, false, false, false, false, false, false, false, false, false, false, false, false, false, false, false, false] rfl rfl (take_ofW HT_.out HW_.out (by kernel_rfl)) (fun _ _ _ h => h) (Or.inl ⟨by rfl, ?_⟩) hHeld ?_ ?_;rotate_left
             ·rintro w' ⟨s0, s1, s2, s3, s4, s5, s6, s7, s8, s9, s10, s11⟩
              go_simp;with_reducible rfl
             rotate_left;(simp only [Act.put, sIb, sC0, sCs, i64_w, i32_w];rfl)
             refine one_ (i := 1) (N := some 16) #[true, true, false, false, false, false, false, false, false, false, false, false, false, false, false, false, false, false, false, false, false, false, false, false, false, false, false] rfl rfl (one_of HT_.out (by kernel_rfl)) (by decide) (fun K hK => ?_)
             refine goes_ Try.func34 (by kernel_rfl) rfl #[.agg #[.int .i64 ((rd_T24 l0 x10_1).f0), .int .i64 ((rd_T24 l0 x10_1).f1), .int .i64 ((rd_T24 l0 x10_1).f2), .bool ((rd_T24 l0 x10_1).f3)]] (by rfl) rfl rfl (by (try simp only [List.map_toArray, List.map_cons, List.map_nil]); first | done | rfl | (simp only [List.length_drop, List.length_take]; rfl)) ?_
             with_reducible refine (extent_may.calls ((rd_T24 l0 x10_1).f0) ((rd_T24 l0 x10_1).f1) ((rd_T24 l0 x10_1).f2) ((rd_T24 l0 x10_1).f3) true _ A6.out).mono ?_
             rintro e w33 ⟨rfl, hb⟩
             refine ⟨_, rfl, ?_⟩
             have n0_ := Aside0.mk (blk_below (g := gb112) (o := .cells #[.int .i64 ((rd_T24 l0 x10_1).f0), .int .i64 ((rd_T24 l0 x10_1).f1), .int .i64 ((rd_T24 l0 x10_1).f2), .bool ((rd_T24 l0 x10_1).f3)] 24 (0, 0)) (by (with_reducible repeat (first | refine blk_drewN ?_ _ | refine blk_drew ?_ | refine blk_alloc ?_ _)); exact BK112.out) hb)
             have n1_ := Aside0.mk (below_step (by repeat (first | (with_reducible first | exact HB.out | apply below_alloc | apply pw_below_drewN | apply below_drew1 | refine below_set ?_ GE112.out) | exact HB.out)) hb)
             clear BK112;clear HB;have BK112 := n0_;have HB := n1_;clear n0_ n1_
             (try clear hb)
             (try clear hb2)
             (try clear hk)
             (try clear hi)
             refine hK.out _ _ ⟨(blk_cell BK112.out 0).trans rfl, (blk_cell BK112.out 1).trans rfl, (blk_cell BK112.out 2).trans rfl, (blk_cell BK112.out 3).trans rfl, ((HB.out.cell (World.block_lt_of_cell? w _ hw114_0)).trans hw114_0), ((HB.out.cell (World.block_lt_of_cell? w _ hw114_1)).trans hw114_1), ((HB.out.cell (World.block_lt_of_cell? w _ hw114_2)).trans hw114_2), ((HB.out.cell (World.block_lt_of_cell? w _ hw114_3)).trans hw114_3), ((HB.out.cell (World.block_lt_of_cell? w _ hw116_0)).trans hw116_0), ((HB.out.cell (World.block_lt_of_cell? w _ hw116_1)).trans hw116_1), ((HB.out.cell (World.block_lt_of_cell? w _ hw116_2)).trans hw116_2), ((HB.out.cell (World.block_lt_of_cell? w _ hw116_3)).trans hw116_3)⟩ (fun hHeld => ?_)
             clear hK K;refine norm_ (a' := ?_) ?_ ?_;rotate_left
             ·show Act.put _ (some 16) _ = _
              simp only [Act.put, sIb, sC0, sCs, i64_w, i32_w];rfl
             refine pure_ (i := 2) (N := some 17) (v := ?_) (a' := ?_) #[true, true, true, false, false, false, false, false, false, false, false, false, false, false, false, false, false, false, false, false, false, false, false, false, false, false, false] rfl rfl (any_of HT_.out (by kernel_rfl)) (fun _ _ _ h => h) (Or.inl ⟨by rfl, ?_⟩) ?_ ?_;rotate_left;(intro w';go_simp;with_reducible rfl);rotate_left;(simp only [Act.put, sIb, sC0, sCs, i64_w, i32_w];rfl);refine pure_ (i := 3) (N := some 18) (v := ?_) (a' := ?_) #[true, true, true, true, false, false, false, false, false, false, false, false, false, false, false, false, false, false, false, false, false, false, false, false, false, false, false] rfl rfl (any_of HT_.out (by kernel_rfl)) (fun _ _ _ h => h) (Or.inl ⟨by rfl, ?_⟩) ?_ ?_;rotate_left;(intro w';go_simp;with_reducible rfl);rotate_left;(simp only [Act.put, sIb, sC0, sCs, i64_w, i32_w];rfl);refine pure_ (i := 4) (N := some 19) (v := ?_) (a' := ?_) #[true, true, true, true, true, false, false, false, false, false, false, false, false, false, false, false, false, false, false, false, false, false, false, false, false, false, false] rfl rfl (any_of HT_.out (by kernel_rfl)) (fun _ _ _ h => h) (Or.inl ⟨by rfl, ?_⟩) ?_ ?_;rotate_left;(intro w';go_simp;with_reducible rfl);rotate_left;(simp only [Act.put, sIb, sC0, sCs, i64_w, i32_w];rfl);refine pure_ (i := 5) (N := some 20) (v := ?_) (a' := ?_) #[true, true, true, true, true, true, false, false, false, false, false, false, false, false, false, false, false, false, false, false, false, false, false, false, false, false, false] rfl rfl (any_of HT_.out (by kernel_rfl)) (fun _ _ _ h => h) (Or.inl ⟨by rfl, ?_⟩) ?_ ?_;rotate_left;(intro w';go_simp;with_reducible rfl);rotate_left;(simp only [Act.put, sIb, sC0, sCs, i64_w, i32_w];rfl);refine pure_ (i := 6) (N := some 21) (v := ?_) (a' := ?_) #[true, true, true, true, true, true, true, false, false, false, false, false, false, false, false, false, false, false, false, false, false, false, false, false, false, false, false] rfl rfl (any_of HT_.out (by kernel_rfl)) (fun _ _ _ h => h) (Or.inl ⟨by rfl, ?_⟩) ?_ ?_;rotate_left;(intro w';go_simp;with_reducible rfl);rotate_left;(simp only [Act.put, sIb, sC0, sCs, i64_w, i32_w];rfl);refine pure_ (i := 7) (N := some 22) (v := ?_) (a' := ?_) #[true, true, true, true, true, true, true, true, false, false, false, false, false, false, false, false, false, false, false, false, false, false, false, false, false, false, false] rfl rfl (any_of HT_.out (by kernel_rfl)) (fun _ _ _ h => h) (Or.inl ⟨by rfl, ?_⟩) ?_ ?_;rotate_left;(intro w';go_simp;with_reducible rfl);rotate_left;(simp only [Act.put, sIb, sC0, sCs, i64_w, i32_w];rfl);refine pure_ (i := 9) (N := some 24) (v := ?_) (a' := ?_) #[true, true, true, true, true, true, true, true, false, true, false, false, false, false, false, false, false, false, false, false, false, false, false, false, false, false, false] rfl rfl (any_of HT_.out (by kernel_rfl)) (fun _ _ _ h => h) (Or.inl ⟨by rfl, ?_⟩) ?_ ?_;rotate_left;(intro w';go_simp;with_reducible rfl);rotate_left;(simp only [Act.put, sIb, sC0, sCs, i64_w, i32_w];rfl);refine pure_ (i := 10) (N := some 25) (v := ?_) (a' := ?_) #[true, true, true, true, true, true, true, true, false, true, true, false, false, false, false, false, false, false, false, false, false, false, false, false, false, false, false] rfl rfl (any_of HT_.out (by kernel_rfl)) (fun _ _ _ h => h) (Or.inl ⟨by rfl, ?_⟩) ?_ ?_;rotate_left;(intro w';go_simp;with_reducible rfl);rotate_left;(simp only [Act.put, sIb, sC0, sCs, i64_w, i32_w];rfl);refine pure_ (i := 11) (N := some 26) (v := ?_) (a' := ?_) #[true, true, true, true, true, true, true, true, false, true, true, true, false, false, false, false, false, false, false, false, false, false, false, false, false, false, false] rfl rfl (any_of HT_.out (by kernel_rfl)) (fun _ _ _ h => h) (Or.inl ⟨by rfl, ?_⟩) ?_ ?_;rotate_left;(intro w';go_simp;with_reducible rfl);rotate_left;(simp only [Act.put, sIb, sC0, sCs, i64_w, i32_w];rfl);refine pure_ (i := 12) (N := some 27) (v := ?_) (a' := ?_) #[true, true, true, true, true, true, true, true, false, true, true, true, true, false, false, false, false, false, false, false, false, false, false, false, false, false, false] rfl rfl (any_of HT_.out (by kernel_rfl)) (fun _ _ _ h => h) (Or.inl ⟨by rfl, ?_⟩) ?_ ?_;rotate_left;(intro w';go_simp;with_reducible rfl);rotate_left;(simp only [Act.put, sIb, sC0, sCs, i64_w, i32_w];rfl);refine take_ (i := 8) (N := some 23) (v := ?_) (a' := ?_) #[true, true, true, true, true, true, true, true, true, true, true, true, true, false, false, false, false, false, false, false, false, false, false, false, false, false, false] rfl rfl (take_ofW HT_.out HW_.out (by kernel_rfl)) (fun _ _ _ h => h) (Or.inl ⟨by rfl, ?_⟩) hHeld ?_ ?_;rotate_left
             ·rintro w' ⟨s0, s1, s2, s3, s4, s5, s6, s7, s8, s9, s10, s11⟩
              go_simp;with_reducible rfl
             rotate_left;(simp only [Act.put, sIb, sC0, sCs, i64_w, i32_w];rfl);refine take_ (i := 13) (N := some 28) (v := ?_) (a' := ?_) #[true, true, true, true, true, true, true, true, true, true, true, true, true, true, false, false, false, false, false, false, false, false, false, false, false, false, false] rfl rfl (take_ofW HT_.out HW_.out (by kernel_rfl)) (fun _ _ _ h => h) (Or.inl ⟨by rfl, ?_⟩) hHeld ?_ ?_;rotate_left
             ·rintro w' ⟨s0, s1, s2, s3, s4, s5, s6, s7, s8, s9, s10, s11⟩
              go_simp;with_reducible rfl
             rotate_left;(simp only [Act.put, sIb, sC0, sCs, i64_w, i32_w];rfl)
             refine one_ (i := 14) (N := some 29) #[true, true, true, true, true, true, true, true, true, true, true, true, true, true, true, false, false, false, false, false, false, false, false, false, false, false, false] rfl rfl (one_of HT_.out (by kernel_rfl)) (by decide) (fun K hK => ?_)
             refine goes_ Try.func35 (by kernel_rfl) rfl #[.agg #[.int .i64 ((rd_T24 l0 (ji9)).f0), .int .i64 ((rd_T24 l0 (ji9)).f1), .int .i64 ((rd_T24 l0 (ji9)).f2), .bool ((rd_T24 l0 (ji9)).f3)]] (by rfl) rfl rfl (by (try simp only [List.map_toArray, List.map_cons, List.map_nil]); first | done | (simp only [hji9]; rfl) | rfl | (simp only [List.length_drop, List.length_take]; rfl)) ?_
             with_reducible refine (extent_end.calls ((rd_T24 l0 (ji9)).f0) ((rd_T24 l0 (ji9)).f1) ((rd_T24 l0 (ji9)).f2) ((rd_T24 l0 (ji9)).f3) t115 _ A12.out).mono ?_
             rintro e w34 ⟨rfl, hb⟩
             refine ⟨_, rfl, ?_⟩
             have n0_ := Aside0.mk (blk_below (g := gb112) (o := .cells #[.int .i64 ((rd_T24 l0 x10_1).f0), .int .i64 ((rd_T24 l0 x10_1).f1), .int .i64 ((rd_T24 l0 x10_1).f2), .bool ((rd_T24 l0 x10_1).f3)] 24 (0, 0)) (by (with_reducible repeat (first | refine blk_drewN ?_ _ | refine blk_drew ?_ | refine blk_alloc ?_ _)); exact BK112.out) hb)
             have n1_ := Aside0.mk (below_step (by repeat (first | (with_reducible first | exact HB.out | apply below_alloc | apply pw_below_drewN | apply below_drew1 | refine below_set ?_ GE112.out) | exact HB.out)) hb)
             clear BK112;clear HB;have BK112 := n0_;have HB := n1_;clear n0_ n1_
             (try clear hb)
             (try clear hb2)
             (try clear hk)
             (try clear hi)
             refine hK.out _ _ ⟨(blk_cell BK112.out 0).trans rfl, (blk_cell BK112.out 1).trans rfl, (blk_cell BK112.out 2).trans rfl, (blk_cell BK112.out 3).trans rfl, ((HB.out.cell (World.block_lt_of_cell? w _ hw114_0)).trans hw114_0), ((HB.out.cell (World.block_lt_of_cell? w _ hw114_1)).trans hw114_1), ((HB.out.cell (World.block_lt_of_cell? w _ hw114_2)).trans hw114_2), ((HB.out.cell (World.block_lt_of_cell? w _ hw114_3)).trans hw114_3), ((HB.out.cell (World.block_lt_of_cell? w _ hw116_0)).trans hw116_0), ((HB.out.cell (World.block_lt_of_cell? w _ hw116_1)).trans hw116_1), ((HB.out.cell (World.block_lt_of_cell? w _ hw116_2)).trans hw116_2), ((HB.out.cell (World.block_lt_of_cell? w _ hw116_3)).trans hw116_3)⟩ (fun hHeld => ?_)
             clear hK K;refine norm_ (a' := ?_) ?_ ?_;rotate_left
             ·show Act.put _ (some 29) _ = _
              simp only [Act.put, sIb, sC0, sCs, i64_w, i32_w];rfl
             refine pure_ (i := 15) (N := some 30) (v := ?_) (a' := ?_) #[true, true, true, true, true, true, true, true, true, true, true, true, true, true, true, true, false, false, false, false, false, false, false, false, false, false, false] rfl rfl (any_of HT_.out (by kernel_rfl)) (fun _ _ _ h => h) (Or.inl ⟨by rfl, ?_⟩) ?_ ?_;rotate_left;(intro w';go_simp;with_reducible rfl);rotate_left;(simp only [Act.put, sIb, sC0, sCs, i64_w, i32_w];rfl);refine pure_ (i := 16) (N := some 31) (v := ?_) (a' := ?_) #[true, true, true, true, true, true, true, true, true, true, true, true, true, true, true, true, true, false, false, false, false, false, false, false, false, false, false] rfl rfl (any_of HT_.out (by kernel_rfl)) (fun _ _ _ h => h) (Or.inl ⟨by rfl, ?_⟩) ?_ ?_;rotate_left;(intro w';go_simp;with_reducible rfl);rotate_left;(simp only [Act.put, sIb, sC0, sCs, i64_w, i32_w];rfl);refine pure_ (i := 17) (N := some 32) (v := ?_) (a' := ?_) #[true, true, true, true, true, true, true, true, true, true, true, true, true, true, true, true, true, true, false, false, false, false, false, false, false, false, false] rfl rfl (any_of HT_.out (by kernel_rfl)) (fun _ _ _ h => h) (Or.inl ⟨by rfl, ?_⟩) ?_ ?_;rotate_left;(intro w';go_simp;with_reducible rfl);rotate_left;(simp only [Act.put, sIb, sC0, sCs, i64_w, i32_w];rfl);refine pure_ (i := 18) (N := some 33) (v := ?_) (a' := ?_) #[true, true, true, true, true, true, true, true, true, true, true, true, true, true, true, true, true, true, true, false, false, false, false, false, false, false, false] rfl rfl (any_of HT_.out (by kernel_rfl)) (fun _ _ _ h => h) (Or.inl ⟨by rfl, ?_⟩) ?_ ?_;rotate_left;(intro w';go_simp;with_reducible rfl);rotate_left;(simp only [Act.put, sIb, sC0, sCs, i64_w, i32_w];rfl);refine pure_ (i := 19) (N := some 34) (v := ?_) (a' := ?_) #[true, true, true, true, true, true, true, true, true, true, true, true, true, true, true, true, true, true, true, true, false, false, false, false, false, false, false] rfl rfl (any_of HT_.out (by kernel_rfl)) (fun _ _ _ h => h) (Or.inl ⟨by rfl, ?_⟩) ?_ ?_;rotate_left;(intro w';go_simp;with_reducible rfl);rotate_left;(simp only [Act.put, sIb, sC0, sCs, i64_w, i32_w];rfl);refine pure_ (i := 20) (N := some 35) (v := ?_) (a' := ?_) #[true, true, true, true, true, true, true, true, true, true, true, true, true, true, true, true, true, true, true, true, true, false, false, false, false, false, false] rfl rfl (any_of HT_.out (by kernel_rfl)) (fun _ _ _ h => h) (Or.inl ⟨by rfl, ?_⟩) ?_ ?_;rotate_left;(intro w';go_simp;with_reducible rfl);rotate_left;(simp only [Act.put, sIb, sC0, sCs, i64_w, i32_w];rfl);refine take_ (i := 21) (N := some 36) (v := ?_) (a' := ?_) #[true, true, true, true, true, true, true, true, true, true, true, true, true, true, true, true, true, true, true, true, true, true, false, false, false, false, false] rfl rfl (take_ofW HT_.out HW_.out (by kernel_rfl)) (fun _ _ _ h => h) (Or.inl ⟨by rfl, ?_⟩) hHeld ?_ ?_;rotate_left
             ·rintro w' ⟨s0, s1, s2, s3, s4, s5, s6, s7, s8, s9, s10, s11⟩
              go_simp;with_reducible rfl
             rotate_left;(simp only [Act.put, sIb, sC0, sCs, i64_w, i32_w];rfl);refine take_ (i := 22) (N := some 37) (v := ?_) (a' := ?_) #[true, true, true, true, true, true, true, true, true, true, true, true, true, true, true, true, true, true, true, true, true, true, true, false, false, false, false] rfl rfl (take_ofW HT_.out HW_.out (by kernel_rfl)) (fun _ _ _ h => h) (Or.inl ⟨by rfl, ?_⟩) hHeld ?_ ?_;rotate_left
             ·rintro w' ⟨s0, s1, s2, s3, s4, s5, s6, s7, s8, s9, s10, s11⟩
              go_simp;with_reducible rfl
             rotate_left;(simp only [Act.put, sIb, sC0, sCs, i64_w, i32_w];rfl)
             refine one_ (i := 23) (N := some 38) #[true, true, true, true, true, true, true, true, true, true, true, true, true, true, true, true, true, true, true, true, true, true, true, true, false, false, false] rfl rfl (one_of HT_.out (by kernel_rfl)) (by decide) (fun K hK => ?_)
             refine goes_ Try.func36 (by kernel_rfl) rfl #[.agg #[.int .i64 ((rd_T24 l0 (ji9)).f0), .int .i64 ((rd_T24 l0 (ji9)).f1), .int .i64 ((rd_T24 l0 (ji9)).f2), .bool ((rd_T24 l0 (ji9)).f3)], .agg #[.int .i64 ((rd_T24 l0 x10_1).f0), .int .i64 ((rd_T24 l0 x10_1).f1), .int .i64 ((rd_T24 l0 x10_1).f2), .bool ((rd_T24 l0 x10_1).f3)]] (by rfl) rfl rfl (by (try simp only [List.map_toArray, List.map_cons, List.map_nil]); first | done | (simp only [hji9]; rfl) | rfl | (simp only [List.length_drop, List.length_take]; rfl)) ?_
             with_reducible refine (extent_goes.calls ((rd_T24 l0 (ji9)).f0) ((rd_T24 l0 (ji9)).f1) ((rd_T24 l0 (ji9)).f2) ((rd_T24 l0 (ji9)).f3) ((rd_T24 l0 x10_1).f0) ((rd_T24 l0 x10_1).f1) ((rd_T24 l0 x10_1).f2) ((rd_T24 l0 x10_1).f3) false _ A20.out).mono ?_
             rintro e w35 ⟨rfl, hb⟩
             refine ⟨_, rfl, ?_⟩
             have n0_ := Aside0.mk (blk_below (g := gb112) (o := .cells #[.int .i64 ((rd_T24 l0 x10_1).f0), .int .i64 ((rd_T24 l0 x10_1).f1), .int .i64 ((rd_T24 l0 x10_1).f2), .bool ((rd_T24 l0 x10_1).f3)] 24 (0, 0)) (by (with_reducible repeat (first | refine blk_drewN ?_ _ | refine blk_drew ?_ | refine blk_alloc ?_ _)); exact BK112.out) hb)
             have n1_ := Aside0.mk (below_step (by repeat (first | (with_reducible first | exact HB.out | apply below_alloc | apply pw_below_drewN | apply below_drew1 | refine below_set ?_ GE112.out) | exact HB.out)) hb)
             clear BK112;clear HB;have BK112 := n0_;have HB := n1_;clear n0_ n1_
             (try clear hb)
             (try clear hb2)
             (try clear hk)
             (try clear hi)
             refine hK.out _ _ ⟨(blk_cell BK112.out 0).trans rfl, (blk_cell BK112.out 1).trans rfl, (blk_cell BK112.out 2).trans rfl, (blk_cell BK112.out 3).trans rfl, ((HB.out.cell (World.block_lt_of_cell? w _ hw114_0)).trans hw114_0), ((HB.out.cell (World.block_lt_of_cell? w _ hw114_1)).trans hw114_1), ((HB.out.cell (World.block_lt_of_cell? w _ hw114_2)).trans hw114_2), ((HB.out.cell (World.block_lt_of_cell? w _ hw114_3)).trans hw114_3), ((HB.out.cell (World.block_lt_of_cell? w _ hw116_0)).trans hw116_0), ((HB.out.cell (World.block_lt_of_cell? w _ hw116_1)).trans hw116_1), ((HB.out.cell (World.block_lt_of_cell? w _ hw116_2)).trans hw116_2), ((HB.out.cell (World.block_lt_of_cell? w _ hw116_3)).trans hw116_3)⟩ (fun hHeld => ?_)
             clear hK K;refine norm_ (a' := ?_) ?_ ?_;rotate_left
             ·show Act.put _ (some 38) _ = _
              simp only [Act.put, sIb, sC0, sCs, i64_w, i32_w];rfl
             refine pure_ (i := 24) (N := some 39) (v := ?_) (a' := ?_) #[true, true, true, true, true, true, true, true, true, true, true, true, true, true, true, true, true, true, true, true, true, true, true, true, true, false, false] rfl rfl (any_of HT_.out (by kernel_rfl)) (fun _ _ _ h => h) (Or.inl ⟨by rfl, ?_⟩) ?_ ?_;rotate_left;(intro w';go_simp;with_reducible rfl);rotate_left;(simp only [Act.put, sIb, sC0, sCs, i64_w, i32_w];rfl);refine pure_ (i := 25) (N := some 40) (v := ?_) (a' := ?_) #[true, true, true, true, true, true, true, true, true, true, true, true, true, true, true, true, true, true, true, true, true, true, true, true, true, true, false] rfl rfl (any_of HT_.out (by kernel_rfl)) (fun _ _ _ h => h) (Or.inl ⟨by rfl, ?_⟩) ?_ ?_;rotate_left;(intro w';go_simp;with_reducible rfl);rotate_left;(simp only [Act.put, sIb, sC0, sCs, i64_w, i32_w];rfl);refine pure_ (i := 26) (N := some 41) (v := ?_) (a' := ?_) #[true, true, true, true, true, true, true, true, true, true, true, true, true, true, true, true, true, true, true, true, true, true, true, true, true, true, true] rfl rfl (any_of HT_.out (by kernel_rfl)) (fun _ _ _ h => h) (Or.inl ⟨by rfl, ?_⟩) ?_ ?_;rotate_left;(intro w';go_simp;with_reducible rfl);rotate_left;(simp only [Act.put, sIb, sC0, sCs, i64_w, i32_w];rfl)
             refine done_ (done_of HT_.out (by kernel_rfl)) ?_
             try go_wp2
             go_roundg k1
             case measure => have := HK1.out; omega
             case rel => exact ⟨(wrap64 (x10_1 + 1)), (by first | rfl | (simp; done) | (simp [*]; done)), H', ⟨by have := HK1.out; omega⟩, ⟨by repeat (first | (with_reducible first | exact HB.out | apply below_alloc | apply pw_below_drewN | apply below_drew1 | refine below_set ?_ GE112.out) | exact HB.out)⟩⟩
          ·rw [if_neg c11] at H
           exact absurd H (by simp)
         ·rw [if_neg c10] at H
          exact absurd H (by simp)
        ·rw [if_neg c8] at H
         have c8b0 : decide (0 < x10_1) = false := decide_eq_false c8
         clear c8
         have H' := Aside0.mk H
         clear H
         have p111 : 0 ≤ (x10_1 : Int) := of_decide_eq_true (by first | (with_reducible assumption) | assumption)
         have q111 : x10_1 < (l0.length : Int) := of_decide_eq_true (by first | (with_reducible assumption) | assumption)
         obtain ⟨ad111, e111, hx111_0, hx111_1, hx111_2, hx111_3⟩ := at_T24 HR0.out x10_1 p111 q111
         cases e111
         replace hx111_0 := (HB.out.cell (World.block_lt_of_cell? w _ hx111_0)).trans hx111_0
         replace hx111_1 := (HB.out.cell (World.block_lt_of_cell? w _ hx111_1)).trans hx111_1
         replace hx111_2 := (HB.out.cell (World.block_lt_of_cell? w _ hx111_2)).trans hx111_2
         replace hx111_3 := (HB.out.cell (World.block_lt_of_cell? w _ hx111_3)).trans hx111_3
         replace p111 := eq_true p111;replace q111 := eq_true q111
         try go_wp2_with (first | ((with_reducible refine gate_dst (N := 4) rfl ?_); refine box_event ?hg (N := 4) ?hd (cs := #[.int .i64 0, .int .i64 0, .int .i64 0, .bool false]) (t := 24) ?hr ?_; (case hd => rfl); (case hg => rfl); (case hr => first | (go_simp; done) | (go_simp; rfl)); intro gb112 hg w36 hbox hb; have n0_ := Aside0.mk (below_step (by repeat (first | (with_reducible first | exact HB.out | apply below_alloc | apply pw_below_drewN | apply below_drew1) | exact HB.out)) hb); have n1_ := Aside0.mk (hbox); have n2_ := Aside0.mk ((by rw [hg]; exact (below_size (by repeat (first | (with_reducible first | exact HB.out | apply below_alloc | apply pw_below_drewN | apply below_drew1) | exact HB.out))) : w.heap.size ≤ gb112)); have n3_ := Aside0.mk ((by rw [hg]; exact (below_size (by repeat (first | (with_reducible first | exact HB.out | apply below_alloc | apply pw_below_drewN | apply below_drew1) | exact HB.out))) : w.heap.size ≤ gb112)); clear HB; have HB := n0_; have BK112 := n1_; have GW112 := n2_; have GE112 := n3_; clear n0_ n1_ n2_ n3_; clear hb hbox hg; have hcz37_0 : w36.cell? ⟨gb112, 0, none⟩ = some (.int .i64 0) := (blk_cell BK112.out 0).trans rfl; have hcz37_1 : w36.cell? ⟨gb112, 1, none⟩ = some (.int .i64 0) := (blk_cell BK112.out 1).trans rfl; have hcz37_2 : w36.cell? ⟨gb112, 2, none⟩ = some (.int .i64 0) := (blk_cell BK112.out 2).trans rfl; have hcz37_3 : w36.cell? ⟨gb112, 3, none⟩ = some (.bool false) := (blk_cell BK112.out 3).trans rfl; have hfz37_0 := blk_frozen BK112.out 0; have hfz37_1 := blk_frozen BK112.out 1; have hfz37_2 := blk_frozen BK112.out 2; have hfz37_3 := blk_frozen BK112.out 3))
         have n0_ : Aside0 (((((w36.setCell ⟨gb112, 0, none⟩ (.int .i64 ((rd_T24 l0 x10_1).f0))).setCell ⟨gb112, 1, none⟩ (.int .i64 ((rd_T24 l0 x10_1).f1))).setCell ⟨gb112, 2, none⟩ (.int .i64 ((rd_T24 l0 x10_1).f2))).setCell ⟨gb112, 3, none⟩ (.bool ((rd_T24 l0 x10_1).f3))).heap[gb112]? = some (.cells #[.int .i64 ((rd_T24 l0 x10_1).f0), .int .i64 ((rd_T24 l0 x10_1).f1), .int .i64 ((rd_T24 l0 x10_1).f2), .bool ((rd_T24 l0 x10_1).f3)] 24 (0, 0))) := ⟨by (with_reducible repeat (first | refine blk_drewN ?_ _ | refine blk_drew ?_ | refine blk_alloc ?_ _)); refine blk_put (cs := #[.int .i64 ((rd_T24 l0 x10_1).f0), .int .i64 ((rd_T24 l0 x10_1).f1), .int .i64 ((rd_T24 l0 x10_1).f2), .bool false]) ?_ 3 _ rfl; (with_reducible repeat (first | refine blk_drewN ?_ _ | refine blk_drew ?_ | refine blk_alloc ?_ _)); refine blk_put (cs := #[.int .i64 ((rd_T24 l0 x10_1).f0), .int .i64 ((rd_T24 l0 x10_1).f1), .int .i64 0, .bool false]) ?_ 2 _ rfl; (with_reducible repeat (first | refine blk_drewN ?_ _ | refine blk_drew ?_ | refine blk_alloc ?_ _)); refine blk_put (cs := #[.int .i64 ((rd_T24 l0 x10_1).f0), .int .i64 0, .int .i64 0, .bool false]) ?_ 1 _ rfl; (with_reducible repeat (first | refine blk_drewN ?_ _ | refine blk_drew ?_ | refine blk_alloc ?_ _)); refine blk_put (cs := #[.int .i64 0, .int .i64 0, .int .i64 0, .bool false]) ?_ 0 _ rfl; (with_reducible repeat (first | refine blk_drewN ?_ _ | refine blk_drew ?_ | refine blk_alloc ?_ _)); exact BK112.out⟩
         have n1_ : Aside0 (Below w.heap.size w ((((w36.setCell ⟨gb112, 0, none⟩ (.int .i64 ((rd_T24 l0 x10_1).f0))).setCell ⟨gb112, 1, none⟩ (.int .i64 ((rd_T24 l0 x10_1).f1))).setCell ⟨gb112, 2, none⟩ (.int .i64 ((rd_T24 l0 x10_1).f2))).setCell ⟨gb112, 3, none⟩ (.bool ((rd_T24 l0 x10_1).f3)))) := ⟨by repeat (first | (with_reducible first | exact HB.out | apply below_alloc | apply pw_below_drewN | apply below_drew1 | refine below_set ?_ GE112.out) | exact HB.out)⟩
         (try clear BK112)
         (try clear HB)
         generalize ((((w36.setCell ⟨gb112, 0, none⟩ (.int .i64 ((rd_T24 l0 x10_1).f0))).setCell ⟨gb112, 1, none⟩ (.int .i64 ((rd_T24 l0 x10_1).f1))).setCell ⟨gb112, 2, none⟩ (.int .i64 ((rd_T24 l0 x10_1).f2))).setCell ⟨gb112, 3, none⟩ (.bool ((rd_T24 l0 x10_1).f3))) = w38 at n0_ n1_ ⊢
         have BK112 := n0_;have HB := n1_;clear n0_ n1_
         have n0_ := Aside0.mk (blk_drew BK112.out)
         have n1_ := Aside0.mk (below_drew1 HB.out)
         clear BK112;clear HB;have BK112 := n0_;have HB := n1_;clear n0_ n1_
         refine start_ (n := 27) (S := fun w' => w'.cell? ⟨gb112, 0, none⟩ = some (.int .i64 ((rd_T24 l0 x10_1).f0)) ∧ w'.cell? ⟨gb112, 1, none⟩ = some (.int .i64 ((rd_T24 l0 x10_1).f1)) ∧ w'.cell? ⟨gb112, 2, none⟩ = some (.int .i64 ((rd_T24 l0 x10_1).f2)) ∧ w'.cell? ⟨gb112, 3, none⟩ = some (.bool ((rd_T24 l0 x10_1).f3))) (ds := []) #[false, false, false, false, false, false, false, false, false, false, false, false, false, false, false, false, false, false, false, false, false, false, false, false, false, false, false] (by kernel_rfl) rfl rfl ⟨(blk_cell BK112.out 0).trans rfl, (blk_cell BK112.out 1).trans rfl, (blk_cell BK112.out 2).trans rfl, (blk_cell BK112.out 3).trans rfl⟩ (fun hHeld => ?_); refine with_tabW extent_Check.tab6 extent_Check.bits6 (fun HT_ HW_ => ?_)
         generalize w38.drew = w39 at BK112 HB hHeld ⊢
         refine take_ (i := 0) (N := some 15) (v := ?_) (a' := ?_) #[true, false, false, false, false, false, false, false, false, false, false, false, false, false, false, false, false, false, false, false, false, false, false, false, false, false, false] rfl rfl (take_ofW HT_.out HW_.out (by kernel_rfl)) (fun _ _ _ h => h) (Or.inl ⟨by rfl, ?_⟩) hHeld ?_ ?_;rotate_left
         ·rintro w' ⟨s0, s1, s2, s3⟩
          go_simp;with_reducible rfl
         rotate_left;(simp only [Act.put, sIb, sC0, sCs, i64_w, i32_w];rfl)
         refine one_ (i := 1) (N := some 16) #[true, true, false, false, false, false, false, false, false, false, false, false, false, false, false, false, false, false, false, false, false, false, false, false, false, false, false] rfl rfl (one_of HT_.out (by kernel_rfl)) (by decide) (fun K hK => ?_)
         refine goes_ Try.func34 (by kernel_rfl) rfl #[.agg #[.int .i64 ((rd_T24 l0 x10_1).f0), .int .i64 ((rd_T24 l0 x10_1).f1), .int .i64 ((rd_T24 l0 x10_1).f2), .bool ((rd_T24 l0 x10_1).f3)]] (by rfl) rfl rfl (by (try simp only [List.map_toArray, List.map_cons, List.map_nil]); first | done | rfl | (simp only [List.length_drop, List.length_take]; rfl)) ?_
         with_reducible refine (extent_may.calls ((rd_T24 l0 x10_1).f0) ((rd_T24 l0 x10_1).f1) ((rd_T24 l0 x10_1).f2) ((rd_T24 l0 x10_1).f3) true _ A6.out).mono ?_
         rintro e w40 ⟨rfl, hb⟩
         refine ⟨_, rfl, ?_⟩
         have n0_ := Aside0.mk (blk_below (g := gb112) (o := .cells #[.int .i64 ((rd_T24 l0 x10_1).f0), .int .i64 ((rd_T24 l0 x10_1).f1), .int .i64 ((rd_T24 l0 x10_1).f2), .bool ((rd_T24 l0 x10_1).f3)] 24 (0, 0)) (by (with_reducible repeat (first | refine blk_drewN ?_ _ | refine blk_drew ?_ | refine blk_alloc ?_ _)); exact BK112.out) hb)
         have n1_ := Aside0.mk (below_step (by repeat (first | (with_reducible first | exact HB.out | apply below_alloc | apply pw_below_drewN | apply below_drew1 | refine below_set ?_ GE112.out) | exact HB.out)) hb)
         clear BK112;clear HB;have BK112 := n0_;have HB := n1_;clear n0_ n1_
         (try clear hb)
         (try clear hb2)
         (try clear hk)
         (try clear hi)
         refine hK.out _ _ ⟨(blk_cell BK112.out 0).trans rfl, (blk_cell BK112.out 1).trans rfl, (blk_cell BK112.out 2).trans rfl, (blk_cell BK112.out 3).trans rfl⟩ (fun hHeld => ?_)
         clear hK K;refine norm_ (a' := ?_) ?_ ?_;rotate_left
         ·show Act.put _ (some 16) _ = _
          simp only [Act.put, sIb, sC0, sCs, i64_w, i32_w];rfl
         refine pure_ (i := 2) (N := some 17) (v := ?_) (a' := ?_) #[true, true, true, false, false, false, false, false, false, false, false, false, false, false, false, false, false, false, false, false, false, false, false, false, false, false, false] rfl rfl (any_of HT_.out (by kernel_rfl)) (fun _ _ _ h => h) (Or.inl ⟨by rfl, ?_⟩) ?_ ?_;rotate_left;(intro w';go_simp;with_reducible rfl);rotate_left;(simp only [Act.put, sIb, sC0, sCs, i64_w, i32_w];rfl);refine pure_ (i := 3) (N := some 18) (v := ?_) (a' := ?_) #[true, true, true, true, false, false, false, false, false, false, false, false, false, false, false, false, false, false, false, false, false, false, false, false, false, false, false] rfl rfl (any_of HT_.out (by kernel_rfl)) (fun _ _ _ h => h) (Or.inl ⟨by rfl, ?_⟩) ?_ ?_;rotate_left;(intro w';go_simp;with_reducible rfl);rotate_left;(simp only [Act.put, sIb, sC0, sCs, i64_w, i32_w];rfl);refine pure_ (i := 4) (N := some 19) (v := ?_) (a' := ?_) #[true, true, true, true, true, false, false, false, false, false, false, false, false, false, false, false, false, false, false, false, false, false, false, false, false, false, false] rfl rfl (any_of HT_.out (by kernel_rfl)) (fun _ _ _ h => h) (Or.inl ⟨by rfl, ?_⟩) ?_ ?_;rotate_left;(intro w';go_simp;with_reducible rfl);rotate_left;(simp only [Act.put, sIb, sC0, sCs, i64_w, i32_w];rfl);refine pure_ (i := 5) (N := some 20) (v := ?_) (a' := ?_) #[true, true, true, true, true, true, false, false, false, false, false, false, false, false, false, false, false, false, false, false, false, false, false, false, false, false, false] rfl rfl (any_of HT_.out (by kernel_rfl)) (fun _ _ _ h => h) (Or.inl ⟨by rfl, ?_⟩) ?_ ?_;rotate_left;(intro w';go_simp;with_reducible rfl);rotate_left;(simp only [Act.put, sIb, sC0, sCs, i64_w, i32_w];rfl);refine pure_ (i := 6) (N := some 21) (v := ?_) (a' := ?_) #[true, true, true, true, true, true, true, false, false, false, false, false, false, false, false, false, false, false, false, false, false, false, false, false, false, false, false] rfl rfl (any_of HT_.out (by kernel_rfl)) (fun _ _ _ h => h) (Or.inl ⟨by rfl, ?_⟩) ?_ ?_;rotate_left;(intro w';go_simp;with_reducible rfl);rotate_left;(simp only [Act.put, sIb, sC0, sCs, i64_w, i32_w];rfl);refine pure_ (i := 7) (N := some 22) (v := undef) (a' := ?_) #[true, true, true, true, true, true, true, true, false, false, false, false, false, false, false, false, false, false, false, false, false, false, false, false, false, false, false] rfl rfl (any_of HT_.out (by kernel_rfl)) (fun _ _ _ h => h) (Or.inr ⟨by rfl, rfl⟩) ?_ ?_;rotate_left;(simp only [Act.put, sIb, sC0, sCs, i64_w, i32_w];rfl);refine pure_ (i := 8) (N := some 23) (v := undef) (a' := ?_) #[true, true, true, true, true, true, true, true, true, false, false, false, false, false, false, false, false, false, false, false, false, false, false, false, false, false, false] rfl rfl (any_of HT_.out (by kernel_rfl)) (fun _ _ _ h => h) (Or.inr ⟨by rfl, rfl⟩) ?_ ?_;rotate_left;(simp only [Act.put, sIb, sC0, sCs, i64_w, i32_w];rfl);refine pure_ (i := 9) (N := some 24) (v := undef) (a' := ?_) #[true, true, true, true, true, true, true, true, true, true, false, false, false, false, false, false, false, false, false, false, false, false, false, false, false, false, false] rfl rfl (any_of HT_.out (by kernel_rfl)) (fun _ _ _ h => h) (Or.inr ⟨by rfl, rfl⟩) ?_ ?_;rotate_left;(simp only [Act.put, sIb, sC0, sCs, i64_w, i32_w];rfl);refine pure_ (i := 10) (N := some 25) (v := undef) (a' := ?_) #[true, true, true, true, true, true, true, true, true, true, true, false, false, false, false, false, false, false, false, false, false, false, false, false, false, false, false] rfl rfl (any_of HT_.out (by kernel_rfl)) (fun _ _ _ h => h) (Or.inr ⟨by rfl, rfl⟩) ?_ ?_;rotate_left;(simp only [Act.put, sIb, sC0, sCs, i64_w, i32_w];rfl);refine pure_ (i := 11) (N := some 26) (v := undef) (a' := ?_) #[true, true, true, true, true, true, true, true, true, true, true, true, false, false, false, false, false, false, false, false, false, false, false, false, false, false, false] rfl rfl (any_of HT_.out (by kernel_rfl)) (fun _ _ _ h => h) (Or.inr ⟨by rfl, rfl⟩) ?_ ?_;rotate_left;(simp only [Act.put, sIb, sC0, sCs, i64_w, i32_w];rfl);refine pure_ (i := 12) (N := some 27) (v := undef) (a' := ?_) #[true, true, true, true, true, true, true, true, true, true, true, true, true, false, false, false, false, false, false, false, false, false, false, false, false, false, false] rfl rfl (any_of HT_.out (by kernel_rfl)) (fun _ _ _ h => h) (Or.inr ⟨by rfl, rfl⟩) ?_ ?_;rotate_left;(simp only [Act.put, sIb, sC0, sCs, i64_w, i32_w];rfl);refine pure_ (i := 13) (N := some 28) (v := undef) (a' := ?_) #[true, true, true, true, true, true, true, true, true, true, true, true, true, true, false, false, false, false, false, false, false, false, false, false, false, false, false] rfl rfl (any_of HT_.out (by kernel_rfl)) (fun _ _ _ h => h) (Or.inr ⟨by rfl, rfl⟩) ?_ ?_;rotate_left;(simp only [Act.put, sIb, sC0, sCs, i64_w, i32_w];rfl);refine pure_ (i := 14) (N := some 29) (v := undef) (a' := ?_) #[true, true, true, true, true, true, true, true, true, true, true, true, true, true, true, false, false, false, false, false, false, false, false, false, false, false, false] rfl rfl (any_of HT_.out (by kernel_rfl)) (fun _ _ _ h => h) (Or.inr ⟨by rfl, rfl⟩) ?_ ?_;rotate_left;(simp only [Act.put, sIb, sC0, sCs, i64_w, i32_w];rfl);refine pure_ (i := 15) (N := some 30) (v := undef) (a' := ?_) #[true, true, true, true, true, true, true, true, true, true, true, true, true, true, true, true, false, false, false, false, false, false, false, false, false, false, false] rfl rfl (any_of HT_.out (by kernel_rfl)) (fun _ _ _ h => h) (Or.inr ⟨by rfl, rfl⟩) ?_ ?_;rotate_left;(simp only [Act.put, sIb, sC0, sCs, i64_w, i32_w];rfl);refine pure_ (i := 16) (N := some 31) (v := undef) (a' := ?_) #[true, true, true, true, true, true, true, true, true, true, true, true, true, true, true, true, true, false, false, false, false, false, false, false, false, false, false] rfl rfl (any_of HT_.out (by kernel_rfl)) (fun _ _ _ h => h) (Or.inr ⟨by rfl, rfl⟩) ?_ ?_;rotate_left;(simp only [Act.put, sIb, sC0, sCs, i64_w, i32_w];rfl);refine pure_ (i := 17) (N := some 32) (v := undef) (a' := ?_) #[true, true, true, true, true, true, true, true, true, true, true, true, true, true, true, true, true, true, false, false, false, false, false, false, false, false, false] rfl rfl (any_of HT_.out (by kernel_rfl)) (fun _ _ _ h => h) (Or.inr ⟨by rfl, rfl⟩) ?_ ?_;rotate_left;(simp only [Act.put, sIb, sC0, sCs, i64_w, i32_w];rfl);refine pure_ (i := 18) (N := some 33) (v := undef) (a' := ?_) #[true, true, true, true, true, true, true, true, true, true, true, true, true, true, true, true, true, true, true, false, false, false, false, false, false, false, false] rfl rfl (any_of HT_.out (by kernel_rfl)) (fun _ _ _ h => h) (Or.inr ⟨by rfl, rfl⟩) ?_ ?_;rotate_left;(simp only [Act.put, sIb, sC0, sCs, i64_w, i32_w];rfl);refine pure_ (i := 19) (N := some 34) (v := undef) (a' := ?_) #[true, true, true, true, true, true, true, true, true, true, true, true, true, true, true, true, true, true, true, true, false, false, false, false, false, false, false] rfl rfl (any_of HT_.out (by kernel_rfl)) (fun _ _ _ h => h) (Or.inr ⟨by rfl, rfl⟩) ?_ ?_;rotate_left;(simp only [Act.put, sIb, sC0, sCs, i64_w, i32_w];rfl);refine pure_ (i := 20) (N := some 35) (v := undef) (a' := ?_) #[true, true, true, true, true, true, true, true, true, true, true, true, true, true, true, true, true, true, true, true, true, false, false, false, false, false, false] rfl rfl (any_of HT_.out (by kernel_rfl)) (fun _ _ _ h => h) (Or.inr ⟨by rfl, rfl⟩) ?_ ?_;rotate_left;(simp only [Act.put, sIb, sC0, sCs, i64_w, i32_w];rfl);refine pure_ (i := 21) (N := some 36) (v := undef) (a' := ?_) #[true, true, true, true, true, true, true, true, true, true, true, true, true, true, true, true, true, true, true, true, true, true, false, false, false, false, false] rfl rfl (any_of HT_.out (by kernel_rfl)) (fun _ _ _ h => h) (Or.inr ⟨by rfl, rfl⟩) ?_ ?_;rotate_left;(simp only [Act.put, sIb, sC0, sCs, i64_w, i32_w];rfl);refine pure_ (i := 22) (N := some 37) (v := undef) (a' := ?_) #[true, true, true, true, true, true, true, true, true, true, true, true, true, true, true, true, true, true, true, true, true, true, true, false, false, false, false] rfl rfl (any_of HT_.out (by kernel_rfl)) (fun _ _ _ h => h) (Or.inr ⟨by rfl, rfl⟩) ?_ ?_;rotate_left;(simp only [Act.put, sIb, sC0, sCs, i64_w, i32_w];rfl);refine pure_ (i := 23) (N := some 38) (v := undef) (a' := ?_) #[true, true, true, true, true, true, true, true, true, true, true, true, true, true, true, true, true, true, true, true, true, true, true, true, false, false, false] rfl rfl (any_of HT_.out (by kernel_rfl)) (fun _ _ _ h => h) (Or.inr ⟨by rfl, rfl⟩) ?_ ?_;rotate_left;(simp only [Act.put, sIb, sC0, sCs, i64_w, i32_w];rfl);refine pure_ (i := 24) (N := some 39) (v := undef) (a' := ?_) #[true, true, true, true, true, true, true, true, true, true, true, true, true, true, true, true, true, true, true, true, true, true, true, true, true, false, false] rfl rfl (any_of HT_.out (by kernel_rfl)) (fun _ _ _ h => h) (Or.inr ⟨by rfl, rfl⟩) ?_ ?_;rotate_left;(simp only [Act.put, sIb, sC0, sCs, i64_w, i32_w];rfl);refine pure_ (i := 25) (N := some 40) (v := ?_) (a' := ?_) #[true, true, true, true, true, true, true, true, true, true, true, true, true, true, true, true, true, true, true, true, true, true, true, true, true, true, false] rfl rfl (any_of HT_.out (by kernel_rfl)) (fun _ _ _ h => h) (Or.inl ⟨by rfl, ?_⟩) ?_ ?_;rotate_left;(intro w';go_simp;with_reducible rfl);rotate_left;(simp only [Act.put, sIb, sC0, sCs, i64_w, i32_w];rfl);refine pure_ (i := 26) (N := some 41) (v := ?_) (a' := ?_) #[true, true, true, true, true, true, true, true, true, true, true, true, true, true, true, true, true, true, true, true, true, true, true, true, true, true, true] rfl rfl (any_of HT_.out (by kernel_rfl)) (fun _ _ _ h => h) (Or.inl ⟨by rfl, ?_⟩) ?_ ?_;rotate_left;(intro w';go_simp;with_reducible rfl);rotate_left;(simp only [Act.put, sIb, sC0, sCs, i64_w, i32_w];rfl)
         refine done_ (done_of HT_.out (by kernel_rfl)) ?_
         try go_wp2
         go_roundg k1
         case measure => have := HK1.out; omega
         case rel => exact ⟨(wrap64 (x10_1 + 1)), (by first | rfl | (simp; done) | (simp [*]; done)), H', ⟨by have := HK1.out; omega⟩, ⟨by repeat (first | (with_reducible first | exact HB.out | apply below_alloc | apply pw_below_drewN | apply below_drew1 | refine below_set ?_ GE112.out) | exact HB.out)⟩⟩
       ·replace c7 := Bool.eq_false_iff.mpr c7
        subst c7
        have H1 : (some 1) = some r := by rw [if_neg (show ¬ (false = true) by decide)] at H; exact H
        clear H;have H := H1;clear H1;obtain rfl := Option.some.inj H
        have p111 : 0 ≤ (x10_1 : Int) := of_decide_eq_true (by first | (with_reducible assumption) | assumption)
        have q111 : x10_1 < (l0.length : Int) := of_decide_eq_true (by first | (with_reducible assumption) | assumption)
        obtain ⟨ad111, e111, hx111_0, hx111_1, hx111_2, hx111_3⟩ := at_T24 HR0.out x10_1 p111 q111
        cases e111
        replace hx111_0 := (HB.out.cell (World.block_lt_of_cell? w _ hx111_0)).trans hx111_0
        replace hx111_1 := (HB.out.cell (World.block_lt_of_cell? w _ hx111_1)).trans hx111_1
        replace hx111_2 := (HB.out.cell (World.block_lt_of_cell? w _ hx111_2)).trans hx111_2
        replace hx111_3 := (HB.out.cell (World.block_lt_of_cell? w _ hx111_3)).trans hx111_3
        replace p111 := eq_true p111;replace q111 := eq_true q111
        try go_wp2_with (first | ((with_reducible refine gate_dst (N := 4) rfl ?_); refine box_event ?hg (N := 4) ?hd (cs := #[.int .i64 0, .int .i64 0, .int .i64 0, .bool false]) (t := 24) ?hr ?_; (case hd => rfl); (case hg => rfl); (case hr => first | (go_simp; done) | (go_simp; rfl)); intro gb112 hg w41 hbox hb; have n0_ := Aside0.mk (below_step (by repeat (first | (with_reducible first | exact HB.out | apply below_alloc | apply pw_below_drewN | apply below_drew1) | exact HB.out)) hb); have n1_ := Aside0.mk (hbox); have n2_ := Aside0.mk ((by rw [hg]; exact (below_size (by repeat (first | (with_reducible first | exact HB.out | apply below_alloc | apply pw_below_drewN | apply below_drew1) | exact HB.out))) : w.heap.size ≤ gb112)); have n3_ := Aside0.mk ((by rw [hg]; exact (below_size (by repeat (first | (with_reducible first | exact HB.out | apply below_alloc | apply pw_below_drewN | apply below_drew1) | exact HB.out))) : w.heap.size ≤ gb112)); clear HB; have HB := n0_; have BK112 := n1_; have GW112 := n2_; have GE112 := n3_; clear n0_ n1_ n2_ n3_; clear hb hbox hg; have hcz42_0 : w41.cell? ⟨gb112, 0, none⟩ = some (.int .i64 0) := (blk_cell BK112.out 0).trans rfl; have hcz42_1 : w41.cell? ⟨gb112, 1, none⟩ = some (.int .i64 0) := (blk_cell BK112.out 1).trans rfl; have hcz42_2 : w41.cell? ⟨gb112, 2, none⟩ = some (.int .i64 0) := (blk_cell BK112.out 2).trans rfl; have hcz42_3 : w41.cell? ⟨gb112, 3, none⟩ = some (.bool false) := (blk_cell BK112.out 3).trans rfl; have hfz42_0 := blk_frozen BK112.out 0; have hfz42_1 := blk_frozen BK112.out 1; have hfz42_2 := blk_frozen BK112.out 2; have hfz42_3 := blk_frozen BK112.out 3))
        have n0_ : Aside0 (((((w41.setCell ⟨gb112, 0, none⟩ (.int .i64 ((rd_T24 l0 x10_1).f0))).setCell ⟨gb112, 1, none⟩ (.int .i64 ((rd_T24 l0 x10_1).f1))).setCell ⟨gb112, 2, none⟩ (.int .i64 ((rd_T24 l0 x10_1).f2))).setCell ⟨gb112, 3, none⟩ (.bool ((rd_T24 l0 x10_1).f3))).heap[gb112]? = some (.cells #[.int .i64 ((rd_T24 l0 x10_1).f0), .int .i64 ((rd_T24 l0 x10_1).f1), .int .i64 ((rd_T24 l0 x10_1).f2), .bool ((rd_T24 l0 x10_1).f3)] 24 (0, 0))) := ⟨by (with_reducible repeat (first | refine blk_drewN ?_ _ | refine blk_drew ?_ | refine blk_alloc ?_ _)); refine blk_put (cs := #[.int .i64 ((rd_T24 l0 x10_1).f0), .int .i64 ((rd_T24 l0 x10_1).f1), .int .i64 ((rd_T24 l0 x10_1).f2), .bool false]) ?_ 3 _ rfl; (with_reducible repeat (first | refine blk_drewN ?_ _ | refine blk_drew ?_ | refine blk_alloc ?_ _)); refine blk_put (cs := #[.int .i64 ((rd_T24 l0 x10_1).f0), .int .i64 ((rd_T24 l0 x10_1).f1), .int .i64 0, .bool false]) ?_ 2 _ rfl; (with_reducible repeat (first | refine blk_drewN ?_ _ | refine blk_drew ?_ | refine blk_alloc ?_ _)); refine blk_put (cs := #[.int .i64 ((rd_T24 l0 x10_1).f0), .int .i64 0, .int .i64 0, .bool false]) ?_ 1 _ rfl; (with_reducible repeat (first | refine blk_drewN ?_ _ | refine blk_drew ?_ | refine blk_alloc ?_ _)); refine blk_put (cs := #[.int .i64 0, .int .i64 0, .int .i64 0, .bool false]) ?_ 0 _ rfl; (with_reducible repeat (first | refine blk_drewN ?_ _ | refine blk_drew ?_ | refine blk_alloc ?_ _)); exact BK112.out⟩
        have n1_ : Aside0 (Below w.heap.size w ((((w41.setCell ⟨gb112, 0, none⟩ (.int .i64 ((rd_T24 l0 x10_1).f0))).setCell ⟨gb112, 1, none⟩ (.int .i64 ((rd_T24 l0 x10_1).f1))).setCell ⟨gb112, 2, none⟩ (.int .i64 ((rd_T24 l0 x10_1).f2))).setCell ⟨gb112, 3, none⟩ (.bool ((rd_T24 l0 x10_1).f3)))) := ⟨by repeat (first | (with_reducible first | exact HB.out | apply below_alloc | apply pw_below_drewN | apply below_drew1 | refine below_set ?_ GE112.out) | exact HB.out)⟩
        (try clear BK112)
        (try clear HB)
        generalize ((((w41.setCell ⟨gb112, 0, none⟩ (.int .i64 ((rd_T24 l0 x10_1).f0))).setCell ⟨gb112, 1, none⟩ (.int .i64 ((rd_T24 l0 x10_1).f1))).setCell ⟨gb112, 2, none⟩ (.int .i64 ((rd_T24 l0 x10_1).f2))).setCell ⟨gb112, 3, none⟩ (.bool ((rd_T24 l0 x10_1).f3))) = w43 at n0_ n1_ ⊢
        have BK112 := n0_;have HB := n1_;clear n0_ n1_
        have n0_ := Aside0.mk (blk_drew BK112.out)
        have n1_ := Aside0.mk (below_drew1 HB.out)
        clear BK112;clear HB;have BK112 := n0_;have HB := n1_;clear n0_ n1_
        refine start_ (n := 27) (S := fun w' => w'.cell? ⟨gb112, 0, none⟩ = some (.int .i64 ((rd_T24 l0 x10_1).f0)) ∧ w'.cell? ⟨gb112, 1, none⟩ = some (.int .i64 ((rd_T24 l0 x10_1).f1)) ∧ w'.cell? ⟨gb112, 2, none⟩ = some (.int .i64 ((rd_T24 l0 x10_1).f2)) ∧ w'.cell? ⟨gb112, 3, none⟩ = some (.bool ((rd_T24 l0 x10_1).f3))) (ds := []) #[false, false, false, false, false, false, false, false, false, false, false, false, false, false, false, false, false, false, false, false, false, false, false, false, false, false, false] (by kernel_rfl) rfl rfl ⟨(blk_cell BK112.out 0).trans rfl, (blk_cell BK112.out 1).trans rfl, (blk_cell BK112.out 2).trans rfl, (blk_cell BK112.out 3).trans rfl⟩ (fun hHeld => ?_); refine with_tabW extent_Check.tab6 extent_Check.bits6 (fun HT_ HW_ => ?_)
        generalize w43.drew = w44 at BK112 HB hHeld ⊢
        refine take_ (i := 0) (N := some 15) (v := ?_) (a' := ?_) #[true, false, false, false, false, false, false, false, false, false, false, false, false, false, false, false, false, false, false, false, false, false, false, false, false, false, false] rfl rfl (take_ofW HT_.out HW_.out (by kernel_rfl)) (fun _ _ _ h => h) (Or.inl ⟨by rfl, ?_⟩) hHeld ?_ ?_;rotate_left
        ·rintro w' ⟨s0, s1, s2, s3⟩
         go_simp;with_reducible rfl
        rotate_left;(simp only [Act.put, sIb, sC0, sCs, i64_w, i32_w];rfl)
        refine one_ (i := 1) (N := some 16) #[true, true, false, false, false, false, false, false, false, false, false, false, false, false, false, false, false, false, false, false, false, false, false, false, false, false, false] rfl rfl (one_of HT_.out (by kernel_rfl)) (by decide) (fun K hK => ?_)
        refine goes_ Try.func34 (by kernel_rfl) rfl #[.agg #[.int .i64 ((rd_T24 l0 x10_1).f0), .int .i64 ((rd_T24 l0 x10_1).f1), .int .i64 ((rd_T24 l0 x10_1).f2), .bool ((rd_T24 l0 x10_1).f3)]] (by rfl) rfl rfl (by (try simp only [List.map_toArray, List.map_cons, List.map_nil]); first | done | rfl | (simp only [List.length_drop, List.length_take]; rfl)) ?_
        with_reducible refine (extent_may.calls ((rd_T24 l0 x10_1).f0) ((rd_T24 l0 x10_1).f1) ((rd_T24 l0 x10_1).f2) ((rd_T24 l0 x10_1).f3) false _ A6.out).mono ?_
        rintro e w45 ⟨rfl, hb⟩
        refine ⟨_, rfl, ?_⟩
        have n0_ := Aside0.mk (blk_below (g := gb112) (o := .cells #[.int .i64 ((rd_T24 l0 x10_1).f0), .int .i64 ((rd_T24 l0 x10_1).f1), .int .i64 ((rd_T24 l0 x10_1).f2), .bool ((rd_T24 l0 x10_1).f3)] 24 (0, 0)) (by (with_reducible repeat (first | refine blk_drewN ?_ _ | refine blk_drew ?_ | refine blk_alloc ?_ _)); exact BK112.out) hb)
        have n1_ := Aside0.mk (below_step (by repeat (first | (with_reducible first | exact HB.out | apply below_alloc | apply pw_below_drewN | apply below_drew1 | refine below_set ?_ GE112.out) | exact HB.out)) hb)
        clear BK112;clear HB;have BK112 := n0_;have HB := n1_;clear n0_ n1_
        (try clear hb)
        (try clear hb2)
        (try clear hk)
        (try clear hi)
        refine hK.out _ _ ⟨(blk_cell BK112.out 0).trans rfl, (blk_cell BK112.out 1).trans rfl, (blk_cell BK112.out 2).trans rfl, (blk_cell BK112.out 3).trans rfl⟩ (fun hHeld => ?_)
        clear hK K;refine norm_ (a' := ?_) ?_ ?_;rotate_left
        ·show Act.put _ (some 16) _ = _
         simp only [Act.put, sIb, sC0, sCs, i64_w, i32_w];rfl
        refine pure_ (i := 2) (N := some 17) (v := ?_) (a' := ?_) #[true, true, true, false, false, false, false, false, false, false, false, false, false, false, false, false, false, false, false, false, false, false, false, false, false, false, false] rfl rfl (any_of HT_.out (by kernel_rfl)) (fun _ _ _ h => h) (Or.inl ⟨by rfl, ?_⟩) ?_ ?_;rotate_left;(intro w';go_simp;with_reducible rfl);rotate_left;(simp only [Act.put, sIb, sC0, sCs, i64_w, i32_w];rfl);refine pure_ (i := 3) (N := some 18) (v := ?_) (a' := ?_) #[true, true, true, true, false, false, false, false, false, false, false, false, false, false, false, false, false, false, false, false, false, false, false, false, false, false, false] rfl rfl (any_of HT_.out (by kernel_rfl)) (fun _ _ _ h => h) (Or.inl ⟨by rfl, ?_⟩) ?_ ?_;rotate_left;(intro w';go_simp;with_reducible rfl);rotate_left;(simp only [Act.put, sIb, sC0, sCs, i64_w, i32_w];rfl);refine pure_ (i := 4) (N := some 19) (v := undef) (a' := ?_) #[true, true, true, true, true, false, false, false, false, false, false, false, false, false, false, false, false, false, false, false, false, false, false, false, false, false, false] rfl rfl (any_of HT_.out (by kernel_rfl)) (fun _ _ _ h => h) (Or.inr ⟨by rfl, rfl⟩) ?_ ?_;rotate_left;(simp only [Act.put, sIb, sC0, sCs, i64_w, i32_w];rfl);refine pure_ (i := 5) (N := some 20) (v := undef) (a' := ?_) #[true, true, true, true, true, true, false, false, false, false, false, false, false, false, false, false, false, false, false, false, false, false, false, false, false, false, false] rfl rfl (any_of HT_.out (by kernel_rfl)) (fun _ _ _ h => h) (Or.inr ⟨by rfl, rfl⟩) ?_ ?_;rotate_left;(simp only [Act.put, sIb, sC0, sCs, i64_w, i32_w];rfl);refine pure_ (i := 6) (N := some 21) (v := undef) (a' := ?_) #[true, true, true, true, true, true, true, false, false, false, false, false, false, false, false, false, false, false, false, false, false, false, false, false, false, false, false] rfl rfl (any_of HT_.out (by kernel_rfl)) (fun _ _ _ h => h) (Or.inr ⟨by rfl, rfl⟩) ?_ ?_;rotate_left;(simp only [Act.put, sIb, sC0, sCs, i64_w, i32_w];rfl);refine pure_ (i := 7) (N := some 22) (v := undef) (a' := ?_) #[true, true, true, true, true, true, true, true, false, false, false, false, false, false, false, false, false, false, false, false, false, false, false, false, false, false, false] rfl rfl (any_of HT_.out (by kernel_rfl)) (fun _ _ _ h => h) (Or.inr ⟨by rfl, rfl⟩) ?_ ?_;rotate_left;(simp only [Act.put, sIb, sC0, sCs, i64_w, i32_w];rfl);refine pure_ (i := 8) (N := some 23) (v := undef) (a' := ?_) #[true, true, true, true, true, true, true, true, true, false, false, false, false, false, false, false, false, false, false, false, false, false, false, false, false, false, false] rfl rfl (any_of HT_.out (by kernel_rfl)) (fun _ _ _ h => h) (Or.inr ⟨by rfl, rfl⟩) ?_ ?_;rotate_left;(simp only [Act.put, sIb, sC0, sCs, i64_w, i32_w];rfl);refine pure_ (i := 9) (N := some 24) (v := undef) (a' := ?_) #[true, true, true, true, true, true, true, true, true, true, false, false, false, false, false, false, false, false, false, false, false, false, false, false, false, false, false] rfl rfl (any_of HT_.out (by kernel_rfl)) (fun _ _ _ h => h) (Or.inr ⟨by rfl, rfl⟩) ?_ ?_;rotate_left;(simp only [Act.put, sIb, sC0, sCs, i64_w, i32_w];rfl);refine pure_ (i := 10) (N := some 25) (v := undef) (a' := ?_) #[true, true, true, true, true, true, true, true, true, true, true, false, false, false, false, false, false, false, false, false, false, false, false, false, false, false, false] rfl rfl (any_of HT_.out (by kernel_rfl)) (fun _ _ _ h => h) (Or.inr ⟨by rfl, rfl⟩) ?_ ?_;rotate_left;(simp only [Act.put, sIb, sC0, sCs, i64_w, i32_w];rfl);refine pure_ (i := 11) (N := some 26) (v := undef) (a' := ?_) #[true, true, true, true, true, true, true, true, true, true, true, true, false, false, false, false, false, false, false, false, false, false, false, false, false, false, false] rfl rfl (any_of HT_.out (by kernel_rfl)) (fun _ _ _ h => h) (Or.inr ⟨by rfl, rfl⟩) ?_ ?_;rotate_left;(simp only [Act.put, sIb, sC0, sCs, i64_w, i32_w];rfl);refine pure_ (i := 12) (N := some 27) (v := undef) (a' := ?_) #[true, true, true, true, true, true, true, true, true, true, true, true, true, false, false, false, false, false, false, false, false, false, false, false, false, false, false] rfl rfl (any_of HT_.out (by kernel_rfl)) (fun _ _ _ h => h) (Or.inr ⟨by rfl, rfl⟩) ?_ ?_;rotate_left;(simp only [Act.put, sIb, sC0, sCs, i64_w, i32_w];rfl);refine pure_ (i := 13) (N := some 28) (v := undef) (a' := ?_) #[true, true, true, true, true, true, true, true, true, true, true, true, true, true, false, false, false, false, false, false, false, false, false, false, false, false, false] rfl rfl (any_of HT_.out (by kernel_rfl)) (fun _ _ _ h => h) (Or.inr ⟨by rfl, rfl⟩) ?_ ?_;rotate_left;(simp only [Act.put, sIb, sC0, sCs, i64_w, i32_w];rfl);refine pure_ (i := 14) (N := some 29) (v := undef) (a' := ?_) #[true, true, true, true, true, true, true, true, true, true, true, true, true, true, true, false, false, false, false, false, false, false, false, false, false, false, false] rfl rfl (any_of HT_.out (by kernel_rfl)) (fun _ _ _ h => h) (Or.inr ⟨by rfl, rfl⟩) ?_ ?_;rotate_left;(simp only [Act.put, sIb, sC0, sCs, i64_w, i32_w];rfl);refine pure_ (i := 15) (N := some 30) (v := undef) (a' := ?_) #[true, true, true, true, true, true, true, true, true, true, true, true, true, true, true, true, false, false, false, false, false, false, false, false, false, false, false] rfl rfl (any_of HT_.out (by kernel_rfl)) (fun _ _ _ h => h) (Or.inr ⟨by rfl, rfl⟩) ?_ ?_;rotate_left;(simp only [Act.put, sIb, sC0, sCs, i64_w, i32_w];rfl);refine pure_ (i := 16) (N := some 31) (v := undef) (a' := ?_) #[true, true, true, true, true, true, true, true, true, true, true, true, true, true, true, true, true, false, false, false, false, false, false, false, false, false, false] rfl rfl (any_of HT_.out (by kernel_rfl)) (fun _ _ _ h => h) (Or.inr ⟨by rfl, rfl⟩) ?_ ?_;rotate_left;(simp only [Act.put, sIb, sC0, sCs, i64_w, i32_w];rfl);refine pure_ (i := 17) (N := some 32) (v := undef) (a' := ?_) #[true, true, true, true, true, true, true, true, true, true, true, true, true, true, true, true, true, true, false, false, false, false, false, false, false, false, false] rfl rfl (any_of HT_.out (by kernel_rfl)) (fun _ _ _ h => h) (Or.inr ⟨by rfl, rfl⟩) ?_ ?_;rotate_left;(simp only [Act.put, sIb, sC0, sCs, i64_w, i32_w];rfl);refine pure_ (i := 18) (N := some 33) (v := undef) (a' := ?_) #[true, true, true, true, true, true, true, true, true, true, true, true, true, true, true, true, true, true, true, false, false, false, false, false, false, false, false] rfl rfl (any_of HT_.out (by kernel_rfl)) (fun _ _ _ h => h) (Or.inr ⟨by rfl, rfl⟩) ?_ ?_;rotate_left;(simp only [Act.put, sIb, sC0, sCs, i64_w, i32_w];rfl);refine pure_ (i := 19) (N := some 34) (v := undef) (a' := ?_) #[true, true, true, true, true, true, true, true, true, true, true, true, true, true, true, true, true, true, true, true, false, false, false, false, false, false, false] rfl rfl (any_of HT_.out (by kernel_rfl)) (fun _ _ _ h => h) (Or.inr ⟨by rfl, rfl⟩) ?_ ?_;rotate_left;(simp only [Act.put, sIb, sC0, sCs, i64_w, i32_w];rfl);refine pure_ (i := 20) (N := some 35) (v := undef) (a' := ?_) #[true, true, true, true, true, true, true, true, true, true, true, true, true, true, true, true, true, true, true, true, true, false, false, false, false, false, false] rfl rfl (any_of HT_.out (by kernel_rfl)) (fun _ _ _ h => h) (Or.inr ⟨by rfl, rfl⟩) ?_ ?_;rotate_left;(simp only [Act.put, sIb, sC0, sCs, i64_w, i32_w];rfl);refine pure_ (i := 21) (N := some 36) (v := undef) (a' := ?_) #[true, true, true, true, true, true, true, true, true, true, true, true, true, true, true, true, true, true, true, true, true, true, false, false, false, false, false] rfl rfl (any_of HT_.out (by kernel_rfl)) (fun _ _ _ h => h) (Or.inr ⟨by rfl, rfl⟩) ?_ ?_;rotate_left;(simp only [Act.put, sIb, sC0, sCs, i64_w, i32_w];rfl);refine pure_ (i := 22) (N := some 37) (v := undef) (a' := ?_) #[true, true, true, true, true, true, true, true, true, true, true, true, true, true, true, true, true, true, true, true, true, true, true, false, false, false, false] rfl rfl (any_of HT_.out (by kernel_rfl)) (fun _ _ _ h => h) (Or.inr ⟨by rfl, rfl⟩) ?_ ?_;rotate_left;(simp only [Act.put, sIb, sC0, sCs, i64_w, i32_w];rfl);refine pure_ (i := 23) (N := some 38) (v := undef) (a' := ?_) #[true, true, true, true, true, true, true, true, true, true, true, true, true, true, true, true, true, true, true, true, true, true, true, true, false, false, false] rfl rfl (any_of HT_.out (by kernel_rfl)) (fun _ _ _ h => h) (Or.inr ⟨by rfl, rfl⟩) ?_ ?_;rotate_left;(simp only [Act.put, sIb, sC0, sCs, i64_w, i32_w];rfl);refine pure_ (i := 24) (N := some 39) (v := undef) (a' := ?_) #[true, true, true, true, true, true, true, true, true, true, true, true, true, true, true, true, true, true, true, true, true, true, true, true, true, false, false] rfl rfl (any_of HT_.out (by kernel_rfl)) (fun _ _ _ h => h) (Or.inr ⟨by rfl, rfl⟩) ?_ ?_;rotate_left;(simp only [Act.put, sIb, sC0, sCs, i64_w, i32_w];rfl);refine pure_ (i := 25) (N := some 40) (v := undef) (a' := ?_) #[true, true, true, true, true, true, true, true, true, true, true, true, true, true, true, true, true, true, true, true, true, true, true, true, true, true, false] rfl rfl (any_of HT_.out (by kernel_rfl)) (fun _ _ _ h => h) (Or.inr ⟨by rfl, rfl⟩) ?_ ?_;rotate_left;(simp only [Act.put, sIb, sC0, sCs, i64_w, i32_w];rfl);refine pure_ (i := 26) (N := some 41) (v := ?_) (a' := ?_) #[true, true, true, true, true, true, true, true, true, true, true, true, true, true, true, true, true, true, true, true, true, true, true, true, true, true, true] rfl rfl (any_of HT_.out (by kernel_rfl)) (fun _ _ _ h => h) (Or.inl ⟨by rfl, ?_⟩) ?_ ?_;rotate_left;(intro w';go_simp;with_reducible rfl);rotate_left;(simp only [Act.put, sIb, sC0, sCs, i64_w, i32_w];rfl)
        refine done_ (done_of HT_.out (by kernel_rfl)) ?_
        try go_wp2
        go_ret
        exact ⟨by first | rfl | (simp [errW_none, errW_some] <;> rfl) | (simp [*, errW_none, errW_some] <;> rfl), by repeat (first | (with_reducible first | exact HB.out | apply below_alloc | apply pw_below_drewN | apply below_drew1 | refine below_set ?_ GE112.out) | exact HB.out)⟩
      ·rw [if_neg c5] at H
       exact absurd H (by simp)
     ·rw [if_neg c4] at H
      exact absurd H (by simp)
    ·rw [if_neg c3] at H
     have c3b0 : decide (x10_1 < (l0.length : Int)) = false := decide_eq_false c3
     clear c3
     replace H := Option.bind_eq_some_iff.mp H
     obtain ⟨t110, A460, H⟩ := H
     replace H : (if t110 = true then (some 0) else (some 1)) = some r := H
     have A46 := Aside0.mk A460
     clear A460
     by_cases c47 : t110 = true
     ·subst c47
      have H1 : (some 0) = some r := by rw [if_pos rfl] at H; exact H
      clear H;have H := H1;clear H1;obtain rfl := Option.some.inj H
      go_wp2_with (first | ((with_reducible refine gate_callee (f := 37) rfl ?_); refine goesL_ (some 44) rfl rfl Try.func37 (by kernel_rfl) rfl #[.slice A0 l0.length c0] rfl (by (try simp only [List.map_toArray, List.map_cons, List.map_nil]); first | done | rfl | (simp only [List.length_drop, List.length_take]; rfl)) ?_; (with_reducible refine (extent_apart.calls _ _ l0 true _ ?side1 ?side2 A46.out).mono ?_); (case side1 => repeat (first | exact (Kd.C_below HR0.out HB.out) | (with_reducible refine Kd.C_alloc ?_ _) | (with_reducible refine Kd.C_drewN ?_ _) | (with_reducible refine Kd.C_drew ?_))); (case side2 => exact HC0.out); rintro e w48 ⟨rfl, hb⟩; refine ⟨_, rfl, ?_⟩; have n0_ := Aside0.mk (below_step (by repeat (first | (with_reducible first | exact HB.out | apply below_alloc | apply pw_below_drewN | apply below_drew1) | exact HB.out)) hb); clear HB; have HB := n0_; clear n0_; (try clear hb); (try clear hb2); (try clear hk); (try clear hi)))
      go_ret
      exact ⟨by first | rfl | (simp [errW_none, errW_some] <;> rfl) | (simp [*, errW_none, errW_some] <;> rfl), by repeat (first | (with_reducible first | exact HB.out | apply below_alloc | apply pw_below_drewN | apply below_drew1) | exact HB.out)⟩
     ·replace c47 := Bool.eq_false_iff.mpr c47
      subst c47
      have H1 : (some 1) = some r := by rw [if_neg (show ¬ (false = true) by decide)] at H; exact H
      clear H;have H := H1;clear H1;obtain rfl := Option.some.inj H
      go_wp2_with (first | ((with_reducible refine gate_callee (f := 37) rfl ?_); refine goesL_ (some 44) rfl rfl Try.func37 (by kernel_rfl) rfl #[.slice A0 l0.length c0] rfl (by (try simp only [List.map_toArray, List.map_cons, List.map_nil]); first | done | rfl | (simp only [List.length_drop, List.length_take]; rfl)) ?_; (with_reducible refine (extent_apart.calls _ _ l0 false _ ?side1 ?side2 A46.out).mono ?_); (case side1 => repeat (first | exact (Kd.C_below HR0.out HB.out) | (with_reducible refine Kd.C_alloc ?_ _) | (with_reducible refine Kd.C_drewN ?_ _) | (with_reducible refine Kd.C_drew ?_))); (case side2 => exact HC0.out); rintro e w49 ⟨rfl, hb⟩; refine ⟨_, rfl, ?_⟩; have n0_ := Aside0.mk (below_step (by repeat (first | (with_reducible first | exact HB.out | apply below_alloc | apply pw_below_drewN | apply below_drew1) | exact HB.out)) hb); clear HB; have HB := n0_; clear n0_; (try clear hb); (try clear hb2); (try clear hk); (try clear hi)))
      go_ret
      exact ⟨by first | rfl | (simp [errW_none, errW_some] <;> rfl) | (simp [*, errW_none, errW_some] <;> rfl), by repeat (first | (with_reducible first | exact HB.out | apply below_alloc | apply pw_below_drewN | apply below_drew1) | exact HB.out)⟩
end Go.Proofs.Ytopmjjnkolfciaa.Pr
end
