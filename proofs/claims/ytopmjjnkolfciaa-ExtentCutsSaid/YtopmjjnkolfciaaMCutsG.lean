/- MCuts: this session's texts for the one law, put together (part 7 of 7): what its program computes, function by function, and that this answers true; the row stands at the end of the last part. Conditions: those that each theorem names; the last theorem has none. -/
import Derived.Test.YtopmjjnkolfciaaRows
import Derived.WalkKit
import Derived.ProofKit
import Derived.OpenShut
import Derived.ShutString
import Derived.ChangeOld
import Derived.Below
import Derived.SizedLaws
import Derived.Carry
import Derived.Lib.SmallJoins
import Derived.Test.YtopmjjnkolfciaaMCutsF
section
namespace Go.Proofs.Ytopmjjnkolfciaa.Pr
open Go.RowKit Go.Proofs.YtopmjjnkolfciaaW.PrintWords Go.Proofs.YtopmjjnkolfciaaW.PrintLast Go.Proofs.YtopmjjnkolfciaaW.PrintMore
attribute [local go_sem] max2_int min2_int max_two min_two max_three min_three max_four min_four
attribute [local go_sem] Go.Proofs.Ytopmjjnkolfciaa.Hl.str_geq Go.Proofs.Ytopmjjnkolfciaa.Hl.str_gtr Go.Proofs.Ytopmjjnkolfciaa.Hl.str_leq
set_option linter.unusedVariables false
set_option linter.unusedSimpArgs false
attribute [local go_sem high] eqA24 eqA32
def undercroftlaw10_alive.f (k : Nat)  : Option (Bool) := (extent_Put.f k (([(⟨2, 52, 3, false⟩ : S24)] : List (S24))) 0 50 2 false).bind fun bt142 => ((extent_Cut.f k bt142.1 1 3).bind fun bt146 => (if bt142.2 = 0 then (if (bt142.1.length : Int) = 1 then (if 0 < (bt142.1.length : Int) then (if (((rd_T24 bt142.1 0).f0) == 0 && (((rd_T24 bt142.1 0).f1) == 50 && (((rd_T24 bt142.1 0).f2) == 5 && (!((rd_T24 bt142.1 0).f3))))) = true then (if bt146.2.2 = 0 then (if (bt146.1.length : Int) = 2 then (if 1 < (bt146.1.length : Int) then (if (((rd_T24 bt146.1 1).f0) == 3 && (((rd_T24 bt146.1 1).f1) == 53 && (((rd_T24 bt146.1 1).f2) == 2 && (!((rd_T24 bt146.1 1).f3))))) = true then (if (bt146.2.1.length : Int) = 1 then (if 0 < (bt146.2.1.length : Int) then (some (((rd_T32 bt146.2.1 0).f0) == 51 && (((rd_T32 bt146.2.1 0).f1) == 2))) else (none)) else (some false)) else (some false)) else (none)) else (some false)) else (some false)) else (some false)) else (none)) else (some false)) else (some false)))
set_option maxHeartbeats 8000000 in
set_option maxRecDepth 100000 in
theorem undercroftlaw10_alive.calls (k : Nat)  (r : Bool) (w : World) (h : undercroftlaw10_alive.f k  = some r) :
  Calls Try.prog 11 #[] w fun e w' => e = .returned (.bool r) ∧ Below w.heap.size w w' := by
 have hu24 := Try.underlying24
 have hu32 := Try.underlying32
 have HB := Aside0.mk (Below.refl w.heap.size w)
 have H : ((extent_Put.f k (([(⟨2, 52, 3, false⟩ : S24)] : List (S24))) 0 50 2 false).bind fun bt142 => ((extent_Cut.f k bt142.1 1 3).bind fun bt146 => (if bt142.2 = 0 then (if (bt142.1.length : Int) = 1 then (if 0 < (bt142.1.length : Int) then (if (((rd_T24 bt142.1 0).f0) == 0 && (((rd_T24 bt142.1 0).f1) == 50 && (((rd_T24 bt142.1 0).f2) == 5 && (!((rd_T24 bt142.1 0).f3))))) = true then (if bt146.2.2 = 0 then (if (bt146.1.length : Int) = 2 then (if 1 < (bt146.1.length : Int) then (if (((rd_T24 bt146.1 1).f0) == 3 && (((rd_T24 bt146.1 1).f1) == 53 && (((rd_T24 bt146.1 1).f2) == 2 && (!((rd_T24 bt146.1 1).f3))))) = true then (if (bt146.2.1.length : Int) = 1 then (if 0 < (bt146.2.1.length : Int) then (some (((rd_T32 bt146.2.1 0).f0) == 51 && (((rd_T32 bt146.2.1 0).f1) == 2))) else (none)) else (some false)) else (some false)) else (none)) else (some false)) else (some false)) else (some false)) else (none)) else (some false)) else (some false)))) = some r := h
 clear h
 obtain ⟨y139, hy139⟩ : ∃ y_ : List (S24), y_ = (([(⟨2, 52, 3, false⟩ : S24)] : List (S24))) := ⟨_, rfl⟩
 replace H : ((extent_Put.f k y139 0 50 2 false).bind fun bt142 => ((extent_Cut.f k bt142.1 1 3).bind fun bt146 => (if bt142.2 = 0 then (if (bt142.1.length : Int) = 1 then (if 0 < (bt142.1.length : Int) then (if (((rd_T24 bt142.1 0).f0) == 0 && (((rd_T24 bt142.1 0).f1) == 50 && (((rd_T24 bt142.1 0).f2) == 5 && (!((rd_T24 bt142.1 0).f3))))) = true then (if bt146.2.2 = 0 then (if (bt146.1.length : Int) = 2 then (if 1 < (bt146.1.length : Int) then (if (((rd_T24 bt146.1 1).f0) == 3 && (((rd_T24 bt146.1 1).f1) == 53 && (((rd_T24 bt146.1 1).f2) == 2 && (!((rd_T24 bt146.1 1).f3))))) = true then (if (bt146.2.1.length : Int) = 1 then (if 0 < (bt146.2.1.length : Int) then (some (((rd_T32 bt146.2.1 0).f0) == 51 && (((rd_T32 bt146.2.1 0).f1) == 2))) else (none)) else (some false)) else (some false)) else (none)) else (some false)) else (some false)) else (some false)) else (none)) else (some false)) else (some false)))) = some r := by first | (rw [hy139]; with_reducible exact H) | (have H2_ := (Option.bind_some _ _).symm.trans H; rw [hy139]; with_reducible exact H2_) | (have H2_ := (Option.bind_some _ _).symm.trans H; with_reducible exact H2_) | with_reducible exact H | (rw [hy139]; exact H) | exact H
 have Ny139 := Aside0.mk hy139
 clear hy139
 replace H := Option.bind_eq_some_iff.mp H
 obtain ⟨⟨t142, t145⟩, A10, H⟩ := H
 replace H : ((extent_Cut.f k t142 1 3).bind fun bt146 => (if t145 = 0 then (if (t142.length : Int) = 1 then (if 0 < (t142.length : Int) then (if (((rd_T24 t142 0).f0) == 0 && (((rd_T24 t142 0).f1) == 50 && (((rd_T24 t142 0).f2) == 5 && (!((rd_T24 t142 0).f3))))) = true then (if bt146.2.2 = 0 then (if (bt146.1.length : Int) = 2 then (if 1 < (bt146.1.length : Int) then (if (((rd_T24 bt146.1 1).f0) == 3 && (((rd_T24 bt146.1 1).f1) == 53 && (((rd_T24 bt146.1 1).f2) == 2 && (!((rd_T24 bt146.1 1).f3))))) = true then (if (bt146.2.1.length : Int) = 1 then (if 0 < (bt146.2.1.length : Int) then (some (((rd_T32 bt146.2.1 0).f0) == 51 && (((rd_T32 bt146.2.1 0).f1) == 2))) else (none)) else (some false)) else (some false)) else (none)) else (some false)) else (some false)) else (some false)) else (none)) else (some false)) else (some false))) = some r := H
 have A1 := Aside0.mk A10
 clear A10
 replace H := Option.bind_eq_some_iff.mp H
 obtain ⟨⟨t146, t147, t148⟩, A20, H⟩ := H
 replace H : (if t145 = 0 then (if (t142.length : Int) = 1 then (if 0 < (t142.length : Int) then (if (((rd_T24 t142 0).f0) == 0 && (((rd_T24 t142 0).f1) == 50 && (((rd_T24 t142 0).f2) == 5 && (!((rd_T24 t142 0).f3))))) = true then (if t148 = 0 then (if (t146.length : Int) = 2 then (if 1 < (t146.length : Int) then (if (((rd_T24 t146 1).f0) == 3 && (((rd_T24 t146 1).f1) == 53 && (((rd_T24 t146 1).f2) == 2 && (!((rd_T24 t146 1).f3))))) = true then (if (t147.length : Int) = 1 then (if 0 < (t147.length : Int) then (some (((rd_T32 t147 0).f0) == 51 && (((rd_T32 t147 0).f1) == 2))) else (none)) else (some false)) else (some false)) else (none)) else (some false)) else (some false)) else (some false)) else (none)) else (some false)) else (some false)) = some r := H
 have A2 := Aside0.mk A20
 clear A20
 by_cases c3 : t145 = 0
 ·rw [if_pos c3] at H
  have c3b0 : (t145 == 0) = true := beq_iff_eq.mpr c3
  have c3b1 : (t145 != 0) = false := bne_eq_false_iff_eq.mpr c3
  clear c3
  by_cases c4 : (t142.length : Int) = 1
  ·rw [if_pos c4] at H
   have c4b0 : ((t142.length : Int) == 1) = true := beq_iff_eq.mpr c4
   have c4b1 : ((t142.length : Int) != 1) = false := bne_eq_false_iff_eq.mpr c4
   clear c4
   by_cases c5 : 0 < (t142.length : Int)
   ·rw [if_pos c5] at H
    have c5b0 : decide (0 < (t142.length : Int)) = true := decide_eq_true c5
    have c5b1 : decide (0 < t142.length) = true := decide_eq_true (by omega)
    clear c5
    by_cases c6 : (((rd_T24 t142 0).f0) == 0 && (((rd_T24 t142 0).f1) == 50 && (((rd_T24 t142 0).f2) == 5 && (!((rd_T24 t142 0).f3))))) = true
    ·rw [if_pos c6] at H
     have c6b0 : (((rd_T24 t142 0).f0) == 0 && (((rd_T24 t142 0).f1) == 50 && (((rd_T24 t142 0).f2) == 5 && (!((rd_T24 t142 0).f3))))) = true := c6
     (try (have c6b1 : decide (((rd_T24 t142 0).f0) = 0 && (((rd_T24 t142 0).f1) == 50 && (((rd_T24 t142 0).f2) == 5 && (!((rd_T24 t142 0).f3))))) = true := by simpa using c6))
     (try (have c6b2 : (((rd_T24 t142 0).f0) == 0 && (((rd_T24 t142 0).f1) == 50 && (((rd_T24 t142 0).f2) == 5 && (!((rd_T24 t142 0).f3))))) = true := by simpa using c6))
     clear c6
     by_cases c7 : t148 = 0
     ·rw [if_pos c7] at H
      have c7b0 : (t148 == 0) = true := beq_iff_eq.mpr c7
      have c7b1 : (t148 != 0) = false := bne_eq_false_iff_eq.mpr c7
      clear c7
      by_cases c8 : (t146.length : Int) = 2
      ·rw [if_pos c8] at H
       have c8b0 : ((t146.length : Int) == 2) = true := beq_iff_eq.mpr c8
       have c8b1 : ((t146.length : Int) != 2) = false := bne_eq_false_iff_eq.mpr c8
       clear c8
       by_cases c9 : 1 < (t146.length : Int)
       ·rw [if_pos c9] at H
        have c9b0 : decide (1 < (t146.length : Int)) = true := decide_eq_true c9
        have c9b1 : decide (1 < t146.length) = true := decide_eq_true (by omega)
        clear c9
        by_cases c10 : (((rd_T24 t146 1).f0) == 3 && (((rd_T24 t146 1).f1) == 53 && (((rd_T24 t146 1).f2) == 2 && (!((rd_T24 t146 1).f3))))) = true
        ·rw [if_pos c10] at H
         have c10b0 : (((rd_T24 t146 1).f0) == 3 && (((rd_T24 t146 1).f1) == 53 && (((rd_T24 t146 1).f2) == 2 && (!((rd_T24 t146 1).f3))))) = true := c10
         (try (have c10b1 : decide (((rd_T24 t146 1).f0) = 3 && (((rd_T24 t146 1).f1) == 53 && (((rd_T24 t146 1).f2) == 2 && (!((rd_T24 t146 1).f3))))) = true := by simpa using c10))
         (try (have c10b2 : (((rd_T24 t146 1).f0) == 3 && (((rd_T24 t146 1).f1) == 53 && (((rd_T24 t146 1).f2) == 2 && (!((rd_T24 t146 1).f3))))) = true := by simpa using c10))
         clear c10
         by_cases c11 : (t147.length : Int) = 1
         ·rw [if_pos c11] at H
          have c11b0 : ((t147.length : Int) == 1) = true := beq_iff_eq.mpr c11
          have c11b1 : ((t147.length : Int) != 1) = false := bne_eq_false_iff_eq.mpr c11
          clear c11
          by_cases c12 : 0 < (t147.length : Int)
          ·rw [if_pos c12] at H
           have c12b0 : decide (0 < (t147.length : Int)) = true := decide_eq_true c12
           have c12b1 : decide (0 < t147.length) = true := decide_eq_true (by omega)
           clear c12;obtain rfl := Option.some.inj H
           go_enter Try.func11, Try.ntmps11
           go_wp2_with (first | ((with_reducible refine gate_dst (N := 8) rfl ?_); (try (refine gate_guard (by rfl) ?_; dsimp only)); refine Kd.R_lit k24 _ 24 ?hg (N := 8) ?hd (xs := ([(⟨2, 52, 3, false⟩ : S24)] : List (S24))) (inner := [.int .i64 2, .int .i64 52, .int .i64 3, .bool false]) (ok := fun _ => True) (okp := fun _ => True) ?hr ?hp (fun _ hk => hk) trivial (Below.refl _ _) (Nat.le_refl _) (by simp) ?_; (case hd => rfl); (case hg => rfl); (case hr => first | (go_simp; done) | (go_simp; rfl)); (case hp => exact (Reps.c4 (show Kd.M k24 _ _ _ (⟨2, 52, 3, false⟩ : S24) [.int .i64 2, .int .i64 52, .int .i64 3, .bool false] from (k24_mkM _ _ _ (⟨2, 52, 3, false⟩ : S24) )) (Reps.none _ _))); intro v140 w13 ho14 hb hg_ hnew_; clear hg_ hnew_; (first | rw [← Ny139.out] at ho14 | (simp only [Int.reduceToNat] at ho14; rw [← Ny139.out] at ho14)); have n0_ := Aside0.mk (Kd.R_lower ho14 (below_size (by repeat (first | (with_reducible first | exact HB.out | apply below_alloc | apply pw_below_drewN | apply below_drew1) | exact HB.out)))); have n1_ := Aside0.mk (below_step (by repeat (first | (with_reducible first | exact HB.out | apply below_alloc | apply pw_below_drewN | apply below_drew1) | exact HB.out)) hb); clear HB; have HO141 := n0_; have HB := n1_; clear n0_ n1_; clear hb ho14; obtain ⟨Ao15, co15, eo15⟩ := Kd.R_slice HO141.out; subst eo15) | ((with_reducible refine gate_callee (f := 14) rfl ?_); refine goesL_ (some 10) rfl rfl Try.func14 (by kernel_rfl) rfl #[.slice Ao15 y139.length co15, .agg #[.int .i64 0, .int .i64 50, .int .i64 2, .bool false]] rfl (by (try simp only [List.map_toArray, List.map_cons, List.map_nil]); first | done | rfl | (simp only [List.length_drop, List.length_take]; rfl)) ?_; (with_reducible refine (extent_Put.calls k _ _ y139 0 50 2 false t142 t145 _ ?side1 ?side2 A1.out).mono ?_); (case side1 => repeat (first | exact (Kd.R_reads' HO141.out).2.2 | (with_reducible refine Kd.C_alloc ?_ _) | (with_reducible refine Kd.C_drewN ?_ _) | (with_reducible refine Kd.C_drew ?_))); (case side2 => exact (Kd.R_reads' HO141.out).2.1); rintro e w16 ⟨v143, rfl, ho0, hb⟩; refine ⟨_, rfl, ?_⟩; have n0_ := Aside0.mk (Kd.R_elder' (by (with_reducible repeat (first | apply Kd.R_alloc | apply Kd.R_drewN | apply Kd.R_drew)); exact HO141.out) (Kd.R_base ho0) hb); have n1_ := Aside0.mk (Kd.R_lower (Kd.R_new' ho0 (Kd.R_lt (by (with_reducible repeat (first | apply Kd.R_alloc | apply Kd.R_drewN | apply Kd.R_drew)); exact HO141.out))) (below_size (by repeat (first | (with_reducible first | exact HB.out | apply below_alloc | apply pw_below_drewN | apply below_drew1) | exact HB.out)))); have n2_ := Aside0.mk (below_step (by repeat (first | (with_reducible first | exact HB.out | apply below_alloc | apply pw_below_drewN | apply below_drew1) | exact HB.out)) hb); clear HO141; clear HB; have HO141 := n0_; have HO144 := n1_; have HB := n2_; clear n0_ n1_ n2_; (try clear hb); (try clear hb2); (try clear hk); (try clear hi); (try clear ho0); obtain ⟨Ao17, co17, eo17⟩ := Kd.R_slice HO144.out; subst eo17) | ((with_reducible refine gate_callee (f := 13) rfl ?_); refine goesL_ (some 15) rfl rfl Try.func13 (by kernel_rfl) rfl #[.slice Ao17 t142.length co17, .int .i64 1, .int .i64 3] rfl (by (try simp only [List.map_toArray, List.map_cons, List.map_nil]); first | done | rfl | (simp only [List.length_drop, List.length_take]; rfl)) ?_; (with_reducible refine (extent_Cut.calls k _ _ t142 1 3 t146 t147 t148 _ ?side1 ?side2 A2.out).mono ?_); (case side1 => repeat (first | exact (Kd.R_reads' HO144.out).2.2 | (with_reducible refine Kd.C_alloc ?_ _) | (with_reducible refine Kd.C_drewN ?_ _) | (with_reducible refine Kd.C_drew ?_))); (case side2 => exact (Kd.R_reads' HO144.out).2.1); rintro e w18 ⟨v149, v151, rfl, ho0, ho1, hb⟩; refine ⟨_, rfl, ?_⟩; have n0_ := Aside0.mk (Kd.R_elder' (by (with_reducible repeat (first | apply Kd.R_alloc | apply Kd.R_drewN | apply Kd.R_drew)); exact HO141.out) (Kd.R_base ho0) hb); have n1_ := Aside0.mk (Kd.R_elder' (by (with_reducible repeat (first | apply Kd.R_alloc | apply Kd.R_drewN | apply Kd.R_drew)); exact HO144.out) (Kd.R_base ho0) hb); have n2_ := Aside0.mk (Kd.R_lower (Kd.R_new' (Kd.R_new' ho0 (Kd.R_lt (by (with_reducible repeat (first | apply Kd.R_alloc | apply Kd.R_drewN | apply Kd.R_drew)); exact HO141.out))) (Kd.R_lt (by (with_reducible repeat (first | apply Kd.R_alloc | apply Kd.R_drewN | apply Kd.R_drew)); exact HO144.out))) (below_size (by repeat (first | (with_reducible first | exact HB.out | apply below_alloc | apply pw_below_drewN | apply below_drew1) | exact HB.out)))); have n3_ := Aside0.mk (Kd.R_lower ho1 (below_size (by repeat (first | (with_reducible first | exact HB.out | apply below_alloc | apply pw_below_drewN | apply below_drew1) | exact HB.out)))); have n4_ := Aside0.mk (below_step (by repeat (first | (with_reducible first | exact HB.out | apply below_alloc | apply pw_below_drewN | apply below_drew1) | exact HB.out)) hb); clear HO141; clear HO144; clear HB; have HO141 := n0_; have HO144 := n1_; have HO150 := n2_; have HO152 := n3_; have HB := n4_; clear n0_ n1_ n2_ n3_ n4_; (try clear hb); (try clear hb2); (try clear hk); (try clear hi); (try clear ho0); (try clear ho1); have p153 : 0 ≤ (0 : Int) := (by omega); have q153 : 0 < (t142.length : Int) := of_decide_eq_true (by first | (with_reducible assumption) | assumption); obtain ⟨ad153, e153, hx153_0, hx153_1, hx153_2, hx153_3⟩ := at_T24 (Kd.R_reads' HO144.out).2.2 0 p153 q153; cases e153; have qi153 : (0 < t142.length) = True := eq_true (by omega); (try rw [show ((0 : Int)).toNat = 0 from rfl] at hx153_0); (try rw [show 0 * 4 = 0 from rfl] at hx153_0); (try rw [Addr.add_zero'] at hx153_0); (try rw [show ((0 : Int)).toNat = 0 from rfl] at hx153_1); (try rw [show 0 * 4 = 0 from rfl] at hx153_1); (try rw [Addr.add_zero'] at hx153_1); (try rw [show ((0 : Int)).toNat = 0 from rfl] at hx153_2); (try rw [show 0 * 4 = 0 from rfl] at hx153_2); (try rw [Addr.add_zero'] at hx153_2); (try rw [show ((0 : Int)).toNat = 0 from rfl] at hx153_3); (try rw [show 0 * 4 = 0 from rfl] at hx153_3); (try rw [Addr.add_zero'] at hx153_3); replace p153 := eq_true p153; replace q153 := eq_true q153; obtain ⟨Ao19, co19, eo19⟩ := Kd.R_slice HO150.out; subst eo19; have p154 : 0 ≤ (1 : Int) := (by omega); have q154 : 1 < (t146.length : Int) := of_decide_eq_true (by first | (with_reducible assumption) | assumption); obtain ⟨ad154, e154, hx154_0, hx154_1, hx154_2, hx154_3⟩ := at_T24 (Kd.R_reads' HO150.out).2.2 1 p154 q154; cases e154; (try simp only [show (1 : Int).toNat = 1 from rfl, Nat.reduceMul, Nat.reduceEqDiff, Go.Addr.add, ↓reduceIte] at hx154_0); (try simp only [show (1 : Int).toNat = 1 from rfl, Nat.reduceMul, Nat.reduceEqDiff, Go.Addr.add, ↓reduceIte] at hx154_1); (try simp only [show (1 : Int).toNat = 1 from rfl, Nat.reduceMul, Nat.reduceEqDiff, Go.Addr.add, ↓reduceIte] at hx154_2); (try simp only [show (1 : Int).toNat = 1 from rfl, Nat.reduceMul, Nat.reduceEqDiff, Go.Addr.add, ↓reduceIte] at hx154_3); have qi154 : (1 < t146.length) = True := eq_true (by omega); (try rw [show ((1 : Int)).toNat = 1 from rfl] at hx154_0); (try rw [show 1 * 4 = 4 from rfl] at hx154_0); (try rw [show ((1 : Int)).toNat = 1 from rfl] at hx154_1); (try rw [show 1 * 4 = 4 from rfl] at hx154_1); (try rw [show ((1 : Int)).toNat = 1 from rfl] at hx154_2); (try rw [show 1 * 4 = 4 from rfl] at hx154_2); (try rw [show ((1 : Int)).toNat = 1 from rfl] at hx154_3); (try rw [show 1 * 4 = 4 from rfl] at hx154_3); replace p154 := eq_true p154; replace q154 := eq_true q154; obtain ⟨Ao20, co20, eo20⟩ := Kd.R_slice HO152.out; subst eo20; have p155 : 0 ≤ (0 : Int) := (by omega); have q155 : 0 < (t147.length : Int) := of_decide_eq_true (by first | (with_reducible assumption) | assumption); obtain ⟨ad155, e155, hx155_0, hx155_1⟩ := at_T32 (Kd.R_reads' HO152.out).2.2 0 p155 q155; cases e155; have qi155 : (0 < t147.length) = True := eq_true (by omega); (try rw [show ((0 : Int)).toNat = 0 from rfl] at hx155_0); (try rw [show 0 * 2 = 0 from rfl] at hx155_0); (try rw [Addr.add_zero'] at hx155_0); (try rw [show ((0 : Int)).toNat = 0 from rfl] at hx155_1); (try rw [show 0 * 2 = 0 from rfl] at hx155_1); (try rw [Addr.add_zero'] at hx155_1); replace p155 := eq_true p155; replace q155 := eq_true q155))
           go_ret
           exact ⟨by first | rfl | (simp [errW_none, errW_some] <;> rfl) | (simp [*, errW_none, errW_some] <;> rfl), by repeat (first | (with_reducible first | exact HB.out | apply below_alloc | apply pw_below_drewN | apply below_drew1) | exact HB.out)⟩
          ·rw [if_neg c12] at H
           exact absurd H (by simp)
         ·rw [if_neg c11] at H
          have c11b0 : ((t147.length : Int) == 1) = false := beq_eq_false_iff_ne.mpr c11
          have c11b1 : ((t147.length : Int) != 1) = true := bne_iff_ne.mpr c11
          obtain rfl := Option.some.inj H
          go_enter Try.func11, Try.ntmps11
          go_wp2_with (first | ((with_reducible refine gate_dst (N := 8) rfl ?_); (try (refine gate_guard (by rfl) ?_; dsimp only)); refine Kd.R_lit k24 _ 24 ?hg (N := 8) ?hd (xs := ([(⟨2, 52, 3, false⟩ : S24)] : List (S24))) (inner := [.int .i64 2, .int .i64 52, .int .i64 3, .bool false]) (ok := fun _ => True) (okp := fun _ => True) ?hr ?hp (fun _ hk => hk) trivial (Below.refl _ _) (Nat.le_refl _) (by simp) ?_; (case hd => rfl); (case hg => rfl); (case hr => first | (go_simp; done) | (go_simp; rfl)); (case hp => exact (Reps.c4 (show Kd.M k24 _ _ _ (⟨2, 52, 3, false⟩ : S24) [.int .i64 2, .int .i64 52, .int .i64 3, .bool false] from (k24_mkM _ _ _ (⟨2, 52, 3, false⟩ : S24) )) (Reps.none _ _))); intro v140 w21 ho22 hb hg_ hnew_; clear hg_ hnew_; (first | rw [← Ny139.out] at ho22 | (simp only [Int.reduceToNat] at ho22; rw [← Ny139.out] at ho22)); have n0_ := Aside0.mk (Kd.R_lower ho22 (below_size (by repeat (first | (with_reducible first | exact HB.out | apply below_alloc | apply pw_below_drewN | apply below_drew1) | exact HB.out)))); have n1_ := Aside0.mk (below_step (by repeat (first | (with_reducible first | exact HB.out | apply below_alloc | apply pw_below_drewN | apply below_drew1) | exact HB.out)) hb); clear HB; have HO141 := n0_; have HB := n1_; clear n0_ n1_; clear hb ho22; obtain ⟨Ao23, co23, eo23⟩ := Kd.R_slice HO141.out; subst eo23) | ((with_reducible refine gate_callee (f := 14) rfl ?_); refine goesL_ (some 10) rfl rfl Try.func14 (by kernel_rfl) rfl #[.slice Ao23 y139.length co23, .agg #[.int .i64 0, .int .i64 50, .int .i64 2, .bool false]] rfl (by (try simp only [List.map_toArray, List.map_cons, List.map_nil]); first | done | rfl | (simp only [List.length_drop, List.length_take]; rfl)) ?_; (with_reducible refine (extent_Put.calls k _ _ y139 0 50 2 false t142 t145 _ ?side1 ?side2 A1.out).mono ?_); (case side1 => repeat (first | exact (Kd.R_reads' HO141.out).2.2 | (with_reducible refine Kd.C_alloc ?_ _) | (with_reducible refine Kd.C_drewN ?_ _) | (with_reducible refine Kd.C_drew ?_))); (case side2 => exact (Kd.R_reads' HO141.out).2.1); rintro e w24 ⟨v143, rfl, ho0, hb⟩; refine ⟨_, rfl, ?_⟩; have n0_ := Aside0.mk (Kd.R_elder' (by (with_reducible repeat (first | apply Kd.R_alloc | apply Kd.R_drewN | apply Kd.R_drew)); exact HO141.out) (Kd.R_base ho0) hb); have n1_ := Aside0.mk (Kd.R_lower (Kd.R_new' ho0 (Kd.R_lt (by (with_reducible repeat (first | apply Kd.R_alloc | apply Kd.R_drewN | apply Kd.R_drew)); exact HO141.out))) (below_size (by repeat (first | (with_reducible first | exact HB.out | apply below_alloc | apply pw_below_drewN | apply below_drew1) | exact HB.out)))); have n2_ := Aside0.mk (below_step (by repeat (first | (with_reducible first | exact HB.out | apply below_alloc | apply pw_below_drewN | apply below_drew1) | exact HB.out)) hb); clear HO141; clear HB; have HO141 := n0_; have HO144 := n1_; have HB := n2_; clear n0_ n1_ n2_; (try clear hb); (try clear hb2); (try clear hk); (try clear hi); (try clear ho0); obtain ⟨Ao25, co25, eo25⟩ := Kd.R_slice HO144.out; subst eo25) | ((with_reducible refine gate_callee (f := 13) rfl ?_); refine goesL_ (some 15) rfl rfl Try.func13 (by kernel_rfl) rfl #[.slice Ao25 t142.length co25, .int .i64 1, .int .i64 3] rfl (by (try simp only [List.map_toArray, List.map_cons, List.map_nil]); first | done | rfl | (simp only [List.length_drop, List.length_take]; rfl)) ?_; (with_reducible refine (extent_Cut.calls k _ _ t142 1 3 t146 t147 t148 _ ?side1 ?side2 A2.out).mono ?_); (case side1 => repeat (first | exact (Kd.R_reads' HO144.out).2.2 | (with_reducible refine Kd.C_alloc ?_ _) | (with_reducible refine Kd.C_drewN ?_ _) | (with_reducible refine Kd.C_drew ?_))); (case side2 => exact (Kd.R_reads' HO144.out).2.1); rintro e w26 ⟨v149, v151, rfl, ho0, ho1, hb⟩; refine ⟨_, rfl, ?_⟩; have n0_ := Aside0.mk (Kd.R_elder' (by (with_reducible repeat (first | apply Kd.R_alloc | apply Kd.R_drewN | apply Kd.R_drew)); exact HO141.out) (Kd.R_base ho0) hb); have n1_ := Aside0.mk (Kd.R_elder' (by (with_reducible repeat (first | apply Kd.R_alloc | apply Kd.R_drewN | apply Kd.R_drew)); exact HO144.out) (Kd.R_base ho0) hb); have n2_ := Aside0.mk (Kd.R_lower (Kd.R_new' (Kd.R_new' ho0 (Kd.R_lt (by (with_reducible repeat (first | apply Kd.R_alloc | apply Kd.R_drewN | apply Kd.R_drew)); exact HO141.out))) (Kd.R_lt (by (with_reducible repeat (first | apply Kd.R_alloc | apply Kd.R_drewN | apply Kd.R_drew)); exact HO144.out))) (below_size (by repeat (first | (with_reducible first | exact HB.out | apply below_alloc | apply pw_below_drewN | apply below_drew1) | exact HB.out)))); have n3_ := Aside0.mk (Kd.R_lower ho1 (below_size (by repeat (first | (with_reducible first | exact HB.out | apply below_alloc | apply pw_below_drewN | apply below_drew1) | exact HB.out)))); have n4_ := Aside0.mk (below_step (by repeat (first | (with_reducible first | exact HB.out | apply below_alloc | apply pw_below_drewN | apply below_drew1) | exact HB.out)) hb); clear HO141; clear HO144; clear HB; have HO141 := n0_; have HO144 := n1_; have HO150 := n2_; have HO152 := n3_; have HB := n4_; clear n0_ n1_ n2_ n3_ n4_; (try clear hb); (try clear hb2); (try clear hk); (try clear hi); (try clear ho0); (try clear ho1); have p153 : 0 ≤ (0 : Int) := (by omega); have q153 : 0 < (t142.length : Int) := of_decide_eq_true (by first | (with_reducible assumption) | assumption); obtain ⟨ad153, e153, hx153_0, hx153_1, hx153_2, hx153_3⟩ := at_T24 (Kd.R_reads' HO144.out).2.2 0 p153 q153; cases e153; have qi153 : (0 < t142.length) = True := eq_true (by omega); (try rw [show ((0 : Int)).toNat = 0 from rfl] at hx153_0); (try rw [show 0 * 4 = 0 from rfl] at hx153_0); (try rw [Addr.add_zero'] at hx153_0); (try rw [show ((0 : Int)).toNat = 0 from rfl] at hx153_1); (try rw [show 0 * 4 = 0 from rfl] at hx153_1); (try rw [Addr.add_zero'] at hx153_1); (try rw [show ((0 : Int)).toNat = 0 from rfl] at hx153_2); (try rw [show 0 * 4 = 0 from rfl] at hx153_2); (try rw [Addr.add_zero'] at hx153_2); (try rw [show ((0 : Int)).toNat = 0 from rfl] at hx153_3); (try rw [show 0 * 4 = 0 from rfl] at hx153_3); (try rw [Addr.add_zero'] at hx153_3); replace p153 := eq_true p153; replace q153 := eq_true q153; obtain ⟨Ao27, co27, eo27⟩ := Kd.R_slice HO150.out; subst eo27; have p154 : 0 ≤ (1 : Int) := (by omega); have q154 : 1 < (t146.length : Int) := of_decide_eq_true (by first | (with_reducible assumption) | assumption); obtain ⟨ad154, e154, hx154_0, hx154_1, hx154_2, hx154_3⟩ := at_T24 (Kd.R_reads' HO150.out).2.2 1 p154 q154; cases e154; (try simp only [show (1 : Int).toNat = 1 from rfl, Nat.reduceMul, Nat.reduceEqDiff, Go.Addr.add, ↓reduceIte] at hx154_0); (try simp only [show (1 : Int).toNat = 1 from rfl, Nat.reduceMul, Nat.reduceEqDiff, Go.Addr.add, ↓reduceIte] at hx154_1); (try simp only [show (1 : Int).toNat = 1 from rfl, Nat.reduceMul, Nat.reduceEqDiff, Go.Addr.add, ↓reduceIte] at hx154_2); (try simp only [show (1 : Int).toNat = 1 from rfl, Nat.reduceMul, Nat.reduceEqDiff, Go.Addr.add, ↓reduceIte] at hx154_3); have qi154 : (1 < t146.length) = True := eq_true (by omega); (try rw [show ((1 : Int)).toNat = 1 from rfl] at hx154_0); (try rw [show 1 * 4 = 4 from rfl] at hx154_0); (try rw [show ((1 : Int)).toNat = 1 from rfl] at hx154_1); (try rw [show 1 * 4 = 4 from rfl] at hx154_1); (try rw [show ((1 : Int)).toNat = 1 from rfl] at hx154_2); (try rw [show 1 * 4 = 4 from rfl] at hx154_2); (try rw [show ((1 : Int)).toNat = 1 from rfl] at hx154_3); (try rw [show 1 * 4 = 4 from rfl] at hx154_3); replace p154 := eq_true p154; replace q154 := eq_true q154; obtain ⟨Ao28, co28, eo28⟩ := Kd.R_slice HO152.out; subst eo28))
          go_ret
          exact ⟨by first | rfl | (simp [errW_none, errW_some] <;> rfl) | (simp [*, errW_none, errW_some] <;> rfl), by repeat (first | (with_reducible first | exact HB.out | apply below_alloc | apply pw_below_drewN | apply below_drew1) | exact HB.out)⟩
        ·rw [if_neg c10] at H
         have c10b0 : (((rd_T24 t146 1).f0) == 3 && (((rd_T24 t146 1).f1) == 53 && (((rd_T24 t146 1).f2) == 2 && (!((rd_T24 t146 1).f3))))) = false := by simpa using c10
         (try (have c10b1 : decide (((rd_T24 t146 1).f0) = 3 && (((rd_T24 t146 1).f1) == 53 && (((rd_T24 t146 1).f2) == 2 && (!((rd_T24 t146 1).f3))))) = false := by simpa using c10))
         (try (have c10b2 : (((rd_T24 t146 1).f0) == 3 && (((rd_T24 t146 1).f1) == 53 && (((rd_T24 t146 1).f2) == 2 && (!((rd_T24 t146 1).f3))))) = false := by simpa using c10))
         (try (have c10b3 : ¬ (((rd_T24 t146 1).f0) = 3 && (((rd_T24 t146 1).f1) == 53 && (((rd_T24 t146 1).f2) == 2 && (!((rd_T24 t146 1).f3))))) := by simpa using c10))
         clear c10;obtain rfl := Option.some.inj H
         go_enter Try.func11, Try.ntmps11
         go_wp2_with (first | ((with_reducible refine gate_dst (N := 8) rfl ?_); (try (refine gate_guard (by rfl) ?_; dsimp only)); refine Kd.R_lit k24 _ 24 ?hg (N := 8) ?hd (xs := ([(⟨2, 52, 3, false⟩ : S24)] : List (S24))) (inner := [.int .i64 2, .int .i64 52, .int .i64 3, .bool false]) (ok := fun _ => True) (okp := fun _ => True) ?hr ?hp (fun _ hk => hk) trivial (Below.refl _ _) (Nat.le_refl _) (by simp) ?_; (case hd => rfl); (case hg => rfl); (case hr => first | (go_simp; done) | (go_simp; rfl)); (case hp => exact (Reps.c4 (show Kd.M k24 _ _ _ (⟨2, 52, 3, false⟩ : S24) [.int .i64 2, .int .i64 52, .int .i64 3, .bool false] from (k24_mkM _ _ _ (⟨2, 52, 3, false⟩ : S24) )) (Reps.none _ _))); intro v140 w29 ho30 hb hg_ hnew_; clear hg_ hnew_; (first | rw [← Ny139.out] at ho30 | (simp only [Int.reduceToNat] at ho30; rw [← Ny139.out] at ho30)); have n0_ := Aside0.mk (Kd.R_lower ho30 (below_size (by repeat (first | (with_reducible first | exact HB.out | apply below_alloc | apply pw_below_drewN | apply below_drew1) | exact HB.out)))); have n1_ := Aside0.mk (below_step (by repeat (first | (with_reducible first | exact HB.out | apply below_alloc | apply pw_below_drewN | apply below_drew1) | exact HB.out)) hb); clear HB; have HO141 := n0_; have HB := n1_; clear n0_ n1_; clear hb ho30; obtain ⟨Ao31, co31, eo31⟩ := Kd.R_slice HO141.out; subst eo31) | ((with_reducible refine gate_callee (f := 14) rfl ?_); refine goesL_ (some 10) rfl rfl Try.func14 (by kernel_rfl) rfl #[.slice Ao31 y139.length co31, .agg #[.int .i64 0, .int .i64 50, .int .i64 2, .bool false]] rfl (by (try simp only [List.map_toArray, List.map_cons, List.map_nil]); first | done | rfl | (simp only [List.length_drop, List.length_take]; rfl)) ?_; (with_reducible refine (extent_Put.calls k _ _ y139 0 50 2 false t142 t145 _ ?side1 ?side2 A1.out).mono ?_); (case side1 => repeat (first | exact (Kd.R_reads' HO141.out).2.2 | (with_reducible refine Kd.C_alloc ?_ _) | (with_reducible refine Kd.C_drewN ?_ _) | (with_reducible refine Kd.C_drew ?_))); (case side2 => exact (Kd.R_reads' HO141.out).2.1); rintro e w32 ⟨v143, rfl, ho0, hb⟩; refine ⟨_, rfl, ?_⟩; have n0_ := Aside0.mk (Kd.R_elder' (by (with_reducible repeat (first | apply Kd.R_alloc | apply Kd.R_drewN | apply Kd.R_drew)); exact HO141.out) (Kd.R_base ho0) hb); have n1_ := Aside0.mk (Kd.R_lower (Kd.R_new' ho0 (Kd.R_lt (by (with_reducible repeat (first | apply Kd.R_alloc | apply Kd.R_drewN | apply Kd.R_drew)); exact HO141.out))) (below_size (by repeat (first | (with_reducible first | exact HB.out | apply below_alloc | apply pw_below_drewN | apply below_drew1) | exact HB.out)))); have n2_ := Aside0.mk (below_step (by repeat (first | (with_reducible first | exact HB.out | apply below_alloc | apply pw_below_drewN | apply below_drew1) | exact HB.out)) hb); clear HO141; clear HB; have HO141 := n0_; have HO144 := n1_; have HB := n2_; clear n0_ n1_ n2_; (try clear hb); (try clear hb2); (try clear hk); (try clear hi); (try clear ho0); obtain ⟨Ao33, co33, eo33⟩ := Kd.R_slice HO144.out; subst eo33) | ((with_reducible refine gate_callee (f := 13) rfl ?_); refine goesL_ (some 15) rfl rfl Try.func13 (by kernel_rfl) rfl #[.slice Ao33 t142.length co33, .int .i64 1, .int .i64 3] rfl (by (try simp only [List.map_toArray, List.map_cons, List.map_nil]); first | done | rfl | (simp only [List.length_drop, List.length_take]; rfl)) ?_; (with_reducible refine (extent_Cut.calls k _ _ t142 1 3 t146 t147 t148 _ ?side1 ?side2 A2.out).mono ?_); (case side1 => repeat (first | exact (Kd.R_reads' HO144.out).2.2 | (with_reducible refine Kd.C_alloc ?_ _) | (with_reducible refine Kd.C_drewN ?_ _) | (with_reducible refine Kd.C_drew ?_))); (case side2 => exact (Kd.R_reads' HO144.out).2.1); rintro e w34 ⟨v149, v151, rfl, ho0, ho1, hb⟩; refine ⟨_, rfl, ?_⟩; have n0_ := Aside0.mk (Kd.R_elder' (by (with_reducible repeat (first | apply Kd.R_alloc | apply Kd.R_drewN | apply Kd.R_drew)); exact HO141.out) (Kd.R_base ho0) hb); have n1_ := Aside0.mk (Kd.R_elder' (by (with_reducible repeat (first | apply Kd.R_alloc | apply Kd.R_drewN | apply Kd.R_drew)); exact HO144.out) (Kd.R_base ho0) hb); have n2_ := Aside0.mk (Kd.R_lower (Kd.R_new' (Kd.R_new' ho0 (Kd.R_lt (by (with_reducible repeat (first | apply Kd.R_alloc | apply Kd.R_drewN | apply Kd.R_drew)); exact HO141.out))) (Kd.R_lt (by (with_reducible repeat (first | apply Kd.R_alloc | apply Kd.R_drewN | apply Kd.R_drew)); exact HO144.out))) (below_size (by repeat (first | (with_reducible first | exact HB.out | apply below_alloc | apply pw_below_drewN | apply below_drew1) | exact HB.out)))); have n3_ := Aside0.mk (Kd.R_lower ho1 (below_size (by repeat (first | (with_reducible first | exact HB.out | apply below_alloc | apply pw_below_drewN | apply below_drew1) | exact HB.out)))); have n4_ := Aside0.mk (below_step (by repeat (first | (with_reducible first | exact HB.out | apply below_alloc | apply pw_below_drewN | apply below_drew1) | exact HB.out)) hb); clear HO141; clear HO144; clear HB; have HO141 := n0_; have HO144 := n1_; have HO150 := n2_; have HO152 := n3_; have HB := n4_; clear n0_ n1_ n2_ n3_ n4_; (try clear hb); (try clear hb2); (try clear hk); (try clear hi); (try clear ho0); (try clear ho1); have p153 : 0 ≤ (0 : Int) := (by omega); have q153 : 0 < (t142.length : Int) := of_decide_eq_true (by first | (with_reducible assumption) | assumption); obtain ⟨ad153, e153, hx153_0, hx153_1, hx153_2, hx153_3⟩ := at_T24 (Kd.R_reads' HO144.out).2.2 0 p153 q153; cases e153; have qi153 : (0 < t142.length) = True := eq_true (by omega); (try rw [show ((0 : Int)).toNat = 0 from rfl] at hx153_0); (try rw [show 0 * 4 = 0 from rfl] at hx153_0); (try rw [Addr.add_zero'] at hx153_0); (try rw [show ((0 : Int)).toNat = 0 from rfl] at hx153_1); (try rw [show 0 * 4 = 0 from rfl] at hx153_1); (try rw [Addr.add_zero'] at hx153_1); (try rw [show ((0 : Int)).toNat = 0 from rfl] at hx153_2); (try rw [show 0 * 4 = 0 from rfl] at hx153_2); (try rw [Addr.add_zero'] at hx153_2); (try rw [show ((0 : Int)).toNat = 0 from rfl] at hx153_3); (try rw [show 0 * 4 = 0 from rfl] at hx153_3); (try rw [Addr.add_zero'] at hx153_3); replace p153 := eq_true p153; replace q153 := eq_true q153; obtain ⟨Ao35, co35, eo35⟩ := Kd.R_slice HO150.out; subst eo35; have p154 : 0 ≤ (1 : Int) := (by omega); have q154 : 1 < (t146.length : Int) := of_decide_eq_true (by first | (with_reducible assumption) | assumption); obtain ⟨ad154, e154, hx154_0, hx154_1, hx154_2, hx154_3⟩ := at_T24 (Kd.R_reads' HO150.out).2.2 1 p154 q154; cases e154; (try simp only [show (1 : Int).toNat = 1 from rfl, Nat.reduceMul, Nat.reduceEqDiff, Go.Addr.add, ↓reduceIte] at hx154_0); (try simp only [show (1 : Int).toNat = 1 from rfl, Nat.reduceMul, Nat.reduceEqDiff, Go.Addr.add, ↓reduceIte] at hx154_1); (try simp only [show (1 : Int).toNat = 1 from rfl, Nat.reduceMul, Nat.reduceEqDiff, Go.Addr.add, ↓reduceIte] at hx154_2); (try simp only [show (1 : Int).toNat = 1 from rfl, Nat.reduceMul, Nat.reduceEqDiff, Go.Addr.add, ↓reduceIte] at hx154_3); have qi154 : (1 < t146.length) = True := eq_true (by omega); (try rw [show ((1 : Int)).toNat = 1 from rfl] at hx154_0); (try rw [show 1 * 4 = 4 from rfl] at hx154_0); (try rw [show ((1 : Int)).toNat = 1 from rfl] at hx154_1); (try rw [show 1 * 4 = 4 from rfl] at hx154_1); (try rw [show ((1 : Int)).toNat = 1 from rfl] at hx154_2); (try rw [show 1 * 4 = 4 from rfl] at hx154_2); (try rw [show ((1 : Int)).toNat = 1 from rfl] at hx154_3); (try rw [show 1 * 4 = 4 from rfl] at hx154_3); replace p154 := eq_true p154; replace q154 := eq_true q154))
         go_ret
         exact ⟨by first | rfl | (simp [errW_none, errW_some] <;> rfl) | (simp [*, errW_none, errW_some] <;> rfl), by repeat (first | (with_reducible first | exact HB.out | apply below_alloc | apply pw_below_drewN | apply below_drew1) | exact HB.out)⟩
       ·rw [if_neg c9] at H
        exact absurd H (by simp)
      ·rw [if_neg c8] at H
       have c8b0 : ((t146.length : Int) == 2) = false := beq_eq_false_iff_ne.mpr c8
       have c8b1 : ((t146.length : Int) != 2) = true := bne_iff_ne.mpr c8
       obtain rfl := Option.some.inj H
       go_enter Try.func11, Try.ntmps11
       go_wp2_with (first | ((with_reducible refine gate_dst (N := 8) rfl ?_); (try (refine gate_guard (by rfl) ?_; dsimp only)); refine Kd.R_lit k24 _ 24 ?hg (N := 8) ?hd (xs := ([(⟨2, 52, 3, false⟩ : S24)] : List (S24))) (inner := [.int .i64 2, .int .i64 52, .int .i64 3, .bool false]) (ok := fun _ => True) (okp := fun _ => True) ?hr ?hp (fun _ hk => hk) trivial (Below.refl _ _) (Nat.le_refl _) (by simp) ?_; (case hd => rfl); (case hg => rfl); (case hr => first | (go_simp; done) | (go_simp; rfl)); (case hp => exact (Reps.c4 (show Kd.M k24 _ _ _ (⟨2, 52, 3, false⟩ : S24) [.int .i64 2, .int .i64 52, .int .i64 3, .bool false] from (k24_mkM _ _ _ (⟨2, 52, 3, false⟩ : S24) )) (Reps.none _ _))); intro v140 w36 ho37 hb hg_ hnew_; clear hg_ hnew_; (first | rw [← Ny139.out] at ho37 | (simp only [Int.reduceToNat] at ho37; rw [← Ny139.out] at ho37)); have n0_ := Aside0.mk (Kd.R_lower ho37 (below_size (by repeat (first | (with_reducible first | exact HB.out | apply below_alloc | apply pw_below_drewN | apply below_drew1) | exact HB.out)))); have n1_ := Aside0.mk (below_step (by repeat (first | (with_reducible first | exact HB.out | apply below_alloc | apply pw_below_drewN | apply below_drew1) | exact HB.out)) hb); clear HB; have HO141 := n0_; have HB := n1_; clear n0_ n1_; clear hb ho37; obtain ⟨Ao38, co38, eo38⟩ := Kd.R_slice HO141.out; subst eo38) | ((with_reducible refine gate_callee (f := 14) rfl ?_); refine goesL_ (some 10) rfl rfl Try.func14 (by kernel_rfl) rfl #[.slice Ao38 y139.length co38, .agg #[.int .i64 0, .int .i64 50, .int .i64 2, .bool false]] rfl (by (try simp only [List.map_toArray, List.map_cons, List.map_nil]); first | done | rfl | (simp only [List.length_drop, List.length_take]; rfl)) ?_; (with_reducible refine (extent_Put.calls k _ _ y139 0 50 2 false t142 t145 _ ?side1 ?side2 A1.out).mono ?_); (case side1 => repeat (first | exact (Kd.R_reads' HO141.out).2.2 | (with_reducible refine Kd.C_alloc ?_ _) | (with_reducible refine Kd.C_drewN ?_ _) | (with_reducible refine Kd.C_drew ?_))); (case side2 => exact (Kd.R_reads' HO141.out).2.1); rintro e w39 ⟨v143, rfl, ho0, hb⟩; refine ⟨_, rfl, ?_⟩; have n0_ := Aside0.mk (Kd.R_elder' (by (with_reducible repeat (first | apply Kd.R_alloc | apply Kd.R_drewN | apply Kd.R_drew)); exact HO141.out) (Kd.R_base ho0) hb); have n1_ := Aside0.mk (Kd.R_lower (Kd.R_new' ho0 (Kd.R_lt (by (with_reducible repeat (first | apply Kd.R_alloc | apply Kd.R_drewN | apply Kd.R_drew)); exact HO141.out))) (below_size (by repeat (first | (with_reducible first | exact HB.out | apply below_alloc | apply pw_below_drewN | apply below_drew1) | exact HB.out)))); have n2_ := Aside0.mk (below_step (by repeat (first | (with_reducible first | exact HB.out | apply below_alloc | apply pw_below_drewN | apply below_drew1) | exact HB.out)) hb); clear HO141; clear HB; have HO141 := n0_; have HO144 := n1_; have HB := n2_; clear n0_ n1_ n2_; (try clear hb); (try clear hb2); (try clear hk); (try clear hi); (try clear ho0); obtain ⟨Ao40, co40, eo40⟩ := Kd.R_slice HO144.out; subst eo40) | ((with_reducible refine gate_callee (f := 13) rfl ?_); refine goesL_ (some 15) rfl rfl Try.func13 (by kernel_rfl) rfl #[.slice Ao40 t142.length co40, .int .i64 1, .int .i64 3] rfl (by (try simp only [List.map_toArray, List.map_cons, List.map_nil]); first | done | rfl | (simp only [List.length_drop, List.length_take]; rfl)) ?_; (with_reducible refine (extent_Cut.calls k _ _ t142 1 3 t146 t147 t148 _ ?side1 ?side2 A2.out).mono ?_); (case side1 => repeat (first | exact (Kd.R_reads' HO144.out).2.2 | (with_reducible refine Kd.C_alloc ?_ _) | (with_reducible refine Kd.C_drewN ?_ _) | (with_reducible refine Kd.C_drew ?_))); (case side2 => exact (Kd.R_reads' HO144.out).2.1); rintro e w41 ⟨v149, v151, rfl, ho0, ho1, hb⟩; refine ⟨_, rfl, ?_⟩; have n0_ := Aside0.mk (Kd.R_elder' (by (with_reducible repeat (first | apply Kd.R_alloc | apply Kd.R_drewN | apply Kd.R_drew)); exact HO141.out) (Kd.R_base ho0) hb); have n1_ := Aside0.mk (Kd.R_elder' (by (with_reducible repeat (first | apply Kd.R_alloc | apply Kd.R_drewN | apply Kd.R_drew)); exact HO144.out) (Kd.R_base ho0) hb); have n2_ := Aside0.mk (Kd.R_lower (Kd.R_new' (Kd.R_new' ho0 (Kd.R_lt (by (with_reducible repeat (first | apply Kd.R_alloc | apply Kd.R_drewN | apply Kd.R_drew)); exact HO141.out))) (Kd.R_lt (by (with_reducible repeat (first | apply Kd.R_alloc | apply Kd.R_drewN | apply Kd.R_drew)); exact HO144.out))) (below_size (by repeat (first | (with_reducible first | exact HB.out | apply below_alloc | apply pw_below_drewN | apply below_drew1) | exact HB.out)))); have n3_ := Aside0.mk (Kd.R_lower ho1 (below_size (by repeat (first | (with_reducible first | exact HB.out | apply below_alloc | apply pw_below_drewN | apply below_drew1) | exact HB.out)))); have n4_ := Aside0.mk (below_step (by repeat (first | (with_reducible first | exact HB.out | apply below_alloc | apply pw_below_drewN | apply below_drew1) | exact HB.out)) hb); clear HO141; clear HO144; clear HB; have HO141 := n0_; have HO144 := n1_; have HO150 := n2_; have HO152 := n3_; have HB := n4_; clear n0_ n1_ n2_ n3_ n4_; (try clear hb); (try clear hb2); (try clear hk); (try clear hi); (try clear ho0); (try clear ho1); have p153 : 0 ≤ (0 : Int) := (by omega); have q153 : 0 < (t142.length : Int) := of_decide_eq_true (by first | (with_reducible assumption) | assumption); obtain ⟨ad153, e153, hx153_0, hx153_1, hx153_2, hx153_3⟩ := at_T24 (Kd.R_reads' HO144.out).2.2 0 p153 q153; cases e153; have qi153 : (0 < t142.length) = True := eq_true (by omega); (try rw [show ((0 : Int)).toNat = 0 from rfl] at hx153_0); (try rw [show 0 * 4 = 0 from rfl] at hx153_0); (try rw [Addr.add_zero'] at hx153_0); (try rw [show ((0 : Int)).toNat = 0 from rfl] at hx153_1); (try rw [show 0 * 4 = 0 from rfl] at hx153_1); (try rw [Addr.add_zero'] at hx153_1); (try rw [show ((0 : Int)).toNat = 0 from rfl] at hx153_2); (try rw [show 0 * 4 = 0 from rfl] at hx153_2); (try rw [Addr.add_zero'] at hx153_2); (try rw [show ((0 : Int)).toNat = 0 from rfl] at hx153_3); (try rw [show 0 * 4 = 0 from rfl] at hx153_3); (try rw [Addr.add_zero'] at hx153_3); replace p153 := eq_true p153; replace q153 := eq_true q153; obtain ⟨Ao42, co42, eo42⟩ := Kd.R_slice HO150.out; subst eo42))
       go_ret
       exact ⟨by first | rfl | (simp [errW_none, errW_some] <;> rfl) | (simp [*, errW_none, errW_some] <;> rfl), by repeat (first | (with_reducible first | exact HB.out | apply below_alloc | apply pw_below_drewN | apply below_drew1) | exact HB.out)⟩
     ·rw [if_neg c7] at H
      have c7b0 : (t148 == 0) = false := beq_eq_false_iff_ne.mpr c7
      have c7b1 : (t148 != 0) = true := bne_iff_ne.mpr c7
      obtain rfl := Option.some.inj H
      go_enter Try.func11, Try.ntmps11
      go_wp2_with (first | ((with_reducible refine gate_dst (N := 8) rfl ?_); (try (refine gate_guard (by rfl) ?_; dsimp only)); refine Kd.R_lit k24 _ 24 ?hg (N := 8) ?hd (xs := ([(⟨2, 52, 3, false⟩ : S24)] : List (S24))) (inner := [.int .i64 2, .int .i64 52, .int .i64 3, .bool false]) (ok := fun _ => True) (okp := fun _ => True) ?hr ?hp (fun _ hk => hk) trivial (Below.refl _ _) (Nat.le_refl _) (by simp) ?_; (case hd => rfl); (case hg => rfl); (case hr => first | (go_simp; done) | (go_simp; rfl)); (case hp => exact (Reps.c4 (show Kd.M k24 _ _ _ (⟨2, 52, 3, false⟩ : S24) [.int .i64 2, .int .i64 52, .int .i64 3, .bool false] from (k24_mkM _ _ _ (⟨2, 52, 3, false⟩ : S24) )) (Reps.none _ _))); intro v140 w43 ho44 hb hg_ hnew_; clear hg_ hnew_; (first | rw [← Ny139.out] at ho44 | (simp only [Int.reduceToNat] at ho44; rw [← Ny139.out] at ho44)); have n0_ := Aside0.mk (Kd.R_lower ho44 (below_size (by repeat (first | (with_reducible first | exact HB.out | apply below_alloc | apply pw_below_drewN | apply below_drew1) | exact HB.out)))); have n1_ := Aside0.mk (below_step (by repeat (first | (with_reducible first | exact HB.out | apply below_alloc | apply pw_below_drewN | apply below_drew1) | exact HB.out)) hb); clear HB; have HO141 := n0_; have HB := n1_; clear n0_ n1_; clear hb ho44; obtain ⟨Ao45, co45, eo45⟩ := Kd.R_slice HO141.out; subst eo45) | ((with_reducible refine gate_callee (f := 14) rfl ?_); refine goesL_ (some 10) rfl rfl Try.func14 (by kernel_rfl) rfl #[.slice Ao45 y139.length co45, .agg #[.int .i64 0, .int .i64 50, .int .i64 2, .bool false]] rfl (by (try simp only [List.map_toArray, List.map_cons, List.map_nil]); first | done | rfl | (simp only [List.length_drop, List.length_take]; rfl)) ?_; (with_reducible refine (extent_Put.calls k _ _ y139 0 50 2 false t142 t145 _ ?side1 ?side2 A1.out).mono ?_); (case side1 => repeat (first | exact (Kd.R_reads' HO141.out).2.2 | (with_reducible refine Kd.C_alloc ?_ _) | (with_reducible refine Kd.C_drewN ?_ _) | (with_reducible refine Kd.C_drew ?_))); (case side2 => exact (Kd.R_reads' HO141.out).2.1); rintro e w46 ⟨v143, rfl, ho0, hb⟩; refine ⟨_, rfl, ?_⟩; have n0_ := Aside0.mk (Kd.R_elder' (by (with_reducible repeat (first | apply Kd.R_alloc | apply Kd.R_drewN | apply Kd.R_drew)); exact HO141.out) (Kd.R_base ho0) hb); have n1_ := Aside0.mk (Kd.R_lower (Kd.R_new' ho0 (Kd.R_lt (by (with_reducible repeat (first | apply Kd.R_alloc | apply Kd.R_drewN | apply Kd.R_drew)); exact HO141.out))) (below_size (by repeat (first | (with_reducible first | exact HB.out | apply below_alloc | apply pw_below_drewN | apply below_drew1) | exact HB.out)))); have n2_ := Aside0.mk (below_step (by repeat (first | (with_reducible first | exact HB.out | apply below_alloc | apply pw_below_drewN | apply below_drew1) | exact HB.out)) hb); clear HO141; clear HB; have HO141 := n0_; have HO144 := n1_; have HB := n2_; clear n0_ n1_ n2_; (try clear hb); (try clear hb2); (try clear hk); (try clear hi); (try clear ho0); obtain ⟨Ao47, co47, eo47⟩ := Kd.R_slice HO144.out; subst eo47) | ((with_reducible refine gate_callee (f := 13) rfl ?_); refine goesL_ (some 15) rfl rfl Try.func13 (by kernel_rfl) rfl #[.slice Ao47 t142.length co47, .int .i64 1, .int .i64 3] rfl (by (try simp only [List.map_toArray, List.map_cons, List.map_nil]); first | done | rfl | (simp only [List.length_drop, List.length_take]; rfl)) ?_; (with_reducible refine (extent_Cut.calls k _ _ t142 1 3 t146 t147 t148 _ ?side1 ?side2 A2.out).mono ?_); (case side1 => repeat (first | exact (Kd.R_reads' HO144.out).2.2 | (with_reducible refine Kd.C_alloc ?_ _) | (with_reducible refine Kd.C_drewN ?_ _) | (with_reducible refine Kd.C_drew ?_))); (case side2 => exact (Kd.R_reads' HO144.out).2.1); rintro e w48 ⟨v149, v151, rfl, ho0, ho1, hb⟩; refine ⟨_, rfl, ?_⟩; have n0_ := Aside0.mk (Kd.R_elder' (by (with_reducible repeat (first | apply Kd.R_alloc | apply Kd.R_drewN | apply Kd.R_drew)); exact HO141.out) (Kd.R_base ho0) hb); have n1_ := Aside0.mk (Kd.R_elder' (by (with_reducible repeat (first | apply Kd.R_alloc | apply Kd.R_drewN | apply Kd.R_drew)); exact HO144.out) (Kd.R_base ho0) hb); have n2_ := Aside0.mk (Kd.R_lower (Kd.R_new' (Kd.R_new' ho0 (Kd.R_lt (by (with_reducible repeat (first | apply Kd.R_alloc | apply Kd.R_drewN | apply Kd.R_drew)); exact HO141.out))) (Kd.R_lt (by (with_reducible repeat (first | apply Kd.R_alloc | apply Kd.R_drewN | apply Kd.R_drew)); exact HO144.out))) (below_size (by repeat (first | (with_reducible first | exact HB.out | apply below_alloc | apply pw_below_drewN | apply below_drew1) | exact HB.out)))); have n3_ := Aside0.mk (Kd.R_lower ho1 (below_size (by repeat (first | (with_reducible first | exact HB.out | apply below_alloc | apply pw_below_drewN | apply below_drew1) | exact HB.out)))); have n4_ := Aside0.mk (below_step (by repeat (first | (with_reducible first | exact HB.out | apply below_alloc | apply pw_below_drewN | apply below_drew1) | exact HB.out)) hb); clear HO141; clear HO144; clear HB; have HO141 := n0_; have HO144 := n1_; have HO150 := n2_; have HO152 := n3_; have HB := n4_; clear n0_ n1_ n2_ n3_ n4_; (try clear hb); (try clear hb2); (try clear hk); (try clear hi); (try clear ho0); (try clear ho1); have p153 : 0 ≤ (0 : Int) := (by omega); have q153 : 0 < (t142.length : Int) := of_decide_eq_true (by first | (with_reducible assumption) | assumption); obtain ⟨ad153, e153, hx153_0, hx153_1, hx153_2, hx153_3⟩ := at_T24 (Kd.R_reads' HO144.out).2.2 0 p153 q153; cases e153; have qi153 : (0 < t142.length) = True := eq_true (by omega); (try rw [show ((0 : Int)).toNat = 0 from rfl] at hx153_0); (try rw [show 0 * 4 = 0 from rfl] at hx153_0); (try rw [Addr.add_zero'] at hx153_0); (try rw [show ((0 : Int)).toNat = 0 from rfl] at hx153_1); (try rw [show 0 * 4 = 0 from rfl] at hx153_1); (try rw [Addr.add_zero'] at hx153_1); (try rw [show ((0 : Int)).toNat = 0 from rfl] at hx153_2); (try rw [show 0 * 4 = 0 from rfl] at hx153_2); (try rw [Addr.add_zero'] at hx153_2); (try rw [show ((0 : Int)).toNat = 0 from rfl] at hx153_3); (try rw [show 0 * 4 = 0 from rfl] at hx153_3); (try rw [Addr.add_zero'] at hx153_3); replace p153 := eq_true p153; replace q153 := eq_true q153))
      go_ret
      exact ⟨by first | rfl | (simp [errW_none, errW_some] <;> rfl) | (simp [*, errW_none, errW_some] <;> rfl), by repeat (first | (with_reducible first | exact HB.out | apply below_alloc | apply pw_below_drewN | apply below_drew1) | exact HB.out)⟩
    ·rw [if_neg c6] at H
     have c6b0 : (((rd_T24 t142 0).f0) == 0 && (((rd_T24 t142 0).f1) == 50 && (((rd_T24 t142 0).f2) == 5 && (!((rd_T24 t142 0).f3))))) = false := by simpa using c6
     (try (have c6b1 : decide (((rd_T24 t142 0).f0) = 0 && (((rd_T24 t142 0).f1) == 50 && (((rd_T24 t142 0).f2) == 5 && (!((rd_T24 t142 0).f3))))) = false := by simpa using c6))
     (try (have c6b2 : (((rd_T24 t142 0).f0) == 0 && (((rd_T24 t142 0).f1) == 50 && (((rd_T24 t142 0).f2) == 5 && (!((rd_T24 t142 0).f3))))) = false := by simpa using c6))
     (try (have c6b3 : ¬ (((rd_T24 t142 0).f0) = 0 && (((rd_T24 t142 0).f1) == 50 && (((rd_T24 t142 0).f2) == 5 && (!((rd_T24 t142 0).f3))))) := by simpa using c6))
     clear c6;obtain rfl := Option.some.inj H
     go_enter Try.func11, Try.ntmps11
     go_wp2_with (first | ((with_reducible refine gate_dst (N := 8) rfl ?_); (try (refine gate_guard (by rfl) ?_; dsimp only)); refine Kd.R_lit k24 _ 24 ?hg (N := 8) ?hd (xs := ([(⟨2, 52, 3, false⟩ : S24)] : List (S24))) (inner := [.int .i64 2, .int .i64 52, .int .i64 3, .bool false]) (ok := fun _ => True) (okp := fun _ => True) ?hr ?hp (fun _ hk => hk) trivial (Below.refl _ _) (Nat.le_refl _) (by simp) ?_; (case hd => rfl); (case hg => rfl); (case hr => first | (go_simp; done) | (go_simp; rfl)); (case hp => exact (Reps.c4 (show Kd.M k24 _ _ _ (⟨2, 52, 3, false⟩ : S24) [.int .i64 2, .int .i64 52, .int .i64 3, .bool false] from (k24_mkM _ _ _ (⟨2, 52, 3, false⟩ : S24) )) (Reps.none _ _))); intro v140 w49 ho50 hb hg_ hnew_; clear hg_ hnew_; (first | rw [← Ny139.out] at ho50 | (simp only [Int.reduceToNat] at ho50; rw [← Ny139.out] at ho50)); have n0_ := Aside0.mk (Kd.R_lower ho50 (below_size (by repeat (first | (with_reducible first | exact HB.out | apply below_alloc | apply pw_below_drewN | apply below_drew1) | exact HB.out)))); have n1_ := Aside0.mk (below_step (by repeat (first | (with_reducible first | exact HB.out | apply below_alloc | apply pw_below_drewN | apply below_drew1) | exact HB.out)) hb); clear HB; have HO141 := n0_; have HB := n1_; clear n0_ n1_; clear hb ho50; obtain ⟨Ao51, co51, eo51⟩ := Kd.R_slice HO141.out; subst eo51) | ((with_reducible refine gate_callee (f := 14) rfl ?_); refine goesL_ (some 10) rfl rfl Try.func14 (by kernel_rfl) rfl #[.slice Ao51 y139.length co51, .agg #[.int .i64 0, .int .i64 50, .int .i64 2, .bool false]] rfl (by (try simp only [List.map_toArray, List.map_cons, List.map_nil]); first | done | rfl | (simp only [List.length_drop, List.length_take]; rfl)) ?_; (with_reducible refine (extent_Put.calls k _ _ y139 0 50 2 false t142 t145 _ ?side1 ?side2 A1.out).mono ?_); (case side1 => repeat (first | exact (Kd.R_reads' HO141.out).2.2 | (with_reducible refine Kd.C_alloc ?_ _) | (with_reducible refine Kd.C_drewN ?_ _) | (with_reducible refine Kd.C_drew ?_))); (case side2 => exact (Kd.R_reads' HO141.out).2.1); rintro e w52 ⟨v143, rfl, ho0, hb⟩; refine ⟨_, rfl, ?_⟩; have n0_ := Aside0.mk (Kd.R_elder' (by (with_reducible repeat (first | apply Kd.R_alloc | apply Kd.R_drewN | apply Kd.R_drew)); exact HO141.out) (Kd.R_base ho0) hb); have n1_ := Aside0.mk (Kd.R_lower (Kd.R_new' ho0 (Kd.R_lt (by (with_reducible repeat (first | apply Kd.R_alloc | apply Kd.R_drewN | apply Kd.R_drew)); exact HO141.out))) (below_size (by repeat (first | (with_reducible first | exact HB.out | apply below_alloc | apply pw_below_drewN | apply below_drew1) | exact HB.out)))); have n2_ := Aside0.mk (below_step (by repeat (first | (with_reducible first | exact HB.out | apply below_alloc | apply pw_below_drewN | apply below_drew1) | exact HB.out)) hb); clear HO141; clear HB; have HO141 := n0_; have HO144 := n1_; have HB := n2_; clear n0_ n1_ n2_; (try clear hb); (try clear hb2); (try clear hk); (try clear hi); (try clear ho0); obtain ⟨Ao53, co53, eo53⟩ := Kd.R_slice HO144.out; subst eo53) | ((with_reducible refine gate_callee (f := 13) rfl ?_); refine goesL_ (some 15) rfl rfl Try.func13 (by kernel_rfl) rfl #[.slice Ao53 t142.length co53, .int .i64 1, .int .i64 3] rfl (by (try simp only [List.map_toArray, List.map_cons, List.map_nil]); first | done | rfl | (simp only [List.length_drop, List.length_take]; rfl)) ?_; (with_reducible refine (extent_Cut.calls k _ _ t142 1 3 t146 t147 t148 _ ?side1 ?side2 A2.out).mono ?_); (case side1 => repeat (first | exact (Kd.R_reads' HO144.out).2.2 | (with_reducible refine Kd.C_alloc ?_ _) | (with_reducible refine Kd.C_drewN ?_ _) | (with_reducible refine Kd.C_drew ?_))); (case side2 => exact (Kd.R_reads' HO144.out).2.1); rintro e w54 ⟨v149, v151, rfl, ho0, ho1, hb⟩; refine ⟨_, rfl, ?_⟩; have n0_ := Aside0.mk (Kd.R_elder' (by (with_reducible repeat (first | apply Kd.R_alloc | apply Kd.R_drewN | apply Kd.R_drew)); exact HO141.out) (Kd.R_base ho0) hb); have n1_ := Aside0.mk (Kd.R_elder' (by (with_reducible repeat (first | apply Kd.R_alloc | apply Kd.R_drewN | apply Kd.R_drew)); exact HO144.out) (Kd.R_base ho0) hb); have n2_ := Aside0.mk (Kd.R_lower (Kd.R_new' (Kd.R_new' ho0 (Kd.R_lt (by (with_reducible repeat (first | apply Kd.R_alloc | apply Kd.R_drewN | apply Kd.R_drew)); exact HO141.out))) (Kd.R_lt (by (with_reducible repeat (first | apply Kd.R_alloc | apply Kd.R_drewN | apply Kd.R_drew)); exact HO144.out))) (below_size (by repeat (first | (with_reducible first | exact HB.out | apply below_alloc | apply pw_below_drewN | apply below_drew1) | exact HB.out)))); have n3_ := Aside0.mk (Kd.R_lower ho1 (below_size (by repeat (first | (with_reducible first | exact HB.out | apply below_alloc | apply pw_below_drewN | apply below_drew1) | exact HB.out)))); have n4_ := Aside0.mk (below_step (by repeat (first | (with_reducible first | exact HB.out | apply below_alloc | apply pw_below_drewN | apply below_drew1) | exact HB.out)) hb); clear HO141; clear HO144; clear HB; have HO141 := n0_; have HO144 := n1_; have HO150 := n2_; have HO152 := n3_; have HB := n4_; clear n0_ n1_ n2_ n3_ n4_; (try clear hb); (try clear hb2); (try clear hk); (try clear hi); (try clear ho0); (try clear ho1); have p153 : 0 ≤ (0 : Int) := (by omega); have q153 : 0 < (t142.length : Int) := of_decide_eq_true (by first | (with_reducible assumption) | assumption); obtain ⟨ad153, e153, hx153_0, hx153_1, hx153_2, hx153_3⟩ := at_T24 (Kd.R_reads' HO144.out).2.2 0 p153 q153; cases e153; have qi153 : (0 < t142.length) = True := eq_true (by omega); (try rw [show ((0 : Int)).toNat = 0 from rfl] at hx153_0); (try rw [show 0 * 4 = 0 from rfl] at hx153_0); (try rw [Addr.add_zero'] at hx153_0); (try rw [show ((0 : Int)).toNat = 0 from rfl] at hx153_1); (try rw [show 0 * 4 = 0 from rfl] at hx153_1); (try rw [Addr.add_zero'] at hx153_1); (try rw [show ((0 : Int)).toNat = 0 from rfl] at hx153_2); (try rw [show 0 * 4 = 0 from rfl] at hx153_2); (try rw [Addr.add_zero'] at hx153_2); (try rw [show ((0 : Int)).toNat = 0 from rfl] at hx153_3); (try rw [show 0 * 4 = 0 from rfl] at hx153_3); (try rw [Addr.add_zero'] at hx153_3); replace p153 := eq_true p153; replace q153 := eq_true q153))
     go_ret
     exact ⟨by first | rfl | (simp [errW_none, errW_some] <;> rfl) | (simp [*, errW_none, errW_some] <;> rfl), by repeat (first | (with_reducible first | exact HB.out | apply below_alloc | apply pw_below_drewN | apply below_drew1) | exact HB.out)⟩
   ·rw [if_neg c5] at H
    exact absurd H (by simp)
  ·rw [if_neg c4] at H
   have c4b0 : ((t142.length : Int) == 1) = false := beq_eq_false_iff_ne.mpr c4
   have c4b1 : ((t142.length : Int) != 1) = true := bne_iff_ne.mpr c4
   obtain rfl := Option.some.inj H
   go_enter Try.func11, Try.ntmps11
   go_wp2_with (first | ((with_reducible refine gate_dst (N := 8) rfl ?_); (try (refine gate_guard (by rfl) ?_; dsimp only)); refine Kd.R_lit k24 _ 24 ?hg (N := 8) ?hd (xs := ([(⟨2, 52, 3, false⟩ : S24)] : List (S24))) (inner := [.int .i64 2, .int .i64 52, .int .i64 3, .bool false]) (ok := fun _ => True) (okp := fun _ => True) ?hr ?hp (fun _ hk => hk) trivial (Below.refl _ _) (Nat.le_refl _) (by simp) ?_; (case hd => rfl); (case hg => rfl); (case hr => first | (go_simp; done) | (go_simp; rfl)); (case hp => exact (Reps.c4 (show Kd.M k24 _ _ _ (⟨2, 52, 3, false⟩ : S24) [.int .i64 2, .int .i64 52, .int .i64 3, .bool false] from (k24_mkM _ _ _ (⟨2, 52, 3, false⟩ : S24) )) (Reps.none _ _))); intro v140 w55 ho56 hb hg_ hnew_; clear hg_ hnew_; (first | rw [← Ny139.out] at ho56 | (simp only [Int.reduceToNat] at ho56; rw [← Ny139.out] at ho56)); have n0_ := Aside0.mk (Kd.R_lower ho56 (below_size (by repeat (first | (with_reducible first | exact HB.out | apply below_alloc | apply pw_below_drewN | apply below_drew1) | exact HB.out)))); have n1_ := Aside0.mk (below_step (by repeat (first | (with_reducible first | exact HB.out | apply below_alloc | apply pw_below_drewN | apply below_drew1) | exact HB.out)) hb); clear HB; have HO141 := n0_; have HB := n1_; clear n0_ n1_; clear hb ho56; obtain ⟨Ao57, co57, eo57⟩ := Kd.R_slice HO141.out; subst eo57) | ((with_reducible refine gate_callee (f := 14) rfl ?_); refine goesL_ (some 10) rfl rfl Try.func14 (by kernel_rfl) rfl #[.slice Ao57 y139.length co57, .agg #[.int .i64 0, .int .i64 50, .int .i64 2, .bool false]] rfl (by (try simp only [List.map_toArray, List.map_cons, List.map_nil]); first | done | rfl | (simp only [List.length_drop, List.length_take]; rfl)) ?_; (with_reducible refine (extent_Put.calls k _ _ y139 0 50 2 false t142 t145 _ ?side1 ?side2 A1.out).mono ?_); (case side1 => repeat (first | exact (Kd.R_reads' HO141.out).2.2 | (with_reducible refine Kd.C_alloc ?_ _) | (with_reducible refine Kd.C_drewN ?_ _) | (with_reducible refine Kd.C_drew ?_))); (case side2 => exact (Kd.R_reads' HO141.out).2.1); rintro e w58 ⟨v143, rfl, ho0, hb⟩; refine ⟨_, rfl, ?_⟩; have n0_ := Aside0.mk (Kd.R_elder' (by (with_reducible repeat (first | apply Kd.R_alloc | apply Kd.R_drewN | apply Kd.R_drew)); exact HO141.out) (Kd.R_base ho0) hb); have n1_ := Aside0.mk (Kd.R_lower (Kd.R_new' ho0 (Kd.R_lt (by (with_reducible repeat (first | apply Kd.R_alloc | apply Kd.R_drewN | apply Kd.R_drew)); exact HO141.out))) (below_size (by repeat (first | (with_reducible first | exact HB.out | apply below_alloc | apply pw_below_drewN | apply below_drew1) | exact HB.out)))); have n2_ := Aside0.mk (below_step (by repeat (first | (with_reducible first | exact HB.out | apply below_alloc | apply pw_below_drewN | apply below_drew1) | exact HB.out)) hb); clear HO141; clear HB; have HO141 := n0_; have HO144 := n1_; have HB := n2_; clear n0_ n1_ n2_; (try clear hb); (try clear hb2); (try clear hk); (try clear hi); (try clear ho0); obtain ⟨Ao59, co59, eo59⟩ := Kd.R_slice HO144.out; subst eo59) | ((with_reducible refine gate_callee (f := 13) rfl ?_); refine goesL_ (some 15) rfl rfl Try.func13 (by kernel_rfl) rfl #[.slice Ao59 t142.length co59, .int .i64 1, .int .i64 3] rfl (by (try simp only [List.map_toArray, List.map_cons, List.map_nil]); first | done | rfl | (simp only [List.length_drop, List.length_take]; rfl)) ?_; (with_reducible refine (extent_Cut.calls k _ _ t142 1 3 t146 t147 t148 _ ?side1 ?side2 A2.out).mono ?_); (case side1 => repeat (first | exact (Kd.R_reads' HO144.out).2.2 | (with_reducible refine Kd.C_alloc ?_ _) | (with_reducible refine Kd.C_drewN ?_ _) | (with_reducible refine Kd.C_drew ?_))); (case side2 => exact (Kd.R_reads' HO144.out).2.1); rintro e w60 ⟨v149, v151, rfl, ho0, ho1, hb⟩; refine ⟨_, rfl, ?_⟩; have n0_ := Aside0.mk (Kd.R_elder' (by (with_reducible repeat (first | apply Kd.R_alloc | apply Kd.R_drewN | apply Kd.R_drew)); exact HO141.out) (Kd.R_base ho0) hb); have n1_ := Aside0.mk (Kd.R_elder' (by (with_reducible repeat (first | apply Kd.R_alloc | apply Kd.R_drewN | apply Kd.R_drew)); exact HO144.out) (Kd.R_base ho0) hb); have n2_ := Aside0.mk (Kd.R_lower (Kd.R_new' (Kd.R_new' ho0 (Kd.R_lt (by (with_reducible repeat (first | apply Kd.R_alloc | apply Kd.R_drewN | apply Kd.R_drew)); exact HO141.out))) (Kd.R_lt (by (with_reducible repeat (first | apply Kd.R_alloc | apply Kd.R_drewN | apply Kd.R_drew)); exact HO144.out))) (below_size (by repeat (first | (with_reducible first | exact HB.out | apply below_alloc | apply pw_below_drewN | apply below_drew1) | exact HB.out)))); have n3_ := Aside0.mk (Kd.R_lower ho1 (below_size (by repeat (first | (with_reducible first | exact HB.out | apply below_alloc | apply pw_below_drewN | apply below_drew1) | exact HB.out)))); have n4_ := Aside0.mk (below_step (by repeat (first | (with_reducible first | exact HB.out | apply below_alloc | apply pw_below_drewN | apply below_drew1) | exact HB.out)) hb); clear HO141; clear HO144; clear HB; have HO141 := n0_; have HO144 := n1_; have HO150 := n2_; have HO152 := n3_; have HB := n4_; clear n0_ n1_ n2_ n3_ n4_; (try clear hb); (try clear hb2); (try clear hk); (try clear hi); (try clear ho0); (try clear ho1)))
   go_ret
   exact ⟨by first | rfl | (simp [errW_none, errW_some] <;> rfl) | (simp [*, errW_none, errW_some] <;> rfl), by repeat (first | (with_reducible first | exact HB.out | apply below_alloc | apply pw_below_drewN | apply below_drew1) | exact HB.out)⟩
 ·rw [if_neg c3] at H
  have c3b0 : (t145 == 0) = false := beq_eq_false_iff_ne.mpr c3
  have c3b1 : (t145 != 0) = true := bne_iff_ne.mpr c3
  obtain rfl := Option.some.inj H
  go_enter Try.func11, Try.ntmps11
  go_wp2_with (first | ((with_reducible refine gate_dst (N := 8) rfl ?_); (try (refine gate_guard (by rfl) ?_; dsimp only)); refine Kd.R_lit k24 _ 24 ?hg (N := 8) ?hd (xs := ([(⟨2, 52, 3, false⟩ : S24)] : List (S24))) (inner := [.int .i64 2, .int .i64 52, .int .i64 3, .bool false]) (ok := fun _ => True) (okp := fun _ => True) ?hr ?hp (fun _ hk => hk) trivial (Below.refl _ _) (Nat.le_refl _) (by simp) ?_; (case hd => rfl); (case hg => rfl); (case hr => first | (go_simp; done) | (go_simp; rfl)); (case hp => exact (Reps.c4 (show Kd.M k24 _ _ _ (⟨2, 52, 3, false⟩ : S24) [.int .i64 2, .int .i64 52, .int .i64 3, .bool false] from (k24_mkM _ _ _ (⟨2, 52, 3, false⟩ : S24) )) (Reps.none _ _))); intro v140 w61 ho62 hb hg_ hnew_; clear hg_ hnew_; (first | rw [← Ny139.out] at ho62 | (simp only [Int.reduceToNat] at ho62; rw [← Ny139.out] at ho62)); have n0_ := Aside0.mk (Kd.R_lower ho62 (below_size (by repeat (first | (with_reducible first | exact HB.out | apply below_alloc | apply pw_below_drewN | apply below_drew1) | exact HB.out)))); have n1_ := Aside0.mk (below_step (by repeat (first | (with_reducible first | exact HB.out | apply below_alloc | apply pw_below_drewN | apply below_drew1) | exact HB.out)) hb); clear HB; have HO141 := n0_; have HB := n1_; clear n0_ n1_; clear hb ho62; obtain ⟨Ao63, co63, eo63⟩ := Kd.R_slice HO141.out; subst eo63) | ((with_reducible refine gate_callee (f := 14) rfl ?_); refine goesL_ (some 10) rfl rfl Try.func14 (by kernel_rfl) rfl #[.slice Ao63 y139.length co63, .agg #[.int .i64 0, .int .i64 50, .int .i64 2, .bool false]] rfl (by (try simp only [List.map_toArray, List.map_cons, List.map_nil]); first | done | rfl | (simp only [List.length_drop, List.length_take]; rfl)) ?_; (with_reducible refine (extent_Put.calls k _ _ y139 0 50 2 false t142 t145 _ ?side1 ?side2 A1.out).mono ?_); (case side1 => repeat (first | exact (Kd.R_reads' HO141.out).2.2 | (with_reducible refine Kd.C_alloc ?_ _) | (with_reducible refine Kd.C_drewN ?_ _) | (with_reducible refine Kd.C_drew ?_))); (case side2 => exact (Kd.R_reads' HO141.out).2.1); rintro e w64 ⟨v143, rfl, ho0, hb⟩; refine ⟨_, rfl, ?_⟩; have n0_ := Aside0.mk (Kd.R_elder' (by (with_reducible repeat (first | apply Kd.R_alloc | apply Kd.R_drewN | apply Kd.R_drew)); exact HO141.out) (Kd.R_base ho0) hb); have n1_ := Aside0.mk (Kd.R_lower (Kd.R_new' ho0 (Kd.R_lt (by (with_reducible repeat (first | apply Kd.R_alloc | apply Kd.R_drewN | apply Kd.R_drew)); exact HO141.out))) (below_size (by repeat (first | (with_reducible first | exact HB.out | apply below_alloc | apply pw_below_drewN | apply below_drew1) | exact HB.out)))); have n2_ := Aside0.mk (below_step (by repeat (first | (with_reducible first | exact HB.out | apply below_alloc | apply pw_below_drewN | apply below_drew1) | exact HB.out)) hb); clear HO141; clear HB; have HO141 := n0_; have HO144 := n1_; have HB := n2_; clear n0_ n1_ n2_; (try clear hb); (try clear hb2); (try clear hk); (try clear hi); (try clear ho0); obtain ⟨Ao65, co65, eo65⟩ := Kd.R_slice HO144.out; subst eo65) | ((with_reducible refine gate_callee (f := 13) rfl ?_); refine goesL_ (some 15) rfl rfl Try.func13 (by kernel_rfl) rfl #[.slice Ao65 t142.length co65, .int .i64 1, .int .i64 3] rfl (by (try simp only [List.map_toArray, List.map_cons, List.map_nil]); first | done | rfl | (simp only [List.length_drop, List.length_take]; rfl)) ?_; (with_reducible refine (extent_Cut.calls k _ _ t142 1 3 t146 t147 t148 _ ?side1 ?side2 A2.out).mono ?_); (case side1 => repeat (first | exact (Kd.R_reads' HO144.out).2.2 | (with_reducible refine Kd.C_alloc ?_ _) | (with_reducible refine Kd.C_drewN ?_ _) | (with_reducible refine Kd.C_drew ?_))); (case side2 => exact (Kd.R_reads' HO144.out).2.1); rintro e w66 ⟨v149, v151, rfl, ho0, ho1, hb⟩; refine ⟨_, rfl, ?_⟩; have n0_ := Aside0.mk (Kd.R_elder' (by (with_reducible repeat (first | apply Kd.R_alloc | apply Kd.R_drewN | apply Kd.R_drew)); exact HO141.out) (Kd.R_base ho0) hb); have n1_ := Aside0.mk (Kd.R_elder' (by (with_reducible repeat (first | apply Kd.R_alloc | apply Kd.R_drewN | apply Kd.R_drew)); exact HO144.out) (Kd.R_base ho0) hb); have n2_ := Aside0.mk (Kd.R_lower (Kd.R_new' (Kd.R_new' ho0 (Kd.R_lt (by (with_reducible repeat (first | apply Kd.R_alloc | apply Kd.R_drewN | apply Kd.R_drew)); exact HO141.out))) (Kd.R_lt (by (with_reducible repeat (first | apply Kd.R_alloc | apply Kd.R_drewN | apply Kd.R_drew)); exact HO144.out))) (below_size (by repeat (first | (with_reducible first | exact HB.out | apply below_alloc | apply pw_below_drewN | apply below_drew1) | exact HB.out)))); have n3_ := Aside0.mk (Kd.R_lower ho1 (below_size (by repeat (first | (with_reducible first | exact HB.out | apply below_alloc | apply pw_below_drewN | apply below_drew1) | exact HB.out)))); have n4_ := Aside0.mk (below_step (by repeat (first | (with_reducible first | exact HB.out | apply below_alloc | apply pw_below_drewN | apply below_drew1) | exact HB.out)) hb); clear HO141; clear HO144; clear HB; have HO141 := n0_; have HO144 := n1_; have HO150 := n2_; have HO152 := n3_; have HB := n4_; clear n0_ n1_ n2_ n3_ n4_; (try clear hb); (try clear hb2); (try clear hk); (try clear hi); (try clear ho0); (try clear ho1)))
  go_ret
  exact ⟨by first | rfl | (simp [errW_none, errW_some] <;> rfl) | (simp [*, errW_none, errW_some] <;> rfl), by repeat (first | (with_reducible first | exact HB.out | apply below_alloc | apply pw_below_drewN | apply below_drew1) | exact HB.out)⟩
end Go.Proofs.Ytopmjjnkolfciaa.Pr
end
section
namespace Go.Proofs.Ytopmjjnkolfciaa.Pr
open Go.RowKit Go.Proofs.YtopmjjnkolfciaaW.PrintWords Go.Proofs.YtopmjjnkolfciaaW.PrintLast Go.Proofs.YtopmjjnkolfciaaW.PrintMore
set_option linter.unusedVariables false
set_option linter.unusedSimpArgs false
def Fits (l : List EX) : Prop := l.length ≤ 4398046510976
theorem o24 : Op.Opens Try.prog 22 (Kd.slice 24 k24) Fits :=
  Op.opens_imp (Op.opens_slice Try.underlying22 (by kernel_rfl) (B := 32) (by kernel_rfl)
    (Op.opens_iso (T := fun _ : EX => True) (fun x => ⟨x.1, x.2.1, x.2.2.1, x.2.2.2⟩) (fun _ => rfl) (fun _ _ => trivial)
      (Op.opens_struct Try.underlying24 (by kernel_rfl) (Op.opensAt_cons rfl (by kernel_rfl) (Op.opens_int Try.underlying3) (Op.opensAt_cons rfl (by kernel_rfl) (Op.opens_int Try.underlying3) (Op.opensAt_cons rfl (by kernel_rfl) (Op.opens_int Try.underlying3) (Op.opensAt_last rfl (by kernel_rfl) (Op.opens_bool Try.underlying4))))))))
    (fun l h => by unfold Fits; omega)
theorem alive_ev : Ev (fun k => undercroftlaw10_alive.f k) true := by
  unfold undercroftlaw10_alive.f
  have h1 : putX [(⟨2, 52, 3, false⟩ : EX)] ⟨0, 50, 2, false⟩ = ([⟨0, 50, 5, false⟩], 0) := by kernel_rfl
  have h2 : cutX [(⟨0, 50, 5, false⟩ : EX)] 1 3 = ([⟨0, 50, 1, false⟩, ⟨3, 53, 2, false⟩], [⟨51, 2⟩], 0) := by kernel_rfl
  have hp := put_ev [(⟨2, 52, 3, false⟩ : EX)] ⟨0, 50, 2, false⟩
  rw [h1] at hp
  have hc := cut_ev [(⟨0, 50, 5, false⟩ : EX)] 1 3
  rw [h2] at hc
  refine Ev.bind hp ?_
  refine Ev.bind hc ?_
  exact Ev.now _
theorem copied_f (l : List EX) (hl : Fits l) : undercroftlaw10_copied.f l = some l := by
  unfold Fits at hl
  unfold undercroftlaw10_copied.f
  rw [bs, List.nil_append, if_pos (by simp; omega)]
end Go.Proofs.Ytopmjjnkolfciaa.Pr
end
section
namespace Go.Proofs.Ytopmjjnkolfciaa.Pr
open Go.RowKit Go.Proofs.YtopmjjnkolfciaaW.PrintWords Go.Proofs.YtopmjjnkolfciaaW.PrintLast Go.Proofs.YtopmjjnkolfciaaW.PrintMore
attribute [local go_sem] max2_int min2_int max_two min_two max_three min_three max_four min_four
attribute [local go_sem] Go.Proofs.Ytopmjjnkolfciaa.Hl.str_geq Go.Proofs.Ytopmjjnkolfciaa.Hl.str_gtr Go.Proofs.Ytopmjjnkolfciaa.Hl.str_leq
set_option linter.unusedVariables false
set_option linter.unusedSimpArgs false
mutual
def undercroftlaw10_ExtentCuts.j0 : Nat → List (S24) → List (S24) → List (S24) → List (S24) → Bool → Option (Bool)
 | 0, _, _, _, _, _ => none
 | k + 1, x0, x7, x8, x14, x24 => undercroftlaw10_ExtentCuts.l0 k x0 x7 x8 x14 x24 0
def undercroftlaw10_ExtentCuts.l0 : Nat → List (S24) → List (S24) → List (S24) → List (S24) → Bool → Int → Option (Bool)
 | 0, _, _, _, _, _, _ => none
 | k + 1, x0, x7, x8, x14, x24, x25 => if x25 < (x8.length : Int) then (if 0 ≤ x25 then (undercroftlaw10_ExtentCuts.l0 k x0 x7 (x8.set (x25 : Int).toNat (⟨0, 0, 0, false⟩ : S24)) x14 x24 (wrap64 (x25 + 1))) else (none)) else (undercroftlaw10_ExtentCuts.l1 k x0 x7 x14 x24 0)
def undercroftlaw10_ExtentCuts.l1 : Nat → List (S24) → List (S24) → List (S24) → Bool → Int → Option (Bool)
 | 0, _, _, _, _, _ => none
 | k + 1, x0, x7, x14, x24, x26 => if x26 < (x14.length : Int) then (if 0 ≤ x26 then (undercroftlaw10_ExtentCuts.l1 k x0 x7 (x14.set (x26 : Int).toNat (⟨0, 0, 0, false⟩ : S24)) x24 (wrap64 (x26 + 1))) else (none)) else (if x24 = true then ((undercroftref10_Same.f k x7 x0).bind fun t303 => (some t303)) else (some false))
end
def undercroftlaw10_ExtentCuts.f (k : Nat) (l0 : List (S24)) (a1 : Int) (a2 : Int) : Option (Bool) := (undercroftlaw10_alive.f k).bind fun t266 => (if t266 = true then ((undercroftlaw10_copied.f l0).bind fun t267 => ((extent_Cut.f k t267 a1 a2).bind fun bt270 => ((undercroftref10_Cut.f k l0 a1 a2).bind fun bt277 => ((extent_Mark.f k t267 a1 a2).bind fun bt284 => ((undercroftref10_Mark.f k l0 a1 a2).bind fun bt288 => ((extent_Find.f k t267 a1).bind fun bt292 => ((undercroftref10_Find.f k l0 a1).bind fun bt295 => (if bt270.2.2 = bt277.2.2 then ((undercroftref10_Same.f k bt270.1 bt277.1).bind fun t298 => (if t298 = true then ((undercroftref10_SameSpans.f k bt270.2.1 bt277.2.1).bind fun t299 => (if t299 = true then (if bt284.2 = bt288.2 then ((undercroftref10_Same.f k bt284.1 bt288.1).bind fun t300 => (if t300 = true then (if bt292.1 = bt295.1 then (if (bt292.2.1 == bt295.2.1) = true then (undercroftlaw10_ExtentCuts.j0 k l0 t267 bt270.1 bt284.1 (bt292.2.2 == bt295.2.2)) else (undercroftlaw10_ExtentCuts.j0 k l0 t267 bt270.1 bt284.1 false)) else (undercroftlaw10_ExtentCuts.j0 k l0 t267 bt270.1 bt284.1 false)) else (undercroftlaw10_ExtentCuts.j0 k l0 t267 bt270.1 bt284.1 false))) else (undercroftlaw10_ExtentCuts.j0 k l0 t267 bt270.1 bt284.1 false)) else (undercroftlaw10_ExtentCuts.j0 k l0 t267 bt270.1 bt284.1 false))) else (undercroftlaw10_ExtentCuts.j0 k l0 t267 bt270.1 bt284.1 false))) else (undercroftlaw10_ExtentCuts.j0 k l0 t267 bt270.1 bt284.1 false))))))))) else (some false))
set_option maxHeartbeats 8000000 in
set_option maxRecDepth 100000 in
theorem undercroftlaw10_ExtentCuts.calls (k : Nat) (A0 : Option Addr) (c0 : Nat) (l0 : List (S24)) (a1 : Int) (a2 : Int) (r : Bool) (w : World) (hr0 : Kd.C k24 w A0 l0.length l0) (hc0 : l0.length ≤ c0) (h : undercroftlaw10_ExtentCuts.f k l0 a1 a2 = some r) :
  Calls Try.prog 7 #[.slice A0 l0.length c0, .int .i64 a1, .int .i64 a2] w fun e w' => e = .returned (.bool r) ∧ Below w.heap.size w w' := by
 have hu24 := Try.underlying24
 have HR0 := Aside0.mk hr0
 have HC0 := Aside0.mk hc0
 clear hr0 hc0
 have HB := Aside0.mk (Below.refl w.heap.size w)
 have H : ((undercroftlaw10_alive.f k).bind fun t266 => (if t266 = true then ((undercroftlaw10_copied.f l0).bind fun t267 => ((extent_Cut.f k t267 a1 a2).bind fun bt270 => ((undercroftref10_Cut.f k l0 a1 a2).bind fun bt277 => ((extent_Mark.f k t267 a1 a2).bind fun bt284 => ((undercroftref10_Mark.f k l0 a1 a2).bind fun bt288 => ((extent_Find.f k t267 a1).bind fun bt292 => ((undercroftref10_Find.f k l0 a1).bind fun bt295 => (if bt270.2.2 = bt277.2.2 then ((undercroftref10_Same.f k bt270.1 bt277.1).bind fun t298 => (if t298 = true then ((undercroftref10_SameSpans.f k bt270.2.1 bt277.2.1).bind fun t299 => (if t299 = true then (if bt284.2 = bt288.2 then ((undercroftref10_Same.f k bt284.1 bt288.1).bind fun t300 => (if t300 = true then (if bt292.1 = bt295.1 then (if (bt292.2.1 == bt295.2.1) = true then (undercroftlaw10_ExtentCuts.j0 k l0 t267 bt270.1 bt284.1 (bt292.2.2 == bt295.2.2)) else (undercroftlaw10_ExtentCuts.j0 k l0 t267 bt270.1 bt284.1 false)) else (undercroftlaw10_ExtentCuts.j0 k l0 t267 bt270.1 bt284.1 false)) else (undercroftlaw10_ExtentCuts.j0 k l0 t267 bt270.1 bt284.1 false))) else (undercroftlaw10_ExtentCuts.j0 k l0 t267 bt270.1 bt284.1 false)) else (undercroftlaw10_ExtentCuts.j0 k l0 t267 bt270.1 bt284.1 false))) else (undercroftlaw10_ExtentCuts.j0 k l0 t267 bt270.1 bt284.1 false))) else (undercroftlaw10_ExtentCuts.j0 k l0 t267 bt270.1 bt284.1 false))))))))) else (some false))) = some r := h
 clear h
 replace H := Option.bind_eq_some_iff.mp H
 obtain ⟨t266, A40, H⟩ := H
 replace H : (if t266 = true then ((undercroftlaw10_copied.f l0).bind fun t267 => ((extent_Cut.f k t267 a1 a2).bind fun bt270 => ((undercroftref10_Cut.f k l0 a1 a2).bind fun bt277 => ((extent_Mark.f k t267 a1 a2).bind fun bt284 => ((undercroftref10_Mark.f k l0 a1 a2).bind fun bt288 => ((extent_Find.f k t267 a1).bind fun bt292 => ((undercroftref10_Find.f k l0 a1).bind fun bt295 => (if bt270.2.2 = bt277.2.2 then ((undercroftref10_Same.f k bt270.1 bt277.1).bind fun t298 => (if t298 = true then ((undercroftref10_SameSpans.f k bt270.2.1 bt277.2.1).bind fun t299 => (if t299 = true then (if bt284.2 = bt288.2 then ((undercroftref10_Same.f k bt284.1 bt288.1).bind fun t300 => (if t300 = true then (if bt292.1 = bt295.1 then (if (bt292.2.1 == bt295.2.1) = true then (undercroftlaw10_ExtentCuts.j0 k l0 t267 bt270.1 bt284.1 (bt292.2.2 == bt295.2.2)) else (undercroftlaw10_ExtentCuts.j0 k l0 t267 bt270.1 bt284.1 false)) else (undercroftlaw10_ExtentCuts.j0 k l0 t267 bt270.1 bt284.1 false)) else (undercroftlaw10_ExtentCuts.j0 k l0 t267 bt270.1 bt284.1 false))) else (undercroftlaw10_ExtentCuts.j0 k l0 t267 bt270.1 bt284.1 false)) else (undercroftlaw10_ExtentCuts.j0 k l0 t267 bt270.1 bt284.1 false))) else (undercroftlaw10_ExtentCuts.j0 k l0 t267 bt270.1 bt284.1 false))) else (undercroftlaw10_ExtentCuts.j0 k l0 t267 bt270.1 bt284.1 false))))))))) else (some false)) = some r := H
 have A4 := Aside0.mk A40
 clear A40
 by_cases c5 : t266 = true
 ·subst c5
  have H1 : ((undercroftlaw10_copied.f l0).bind fun t267 => ((extent_Cut.f k t267 a1 a2).bind fun bt270 => ((undercroftref10_Cut.f k l0 a1 a2).bind fun bt277 => ((extent_Mark.f k t267 a1 a2).bind fun bt284 => ((undercroftref10_Mark.f k l0 a1 a2).bind fun bt288 => ((extent_Find.f k t267 a1).bind fun bt292 => ((undercroftref10_Find.f k l0 a1).bind fun bt295 => (if bt270.2.2 = bt277.2.2 then ((undercroftref10_Same.f k bt270.1 bt277.1).bind fun t298 => (if t298 = true then ((undercroftref10_SameSpans.f k bt270.2.1 bt277.2.1).bind fun t299 => (if t299 = true then (if bt284.2 = bt288.2 then ((undercroftref10_Same.f k bt284.1 bt288.1).bind fun t300 => (if t300 = true then (if bt292.1 = bt295.1 then (if (bt292.2.1 == bt295.2.1) = true then (undercroftlaw10_ExtentCuts.j0 k l0 t267 bt270.1 bt284.1 (bt292.2.2 == bt295.2.2)) else (undercroftlaw10_ExtentCuts.j0 k l0 t267 bt270.1 bt284.1 false)) else (undercroftlaw10_ExtentCuts.j0 k l0 t267 bt270.1 bt284.1 false)) else (undercroftlaw10_ExtentCuts.j0 k l0 t267 bt270.1 bt284.1 false))) else (undercroftlaw10_ExtentCuts.j0 k l0 t267 bt270.1 bt284.1 false)) else (undercroftlaw10_ExtentCuts.j0 k l0 t267 bt270.1 bt284.1 false))) else (undercroftlaw10_ExtentCuts.j0 k l0 t267 bt270.1 bt284.1 false))) else (undercroftlaw10_ExtentCuts.j0 k l0 t267 bt270.1 bt284.1 false))))))))) = some r := by rw [if_pos rfl] at H; exact H
  clear H;have H := H1;clear H1
  replace H := Option.bind_eq_some_iff.mp H
  obtain ⟨t267, A60, H⟩ := H
  replace H : ((extent_Cut.f k t267 a1 a2).bind fun bt270 => ((undercroftref10_Cut.f k l0 a1 a2).bind fun bt277 => ((extent_Mark.f k t267 a1 a2).bind fun bt284 => ((undercroftref10_Mark.f k l0 a1 a2).bind fun bt288 => ((extent_Find.f k t267 a1).bind fun bt292 => ((undercroftref10_Find.f k l0 a1).bind fun bt295 => (if bt270.2.2 = bt277.2.2 then ((undercroftref10_Same.f k bt270.1 bt277.1).bind fun t298 => (if t298 = true then ((undercroftref10_SameSpans.f k bt270.2.1 bt277.2.1).bind fun t299 => (if t299 = true then (if bt284.2 = bt288.2 then ((undercroftref10_Same.f k bt284.1 bt288.1).bind fun t300 => (if t300 = true then (if bt292.1 = bt295.1 then (if (bt292.2.1 == bt295.2.1) = true then (undercroftlaw10_ExtentCuts.j0 k l0 t267 bt270.1 bt284.1 (bt292.2.2 == bt295.2.2)) else (undercroftlaw10_ExtentCuts.j0 k l0 t267 bt270.1 bt284.1 false)) else (undercroftlaw10_ExtentCuts.j0 k l0 t267 bt270.1 bt284.1 false)) else (undercroftlaw10_ExtentCuts.j0 k l0 t267 bt270.1 bt284.1 false))) else (undercroftlaw10_ExtentCuts.j0 k l0 t267 bt270.1 bt284.1 false)) else (undercroftlaw10_ExtentCuts.j0 k l0 t267 bt270.1 bt284.1 false))) else (undercroftlaw10_ExtentCuts.j0 k l0 t267 bt270.1 bt284.1 false))) else (undercroftlaw10_ExtentCuts.j0 k l0 t267 bt270.1 bt284.1 false)))))))) = some r := H
  have A6 := Aside0.mk A60
  clear A60
  replace H := Option.bind_eq_some_iff.mp H
  obtain ⟨⟨t270, t271, t272⟩, A70, H⟩ := H
  replace H : ((undercroftref10_Cut.f k l0 a1 a2).bind fun bt277 => ((extent_Mark.f k t267 a1 a2).bind fun bt284 => ((undercroftref10_Mark.f k l0 a1 a2).bind fun bt288 => ((extent_Find.f k t267 a1).bind fun bt292 => ((undercroftref10_Find.f k l0 a1).bind fun bt295 => (if t272 = bt277.2.2 then ((undercroftref10_Same.f k t270 bt277.1).bind fun t298 => (if t298 = true then ((undercroftref10_SameSpans.f k t271 bt277.2.1).bind fun t299 => (if t299 = true then (if bt284.2 = bt288.2 then ((undercroftref10_Same.f k bt284.1 bt288.1).bind fun t300 => (if t300 = true then (if bt292.1 = bt295.1 then (if (bt292.2.1 == bt295.2.1) = true then (undercroftlaw10_ExtentCuts.j0 k l0 t267 t270 bt284.1 (bt292.2.2 == bt295.2.2)) else (undercroftlaw10_ExtentCuts.j0 k l0 t267 t270 bt284.1 false)) else (undercroftlaw10_ExtentCuts.j0 k l0 t267 t270 bt284.1 false)) else (undercroftlaw10_ExtentCuts.j0 k l0 t267 t270 bt284.1 false))) else (undercroftlaw10_ExtentCuts.j0 k l0 t267 t270 bt284.1 false)) else (undercroftlaw10_ExtentCuts.j0 k l0 t267 t270 bt284.1 false))) else (undercroftlaw10_ExtentCuts.j0 k l0 t267 t270 bt284.1 false))) else (undercroftlaw10_ExtentCuts.j0 k l0 t267 t270 bt284.1 false))))))) = some r := H
  have A7 := Aside0.mk A70
  clear A70
  replace H := Option.bind_eq_some_iff.mp H
  obtain ⟨⟨t277, t278, t279⟩, A80, H⟩ := H
  replace H : ((extent_Mark.f k t267 a1 a2).bind fun bt284 => ((undercroftref10_Mark.f k l0 a1 a2).bind fun bt288 => ((extent_Find.f k t267 a1).bind fun bt292 => ((undercroftref10_Find.f k l0 a1).bind fun bt295 => (if t272 = t279 then ((undercroftref10_Same.f k t270 t277).bind fun t298 => (if t298 = true then ((undercroftref10_SameSpans.f k t271 t278).bind fun t299 => (if t299 = true then (if bt284.2 = bt288.2 then ((undercroftref10_Same.f k bt284.1 bt288.1).bind fun t300 => (if t300 = true then (if bt292.1 = bt295.1 then (if (bt292.2.1 == bt295.2.1) = true then (undercroftlaw10_ExtentCuts.j0 k l0 t267 t270 bt284.1 (bt292.2.2 == bt295.2.2)) else (undercroftlaw10_ExtentCuts.j0 k l0 t267 t270 bt284.1 false)) else (undercroftlaw10_ExtentCuts.j0 k l0 t267 t270 bt284.1 false)) else (undercroftlaw10_ExtentCuts.j0 k l0 t267 t270 bt284.1 false))) else (undercroftlaw10_ExtentCuts.j0 k l0 t267 t270 bt284.1 false)) else (undercroftlaw10_ExtentCuts.j0 k l0 t267 t270 bt284.1 false))) else (undercroftlaw10_ExtentCuts.j0 k l0 t267 t270 bt284.1 false))) else (undercroftlaw10_ExtentCuts.j0 k l0 t267 t270 bt284.1 false)))))) = some r := H
  have A8 := Aside0.mk A80
  clear A80
  replace H := Option.bind_eq_some_iff.mp H
  obtain ⟨⟨t284, t285⟩, A90, H⟩ := H
  replace H : ((undercroftref10_Mark.f k l0 a1 a2).bind fun bt288 => ((extent_Find.f k t267 a1).bind fun bt292 => ((undercroftref10_Find.f k l0 a1).bind fun bt295 => (if t272 = t279 then ((undercroftref10_Same.f k t270 t277).bind fun t298 => (if t298 = true then ((undercroftref10_SameSpans.f k t271 t278).bind fun t299 => (if t299 = true then (if t285 = bt288.2 then ((undercroftref10_Same.f k t284 bt288.1).bind fun t300 => (if t300 = true then (if bt292.1 = bt295.1 then (if (bt292.2.1 == bt295.2.1) = true then (undercroftlaw10_ExtentCuts.j0 k l0 t267 t270 t284 (bt292.2.2 == bt295.2.2)) else (undercroftlaw10_ExtentCuts.j0 k l0 t267 t270 t284 false)) else (undercroftlaw10_ExtentCuts.j0 k l0 t267 t270 t284 false)) else (undercroftlaw10_ExtentCuts.j0 k l0 t267 t270 t284 false))) else (undercroftlaw10_ExtentCuts.j0 k l0 t267 t270 t284 false)) else (undercroftlaw10_ExtentCuts.j0 k l0 t267 t270 t284 false))) else (undercroftlaw10_ExtentCuts.j0 k l0 t267 t270 t284 false))) else (undercroftlaw10_ExtentCuts.j0 k l0 t267 t270 t284 false))))) = some r := H
  have A9 := Aside0.mk A90
  clear A90
  replace H := Option.bind_eq_some_iff.mp H
  obtain ⟨⟨t288, t289⟩, A100, H⟩ := H
  replace H : ((extent_Find.f k t267 a1).bind fun bt292 => ((undercroftref10_Find.f k l0 a1).bind fun bt295 => (if t272 = t279 then ((undercroftref10_Same.f k t270 t277).bind fun t298 => (if t298 = true then ((undercroftref10_SameSpans.f k t271 t278).bind fun t299 => (if t299 = true then (if t285 = t289 then ((undercroftref10_Same.f k t284 t288).bind fun t300 => (if t300 = true then (if bt292.1 = bt295.1 then (if (bt292.2.1 == bt295.2.1) = true then (undercroftlaw10_ExtentCuts.j0 k l0 t267 t270 t284 (bt292.2.2 == bt295.2.2)) else (undercroftlaw10_ExtentCuts.j0 k l0 t267 t270 t284 false)) else (undercroftlaw10_ExtentCuts.j0 k l0 t267 t270 t284 false)) else (undercroftlaw10_ExtentCuts.j0 k l0 t267 t270 t284 false))) else (undercroftlaw10_ExtentCuts.j0 k l0 t267 t270 t284 false)) else (undercroftlaw10_ExtentCuts.j0 k l0 t267 t270 t284 false))) else (undercroftlaw10_ExtentCuts.j0 k l0 t267 t270 t284 false))) else (undercroftlaw10_ExtentCuts.j0 k l0 t267 t270 t284 false)))) = some r := H
  have A10 := Aside0.mk A100
  clear A100
  replace H := Option.bind_eq_some_iff.mp H
  obtain ⟨⟨t292, t293, t294⟩, A110, H⟩ := H
  replace H : ((undercroftref10_Find.f k l0 a1).bind fun bt295 => (if t272 = t279 then ((undercroftref10_Same.f k t270 t277).bind fun t298 => (if t298 = true then ((undercroftref10_SameSpans.f k t271 t278).bind fun t299 => (if t299 = true then (if t285 = t289 then ((undercroftref10_Same.f k t284 t288).bind fun t300 => (if t300 = true then (if t292 = bt295.1 then (if (t293 == bt295.2.1) = true then (undercroftlaw10_ExtentCuts.j0 k l0 t267 t270 t284 (t294 == bt295.2.2)) else (undercroftlaw10_ExtentCuts.j0 k l0 t267 t270 t284 false)) else (undercroftlaw10_ExtentCuts.j0 k l0 t267 t270 t284 false)) else (undercroftlaw10_ExtentCuts.j0 k l0 t267 t270 t284 false))) else (undercroftlaw10_ExtentCuts.j0 k l0 t267 t270 t284 false)) else (undercroftlaw10_ExtentCuts.j0 k l0 t267 t270 t284 false))) else (undercroftlaw10_ExtentCuts.j0 k l0 t267 t270 t284 false))) else (undercroftlaw10_ExtentCuts.j0 k l0 t267 t270 t284 false))) = some r := H
  have A11 := Aside0.mk A110
  clear A110
  replace H := Option.bind_eq_some_iff.mp H
  obtain ⟨⟨t295, t296, t297⟩, A120, H⟩ := H
  replace H : (if t272 = t279 then ((undercroftref10_Same.f k t270 t277).bind fun t298 => (if t298 = true then ((undercroftref10_SameSpans.f k t271 t278).bind fun t299 => (if t299 = true then (if t285 = t289 then ((undercroftref10_Same.f k t284 t288).bind fun t300 => (if t300 = true then (if t292 = t295 then (if (t293 == t296) = true then (undercroftlaw10_ExtentCuts.j0 k l0 t267 t270 t284 (t294 == t297)) else (undercroftlaw10_ExtentCuts.j0 k l0 t267 t270 t284 false)) else (undercroftlaw10_ExtentCuts.j0 k l0 t267 t270 t284 false)) else (undercroftlaw10_ExtentCuts.j0 k l0 t267 t270 t284 false))) else (undercroftlaw10_ExtentCuts.j0 k l0 t267 t270 t284 false)) else (undercroftlaw10_ExtentCuts.j0 k l0 t267 t270 t284 false))) else (undercroftlaw10_ExtentCuts.j0 k l0 t267 t270 t284 false))) else (undercroftlaw10_ExtentCuts.j0 k l0 t267 t270 t284 false)) = some r := H
  have A12 := Aside0.mk A120
  clear A120
  have HC13 := Aside0.mk H
  clear H
  go_enter Try.func7, Try.ntmps7
  go_upto_region 10 with (first | ((with_reducible refine gate_callee (f := 11) rfl ?_); refine goesL_ (some 27) rfl rfl Try.func11 (by kernel_rfl) rfl #[] rfl (by (try simp only [List.map_toArray, List.map_cons, List.map_nil]); first | done | rfl | (simp only [List.length_drop, List.length_take]; rfl)) ?_; (with_reducible refine (undercroftlaw10_alive.calls k  true _ A4.out).mono ?_); rintro e w14 ⟨rfl, hb⟩; refine ⟨_, rfl, ?_⟩; have n0_ := Aside0.mk (below_step (by repeat (first | (with_reducible first | exact HB.out | apply below_alloc | apply pw_below_drewN | apply below_drew1) | exact HB.out)) hb); clear HB; have HB := n0_; clear n0_; (try clear hb); (try clear hb2); (try clear hk); (try clear hi)) | ((with_reducible refine gate_callee (f := 16) rfl ?_); refine goesL_ (some 30) rfl rfl Try.func16 (by kernel_rfl) rfl #[.slice A0 l0.length c0] rfl (by (try simp only [List.map_toArray, List.map_cons, List.map_nil]); first | done | rfl | (simp only [List.length_drop, List.length_take]; rfl)) ?_; (with_reducible refine (undercroftlaw10_copied.calls _ _ l0 t267 _ ?side1 ?side2 A6.out).mono ?_); (case side1 => repeat (first | exact (Kd.C_below HR0.out HB.out) | (with_reducible refine Kd.C_alloc ?_ _) | (with_reducible refine Kd.C_drewN ?_ _) | (with_reducible refine Kd.C_drew ?_))); (case side2 => exact HC0.out); rintro e w15 ⟨v268, rfl, ho0, hb⟩; refine ⟨_, rfl, ?_⟩; have n0_ := Aside0.mk (Kd.R_lower ho0 (below_size (by repeat (first | (with_reducible first | exact HB.out | apply below_alloc | apply pw_below_drewN | apply below_drew1) | exact HB.out)))); have n1_ := Aside0.mk (below_step (by repeat (first | (with_reducible first | exact HB.out | apply below_alloc | apply pw_below_drewN | apply below_drew1) | exact HB.out)) hb); clear HB; have HO269 := n0_; have HB := n1_; clear n0_ n1_; (try clear hb); (try clear hb2); (try clear hk); (try clear hi); (try clear ho0); obtain ⟨Ao16, co16, eo16⟩ := Kd.R_slice HO269.out; subst eo16) | ((with_reducible refine gate_callee (f := 13) rfl ?_); refine goesL_ (some 35) rfl rfl Try.func13 (by kernel_rfl) rfl #[.slice Ao16 t267.length co16, .int .i64 a1, .int .i64 a2] rfl (by (try simp only [List.map_toArray, List.map_cons, List.map_nil]); first | done | rfl | (simp only [List.length_drop, List.length_take]; rfl)) ?_; (with_reducible refine (extent_Cut.calls k _ _ t267 a1 a2 t270 t271 t272 _ ?side1 ?side2 A7.out).mono ?_); (case side1 => repeat (first | exact (Kd.R_reads' HO269.out).2.2 | (with_reducible refine Kd.C_alloc ?_ _) | (with_reducible refine Kd.C_drewN ?_ _) | (with_reducible refine Kd.C_drew ?_))); (case side2 => exact (Kd.R_reads' HO269.out).2.1); rintro e w17 ⟨v273, v275, rfl, ho0, ho1, hb⟩; refine ⟨_, rfl, ?_⟩; have n0_ := Aside0.mk (Kd.R_elder' (by (with_reducible repeat (first | apply Kd.R_alloc | apply Kd.R_drewN | apply Kd.R_drew)); exact HO269.out) (Kd.R_base ho0) hb); have n1_ := Aside0.mk (Kd.R_lower (Kd.R_new' ho0 (Kd.R_lt (by (with_reducible repeat (first | apply Kd.R_alloc | apply Kd.R_drewN | apply Kd.R_drew)); exact HO269.out))) (below_size (by repeat (first | (with_reducible first | exact HB.out | apply below_alloc | apply pw_below_drewN | apply below_drew1) | exact HB.out)))); have n2_ := Aside0.mk (Kd.R_lower ho1 (below_size (by repeat (first | (with_reducible first | exact HB.out | apply below_alloc | apply pw_below_drewN | apply below_drew1) | exact HB.out)))); have n3_ := Aside0.mk (below_step (by repeat (first | (with_reducible first | exact HB.out | apply below_alloc | apply pw_below_drewN | apply below_drew1) | exact HB.out)) hb); clear HO269; clear HB; have HO269 := n0_; have HO274 := n1_; have HO276 := n2_; have HB := n3_; clear n0_ n1_ n2_ n3_; (try clear hb); (try clear hb2); (try clear hk); (try clear hi); (try clear ho0); (try clear ho1)) | ((with_reducible refine gate_callee (f := 23) rfl ?_); refine goesL_ (some 43) rfl rfl Try.func23 (by kernel_rfl) rfl #[.slice A0 l0.length c0, .int .i64 a1, .int .i64 a2] rfl (by (try simp only [List.map_toArray, List.map_cons, List.map_nil]); first | done | rfl | (simp only [List.length_drop, List.length_take]; rfl)) ?_; (with_reducible refine (undercroftref10_Cut.calls k _ _ l0 a1 a2 t277 t278 t279 _ ?side1 ?side2 A8.out).mono ?_); (case side1 => repeat (first | exact (Kd.C_below HR0.out HB.out) | (with_reducible refine Kd.C_alloc ?_ _) | (with_reducible refine Kd.C_drewN ?_ _) | (with_reducible refine Kd.C_drew ?_))); (case side2 => exact HC0.out); rintro e w18 ⟨v280, v282, rfl, ho0, ho1, hb⟩; refine ⟨_, rfl, ?_⟩; have n0_ := Aside0.mk (Kd.R_elder' (by (with_reducible repeat (first | apply Kd.R_alloc | apply Kd.R_drewN | apply Kd.R_drew)); exact HO269.out) (Kd.R_base ho0) hb); have n1_ := Aside0.mk (Kd.R_elder' (by (with_reducible repeat (first | apply Kd.R_alloc | apply Kd.R_drewN | apply Kd.R_drew)); exact HO274.out) (Kd.R_base ho0) hb); have n2_ := Aside0.mk (Kd.R_elder' (by (with_reducible repeat (first | apply Kd.R_alloc | apply Kd.R_drewN | apply Kd.R_drew)); exact HO276.out) (Kd.R_base ho1) hb); have n3_ := Aside0.mk (Kd.R_lower (Kd.R_new' (Kd.R_new' ho0 (Kd.R_lt (by (with_reducible repeat (first | apply Kd.R_alloc | apply Kd.R_drewN | apply Kd.R_drew)); exact HO269.out))) (Kd.R_lt (by (with_reducible repeat (first | apply Kd.R_alloc | apply Kd.R_drewN | apply Kd.R_drew)); exact HO274.out))) (below_size (by repeat (first | (with_reducible first | exact HB.out | apply below_alloc | apply pw_below_drewN | apply below_drew1) | exact HB.out)))); have n4_ := Aside0.mk (Kd.R_lower (Kd.R_new' ho1 (Kd.R_lt (by (with_reducible repeat (first | apply Kd.R_alloc | apply Kd.R_drewN | apply Kd.R_drew)); exact HO276.out))) (below_size (by repeat (first | (with_reducible first | exact HB.out | apply below_alloc | apply pw_below_drewN | apply below_drew1) | exact HB.out)))); have n5_ := Aside0.mk (below_step (by repeat (first | (with_reducible first | exact HB.out | apply below_alloc | apply pw_below_drewN | apply below_drew1) | exact HB.out)) hb); clear HO269; clear HO274; clear HO276; clear HB; have HO269 := n0_; have HO274 := n1_; have HO276 := n2_; have HO281 := n3_; have HO283 := n4_; have HB := n5_; clear n0_ n1_ n2_ n3_ n4_ n5_; (try clear hb); (try clear hb2); (try clear hk); (try clear hi); (try clear ho0); (try clear ho1)) | ((with_reducible refine gate_callee (f := 22) rfl ?_); refine goesL_ (some 51) rfl rfl Try.func22 (by kernel_rfl) rfl #[.slice Ao16 t267.length co16, .int .i64 a1, .int .i64 a2] rfl (by (try simp only [List.map_toArray, List.map_cons, List.map_nil]); first | done | rfl | (simp only [List.length_drop, List.length_take]; rfl)) ?_; (with_reducible refine (extent_Mark.calls k _ _ t267 a1 a2 t284 t285 _ ?side1 ?side2 A9.out).mono ?_); (case side1 => repeat (first | exact (Kd.R_reads' HO269.out).2.2 | (with_reducible refine Kd.C_alloc ?_ _) | (with_reducible refine Kd.C_drewN ?_ _) | (with_reducible refine Kd.C_drew ?_))); (case side2 => exact (Kd.R_reads' HO269.out).2.1); rintro e w19 ⟨v286, rfl, ho0, hb⟩; refine ⟨_, rfl, ?_⟩; have n0_ := Aside0.mk (Kd.R_elder' (by (with_reducible repeat (first | apply Kd.R_alloc | apply Kd.R_drewN | apply Kd.R_drew)); exact HO269.out) (Kd.R_base ho0) hb); have n1_ := Aside0.mk (Kd.R_elder' (by (with_reducible repeat (first | apply Kd.R_alloc | apply Kd.R_drewN | apply Kd.R_drew)); exact HO274.out) (Kd.R_base ho0) hb); have n2_ := Aside0.mk (Kd.R_below (by (with_reducible repeat (first | apply Kd.R_alloc | apply Kd.R_drewN | apply Kd.R_drew)); exact HO276.out) hb); have n3_ := Aside0.mk (Kd.R_elder' (by (with_reducible repeat (first | apply Kd.R_alloc | apply Kd.R_drewN | apply Kd.R_drew)); exact HO281.out) (Kd.R_base ho0) hb); have n4_ := Aside0.mk (Kd.R_below (by (with_reducible repeat (first | apply Kd.R_alloc | apply Kd.R_drewN | apply Kd.R_drew)); exact HO283.out) hb); have n5_ := Aside0.mk (Kd.R_lower (Kd.R_new' (Kd.R_new' (Kd.R_new' ho0 (Kd.R_lt (by (with_reducible repeat (first | apply Kd.R_alloc | apply Kd.R_drewN | apply Kd.R_drew)); exact HO269.out))) (Kd.R_lt (by (with_reducible repeat (first | apply Kd.R_alloc | apply Kd.R_drewN | apply Kd.R_drew)); exact HO274.out))) (Kd.R_lt (by (with_reducible repeat (first | apply Kd.R_alloc | apply Kd.R_drewN | apply Kd.R_drew)); exact HO281.out))) (below_size (by repeat (first | (with_reducible first | exact HB.out | apply below_alloc | apply pw_below_drewN | apply below_drew1) | exact HB.out)))); have n6_ := Aside0.mk (below_step (by repeat (first | (with_reducible first | exact HB.out | apply below_alloc | apply pw_below_drewN | apply below_drew1) | exact HB.out)) hb); clear HO269; clear HO274; clear HO276; clear HO281; clear HO283; clear HB; have HO269 := n0_; have HO274 := n1_; have HO276 := n2_; have HO281 := n3_; have HO283 := n4_; have HO287 := n5_; have HB := n6_; clear n0_ n1_ n2_ n3_ n4_ n5_ n6_; (try clear hb); (try clear hb2); (try clear hk); (try clear hi); (try clear ho0)) | ((with_reducible refine gate_callee (f := 24) rfl ?_); refine goesL_ (some 58) rfl rfl Try.func24 (by kernel_rfl) rfl #[.slice A0 l0.length c0, .int .i64 a1, .int .i64 a2] rfl (by (try simp only [List.map_toArray, List.map_cons, List.map_nil]); first | done | rfl | (simp only [List.length_drop, List.length_take]; rfl)) ?_; (with_reducible refine (undercroftref10_Mark.calls k _ _ l0 a1 a2 t288 t289 _ ?side1 ?side2 A10.out).mono ?_); (case side1 => repeat (first | exact (Kd.C_below HR0.out HB.out) | (with_reducible refine Kd.C_alloc ?_ _) | (with_reducible refine Kd.C_drewN ?_ _) | (with_reducible refine Kd.C_drew ?_))); (case side2 => exact HC0.out); rintro e w20 ⟨v290, rfl, ho0, hb⟩; refine ⟨_, rfl, ?_⟩; have n0_ := Aside0.mk (Kd.R_elder' (by (with_reducible repeat (first | apply Kd.R_alloc | apply Kd.R_drewN | apply Kd.R_drew)); exact HO269.out) (Kd.R_base ho0) hb); have n1_ := Aside0.mk (Kd.R_elder' (by (with_reducible repeat (first | apply Kd.R_alloc | apply Kd.R_drewN | apply Kd.R_drew)); exact HO274.out) (Kd.R_base ho0) hb); have n2_ := Aside0.mk (Kd.R_below (by (with_reducible repeat (first | apply Kd.R_alloc | apply Kd.R_drewN | apply Kd.R_drew)); exact HO276.out) hb); have n3_ := Aside0.mk (Kd.R_elder' (by (with_reducible repeat (first | apply Kd.R_alloc | apply Kd.R_drewN | apply Kd.R_drew)); exact HO281.out) (Kd.R_base ho0) hb); have n4_ := Aside0.mk (Kd.R_below (by (with_reducible repeat (first | apply Kd.R_alloc | apply Kd.R_drewN | apply Kd.R_drew)); exact HO283.out) hb); have n5_ := Aside0.mk (Kd.R_elder' (by (with_reducible repeat (first | apply Kd.R_alloc | apply Kd.R_drewN | apply Kd.R_drew)); exact HO287.out) (Kd.R_base ho0) hb); have n6_ := Aside0.mk (Kd.R_lower (Kd.R_new' (Kd.R_new' (Kd.R_new' (Kd.R_new' ho0 (Kd.R_lt (by (with_reducible repeat (first | apply Kd.R_alloc | apply Kd.R_drewN | apply Kd.R_drew)); exact HO269.out))) (Kd.R_lt (by (with_reducible repeat (first | apply Kd.R_alloc | apply Kd.R_drewN | apply Kd.R_drew)); exact HO274.out))) (Kd.R_lt (by (with_reducible repeat (first | apply Kd.R_alloc | apply Kd.R_drewN | apply Kd.R_drew)); exact HO281.out))) (Kd.R_lt (by (with_reducible repeat (first | apply Kd.R_alloc | apply Kd.R_drewN | apply Kd.R_drew)); exact HO287.out))) (below_size (by repeat (first | (with_reducible first | exact HB.out | apply below_alloc | apply pw_below_drewN | apply below_drew1) | exact HB.out)))); have n7_ := Aside0.mk (below_step (by repeat (first | (with_reducible first | exact HB.out | apply below_alloc | apply pw_below_drewN | apply below_drew1) | exact HB.out)) hb); clear HO269; clear HO274; clear HO276; clear HO281; clear HO283; clear HO287; clear HB; have HO269 := n0_; have HO274 := n1_; have HO276 := n2_; have HO281 := n3_; have HO283 := n4_; have HO287 := n5_; have HO291 := n6_; have HB := n7_; clear n0_ n1_ n2_ n3_ n4_ n5_ n6_ n7_; (try clear hb); (try clear hb2); (try clear hk); (try clear hi); (try clear ho0)) | ((with_reducible refine gate_callee (f := 21) rfl ?_); refine goesL_ (some 64) rfl rfl Try.func21 (by kernel_rfl) rfl #[.slice Ao16 t267.length co16, .int .i64 a1] rfl (by (try simp only [List.map_toArray, List.map_cons, List.map_nil]); first | done | rfl | (simp only [List.length_drop, List.length_take]; rfl)) ?_; (with_reducible refine (extent_Find.calls k _ _ t267 a1 t292 t293 t294 _ ?side1 ?side2 A11.out).mono ?_); (case side1 => repeat (first | exact (Kd.R_reads' HO269.out).2.2 | (with_reducible refine Kd.C_alloc ?_ _) | (with_reducible refine Kd.C_drewN ?_ _) | (with_reducible refine Kd.C_drew ?_))); (case side2 => exact (Kd.R_reads' HO269.out).2.1); rintro e w21 ⟨rfl, hb⟩; refine ⟨_, rfl, ?_⟩; have n0_ := Aside0.mk (Kd.R_below (by (with_reducible repeat (first | apply Kd.R_alloc | apply Kd.R_drewN | apply Kd.R_drew)); exact HO269.out) hb); have n1_ := Aside0.mk (Kd.R_below (by (with_reducible repeat (first | apply Kd.R_alloc | apply Kd.R_drewN | apply Kd.R_drew)); exact HO274.out) hb); have n2_ := Aside0.mk (Kd.R_below (by (with_reducible repeat (first | apply Kd.R_alloc | apply Kd.R_drewN | apply Kd.R_drew)); exact HO276.out) hb); have n3_ := Aside0.mk (Kd.R_below (by (with_reducible repeat (first | apply Kd.R_alloc | apply Kd.R_drewN | apply Kd.R_drew)); exact HO281.out) hb); have n4_ := Aside0.mk (Kd.R_below (by (with_reducible repeat (first | apply Kd.R_alloc | apply Kd.R_drewN | apply Kd.R_drew)); exact HO283.out) hb); have n5_ := Aside0.mk (Kd.R_below (by (with_reducible repeat (first | apply Kd.R_alloc | apply Kd.R_drewN | apply Kd.R_drew)); exact HO287.out) hb); have n6_ := Aside0.mk (Kd.R_below (by (with_reducible repeat (first | apply Kd.R_alloc | apply Kd.R_drewN | apply Kd.R_drew)); exact HO291.out) hb); have n7_ := Aside0.mk (below_step (by repeat (first | (with_reducible first | exact HB.out | apply below_alloc | apply pw_below_drewN | apply below_drew1) | exact HB.out)) hb); clear HO269; clear HO274; clear HO276; clear HO281; clear HO283; clear HO287; clear HO291; clear HB; have HO269 := n0_; have HO274 := n1_; have HO276 := n2_; have HO281 := n3_; have HO283 := n4_; have HO287 := n5_; have HO291 := n6_; have HB := n7_; clear n0_ n1_ n2_ n3_ n4_ n5_ n6_ n7_; (try clear hb); (try clear hb2); (try clear hk); (try clear hi)) | ((with_reducible refine gate_callee (f := 25) rfl ?_); refine goesL_ (some 71) rfl rfl Try.func25 (by kernel_rfl) rfl #[.slice A0 l0.length c0, .int .i64 a1] rfl (by (try simp only [List.map_toArray, List.map_cons, List.map_nil]); first | done | rfl | (simp only [List.length_drop, List.length_take]; rfl)) ?_; (with_reducible refine (undercroftref10_Find.calls k _ _ l0 a1 t295 t296 t297 _ ?side1 ?side2 A12.out).mono ?_); (case side1 => repeat (first | exact (Kd.C_below HR0.out HB.out) | (with_reducible refine Kd.C_alloc ?_ _) | (with_reducible refine Kd.C_drewN ?_ _) | (with_reducible refine Kd.C_drew ?_))); (case side2 => exact HC0.out); rintro e w22 ⟨rfl, hb⟩; refine ⟨_, rfl, ?_⟩; have n0_ := Aside0.mk (Kd.R_below (by (with_reducible repeat (first | apply Kd.R_alloc | apply Kd.R_drewN | apply Kd.R_drew)); exact HO269.out) hb); have n1_ := Aside0.mk (Kd.R_below (by (with_reducible repeat (first | apply Kd.R_alloc | apply Kd.R_drewN | apply Kd.R_drew)); exact HO274.out) hb); have n2_ := Aside0.mk (Kd.R_below (by (with_reducible repeat (first | apply Kd.R_alloc | apply Kd.R_drewN | apply Kd.R_drew)); exact HO276.out) hb); have n3_ := Aside0.mk (Kd.R_below (by (with_reducible repeat (first | apply Kd.R_alloc | apply Kd.R_drewN | apply Kd.R_drew)); exact HO281.out) hb); have n4_ := Aside0.mk (Kd.R_below (by (with_reducible repeat (first | apply Kd.R_alloc | apply Kd.R_drewN | apply Kd.R_drew)); exact HO283.out) hb); have n5_ := Aside0.mk (Kd.R_below (by (with_reducible repeat (first | apply Kd.R_alloc | apply Kd.R_drewN | apply Kd.R_drew)); exact HO287.out) hb); have n6_ := Aside0.mk (Kd.R_below (by (with_reducible repeat (first | apply Kd.R_alloc | apply Kd.R_drewN | apply Kd.R_drew)); exact HO291.out) hb); have n7_ := Aside0.mk (below_step (by repeat (first | (with_reducible first | exact HB.out | apply below_alloc | apply pw_below_drewN | apply below_drew1) | exact HB.out)) hb); clear HO269; clear HO274; clear HO276; clear HO281; clear HO283; clear HO287; clear HO291; clear HB; have HO269 := n0_; have HO274 := n1_; have HO276 := n2_; have HO281 := n3_; have HO283 := n4_; have HO287 := n5_; have HO291 := n6_; have HB := n7_; clear n0_ n1_ n2_ n3_ n4_ n5_ n6_ n7_; (try clear hb); (try clear hb2); (try clear hk); (try clear hi)))
  (try simp only [Act.put, List.setIfInBounds_toArray, List.set_cons_zero, List.set_cons_succ])
  go_cut [24] (fun v24 wc => ∃ (kq : Nat) (x24_12 : Bool), v24 = .bool x24_12 ∧ Aside0 (undercroftlaw10_ExtentCuts.j0 kq l0 t267 t270 t284 x24_12 = some r) ∧ Aside0 (kq ≤ k) ∧ Aside0 (Kd.R k24 24 wc w.heap.size (fun k_ => some k_ ≠ (v273 : Value).ownBlock ∧ some k_ ≠ (v286 : Value).ownBlock) (.slice Ao16 t267.length co16) t267) ∧ Aside0 (Kd.R k24 24 wc w.heap.size (fun k_ => some k_ ≠ ((.slice Ao16 t267.length co16) : Value).ownBlock ∧ some k_ ≠ (v286 : Value).ownBlock) v273 t270) ∧ Aside0 (Kd.R k24 24 wc w.heap.size (fun k_ => some k_ ≠ ((.slice Ao16 t267.length co16) : Value).ownBlock ∧ some k_ ≠ (v273 : Value).ownBlock) v286 t284) ∧ Aside0 (Below w.heap.size w wc))
  case first =>
   have H := HC13.out
   clear HC13
   by_cases c23 : t272 = t279
   ·rw [if_pos c23] at H
    have c23b0 : (t272 == t279) = true := beq_iff_eq.mpr c23
    have c23b1 : (t272 != t279) = false := bne_eq_false_iff_eq.mpr c23
    clear c23
    (first | rw [c23b0] | (simp only [i64_w, i32_w]; rw [c23b0]) | skip)
    replace H := Option.bind_eq_some_iff.mp H
    obtain ⟨t298, A240, H⟩ := H
    replace H : (if t298 = true then ((undercroftref10_SameSpans.f k t271 t278).bind fun t299 => (if t299 = true then (if t285 = t289 then ((undercroftref10_Same.f k t284 t288).bind fun t300 => (if t300 = true then (if t292 = t295 then (if (t293 == t296) = true then (undercroftlaw10_ExtentCuts.j0 k l0 t267 t270 t284 (t294 == t297)) else (undercroftlaw10_ExtentCuts.j0 k l0 t267 t270 t284 false)) else (undercroftlaw10_ExtentCuts.j0 k l0 t267 t270 t284 false)) else (undercroftlaw10_ExtentCuts.j0 k l0 t267 t270 t284 false))) else (undercroftlaw10_ExtentCuts.j0 k l0 t267 t270 t284 false)) else (undercroftlaw10_ExtentCuts.j0 k l0 t267 t270 t284 false))) else (undercroftlaw10_ExtentCuts.j0 k l0 t267 t270 t284 false)) = some r := H
    have A24 := Aside0.mk A240
    clear A240
    by_cases c25 : t298 = true
    ·subst c25
     have H1 : ((undercroftref10_SameSpans.f k t271 t278).bind fun t299 => (if t299 = true then (if t285 = t289 then ((undercroftref10_Same.f k t284 t288).bind fun t300 => (if t300 = true then (if t292 = t295 then (if (t293 == t296) = true then (undercroftlaw10_ExtentCuts.j0 k l0 t267 t270 t284 (t294 == t297)) else (undercroftlaw10_ExtentCuts.j0 k l0 t267 t270 t284 false)) else (undercroftlaw10_ExtentCuts.j0 k l0 t267 t270 t284 false)) else (undercroftlaw10_ExtentCuts.j0 k l0 t267 t270 t284 false))) else (undercroftlaw10_ExtentCuts.j0 k l0 t267 t270 t284 false)) else (undercroftlaw10_ExtentCuts.j0 k l0 t267 t270 t284 false))) = some r := by rw [if_pos rfl] at H; exact H
     clear H;have H := H1;clear H1
     replace H := Option.bind_eq_some_iff.mp H
     obtain ⟨t299, A260, H⟩ := H
     replace H : (if t299 = true then (if t285 = t289 then ((undercroftref10_Same.f k t284 t288).bind fun t300 => (if t300 = true then (if t292 = t295 then (if (t293 == t296) = true then (undercroftlaw10_ExtentCuts.j0 k l0 t267 t270 t284 (t294 == t297)) else (undercroftlaw10_ExtentCuts.j0 k l0 t267 t270 t284 false)) else (undercroftlaw10_ExtentCuts.j0 k l0 t267 t270 t284 false)) else (undercroftlaw10_ExtentCuts.j0 k l0 t267 t270 t284 false))) else (undercroftlaw10_ExtentCuts.j0 k l0 t267 t270 t284 false)) else (undercroftlaw10_ExtentCuts.j0 k l0 t267 t270 t284 false)) = some r := H
     have A26 := Aside0.mk A260
     clear A260
     by_cases c27 : t299 = true
     ·subst c27
      have H1 : (if t285 = t289 then ((undercroftref10_Same.f k t284 t288).bind fun t300 => (if t300 = true then (if t292 = t295 then (if (t293 == t296) = true then (undercroftlaw10_ExtentCuts.j0 k l0 t267 t270 t284 (t294 == t297)) else (undercroftlaw10_ExtentCuts.j0 k l0 t267 t270 t284 false)) else (undercroftlaw10_ExtentCuts.j0 k l0 t267 t270 t284 false)) else (undercroftlaw10_ExtentCuts.j0 k l0 t267 t270 t284 false))) else (undercroftlaw10_ExtentCuts.j0 k l0 t267 t270 t284 false)) = some r := by rw [if_pos rfl] at H; exact H
      clear H;have H := H1;clear H1
      by_cases c28 : t285 = t289
      ·rw [if_pos c28] at H
       have c28b0 : (t285 == t289) = true := beq_iff_eq.mpr c28
       have c28b1 : (t285 != t289) = false := bne_eq_false_iff_eq.mpr c28
       clear c28
       replace H := Option.bind_eq_some_iff.mp H
       obtain ⟨t300, A290, H⟩ := H
       replace H : (if t300 = true then (if t292 = t295 then (if (t293 == t296) = true then (undercroftlaw10_ExtentCuts.j0 k l0 t267 t270 t284 (t294 == t297)) else (undercroftlaw10_ExtentCuts.j0 k l0 t267 t270 t284 false)) else (undercroftlaw10_ExtentCuts.j0 k l0 t267 t270 t284 false)) else (undercroftlaw10_ExtentCuts.j0 k l0 t267 t270 t284 false)) = some r := H
       have A29 := Aside0.mk A290
       clear A290
       by_cases c30 : t300 = true
       ·subst c30
        have H1 : (if t292 = t295 then (if (t293 == t296) = true then (undercroftlaw10_ExtentCuts.j0 k l0 t267 t270 t284 (t294 == t297)) else (undercroftlaw10_ExtentCuts.j0 k l0 t267 t270 t284 false)) else (undercroftlaw10_ExtentCuts.j0 k l0 t267 t270 t284 false)) = some r := by rw [if_pos rfl] at H; exact H
        clear H;have H := H1;clear H1
        by_cases c31 : t292 = t295
        ·rw [if_pos c31] at H
         have c31b0 : (t292 == t295) = true := beq_iff_eq.mpr c31
         have c31b1 : (t292 != t295) = false := bne_eq_false_iff_eq.mpr c31
         clear c31
         by_cases c32 : (t293 == t296) = true
         ·rw [if_pos c32] at H
          have c32b0 : (t293 == t296) = true := c32
          (try (have c32b1 : decide (t293 = t296) = true := by simpa using c32))
          (try (have c32b2 : (t293 == t296) = true := by simpa using c32))
          clear c32
          have H' := Aside0.mk H
          clear H
          obtain ⟨Ao33, co33, eo33⟩ := Kd.R_slice HO274.out
          subst eo33
          obtain ⟨Ao34, co34, eo34⟩ := Kd.R_slice HO281.out
          subst eo34
          go_wp2_with (first | (go_at_call 15; (with_reducible refine (undercroftref10_Same.calls k _ _ t270 _ _ t277 true _ ?side1 ?side2 ?side3 ?side4 A24.out).mono ?_); (case side1 => repeat (first | exact (Kd.R_reads' HO274.out).2.2 | (with_reducible refine Kd.C_alloc ?_ _) | (with_reducible refine Kd.C_drewN ?_ _) | (with_reducible refine Kd.C_drew ?_))); (case side2 => exact (Kd.R_reads' HO274.out).2.1); (case side3 => repeat (first | exact (Kd.R_reads' HO281.out).2.2 | (with_reducible refine Kd.C_alloc ?_ _) | (with_reducible refine Kd.C_drewN ?_ _) | (with_reducible refine Kd.C_drew ?_))); (case side4 => exact (Kd.R_reads' HO281.out).2.1); rintro e w' ⟨rfl, ⟨nd, rfl⟩⟩; obtain ⟨Ao35, co35, eo35⟩ := Kd.R_slice HO276.out; subst eo35; obtain ⟨Ao36, co36, eo36⟩ := Kd.R_slice HO283.out; subst eo36) | (go_at_call 26; (with_reducible refine (undercroftref10_SameSpans.calls k _ _ t271 _ _ t278 true _ ?side1 ?side2 ?side3 ?side4 A26.out).mono ?_); (case side1 => repeat (first | exact (Kd.R_reads' HO276.out).2.2 | (with_reducible refine Kd.C_alloc ?_ _) | (with_reducible refine Kd.C_drewN ?_ _) | (with_reducible refine Kd.C_drew ?_))); (case side2 => exact (Kd.R_reads' HO276.out).2.1); (case side3 => repeat (first | exact (Kd.R_reads' HO283.out).2.2 | (with_reducible refine Kd.C_alloc ?_ _) | (with_reducible refine Kd.C_drewN ?_ _) | (with_reducible refine Kd.C_drew ?_))); (case side4 => exact (Kd.R_reads' HO283.out).2.1); rintro e w' ⟨rfl, ⟨nd, rfl⟩⟩; obtain ⟨Ao37, co37, eo37⟩ := Kd.R_slice HO287.out; subst eo37; obtain ⟨Ao38, co38, eo38⟩ := Kd.R_slice HO291.out; subst eo38) | (go_at_call 15; (with_reducible refine (undercroftref10_Same.calls k _ _ t284 _ _ t288 true _ ?side1 ?side2 ?side3 ?side4 A29.out).mono ?_); (case side1 => repeat (first | exact (Kd.R_reads' HO287.out).2.2 | (with_reducible refine Kd.C_alloc ?_ _) | (with_reducible refine Kd.C_drewN ?_ _) | (with_reducible refine Kd.C_drew ?_))); (case side2 => exact (Kd.R_reads' HO287.out).2.1); (case side3 => repeat (first | exact (Kd.R_reads' HO291.out).2.2 | (with_reducible refine Kd.C_alloc ?_ _) | (with_reducible refine Kd.C_drewN ?_ _) | (with_reducible refine Kd.C_drew ?_))); (case side4 => exact (Kd.R_reads' HO291.out).2.1); rintro e w' ⟨rfl, ⟨nd, rfl⟩⟩))
          go_meet
          case rel => exact ⟨_, ((t294 == t297)), (by first | rfl | (simp; done) | (simp [*]; done)), H', ⟨by first | omega | exact Nat.le_refl _⟩, ⟨by (with_reducible repeat (first | apply Kd.R_alloc | apply Kd.R_drewN | apply Kd.R_drew)); exact Kd.R_mono HO269.out (fun _ hk => ⟨hk.1.1.1.2, hk.1.2⟩)⟩, ⟨by (with_reducible repeat (first | apply Kd.R_alloc | apply Kd.R_drewN | apply Kd.R_drew)); exact Kd.R_mono HO274.out (fun _ hk => ⟨hk.1.1.1.2, hk.1.2⟩)⟩, ⟨by (with_reducible repeat (first | apply Kd.R_alloc | apply Kd.R_drewN | apply Kd.R_drew)); exact Kd.R_mono HO287.out (fun _ hk => ⟨hk.1.1.1.2, hk.1.1.2⟩)⟩, ⟨by repeat (first | (with_reducible first | exact HB.out | apply below_alloc | apply pw_below_drewN | apply below_drew1) | exact HB.out)⟩⟩
         ·rw [if_neg c32] at H
          have c32b0 : (t293 == t296) = false := by simpa using c32
          (try (have c32b1 : decide (t293 = t296) = false := by simpa using c32))
          (try (have c32b2 : (t293 == t296) = false := by simpa using c32))
          (try (have c32b3 : ¬ (t293 = t296) := by simpa using c32))
          clear c32
          have H' := Aside0.mk H
          clear H
          obtain ⟨Ao39, co39, eo39⟩ := Kd.R_slice HO274.out
          subst eo39
          obtain ⟨Ao40, co40, eo40⟩ := Kd.R_slice HO281.out
          subst eo40
          go_wp2_with (first | (go_at_call 15; (with_reducible refine (undercroftref10_Same.calls k _ _ t270 _ _ t277 true _ ?side1 ?side2 ?side3 ?side4 A24.out).mono ?_); (case side1 => repeat (first | exact (Kd.R_reads' HO274.out).2.2 | (with_reducible refine Kd.C_alloc ?_ _) | (with_reducible refine Kd.C_drewN ?_ _) | (with_reducible refine Kd.C_drew ?_))); (case side2 => exact (Kd.R_reads' HO274.out).2.1); (case side3 => repeat (first | exact (Kd.R_reads' HO281.out).2.2 | (with_reducible refine Kd.C_alloc ?_ _) | (with_reducible refine Kd.C_drewN ?_ _) | (with_reducible refine Kd.C_drew ?_))); (case side4 => exact (Kd.R_reads' HO281.out).2.1); rintro e w' ⟨rfl, ⟨nd, rfl⟩⟩; obtain ⟨Ao41, co41, eo41⟩ := Kd.R_slice HO276.out; subst eo41; obtain ⟨Ao42, co42, eo42⟩ := Kd.R_slice HO283.out; subst eo42) | (go_at_call 26; (with_reducible refine (undercroftref10_SameSpans.calls k _ _ t271 _ _ t278 true _ ?side1 ?side2 ?side3 ?side4 A26.out).mono ?_); (case side1 => repeat (first | exact (Kd.R_reads' HO276.out).2.2 | (with_reducible refine Kd.C_alloc ?_ _) | (with_reducible refine Kd.C_drewN ?_ _) | (with_reducible refine Kd.C_drew ?_))); (case side2 => exact (Kd.R_reads' HO276.out).2.1); (case side3 => repeat (first | exact (Kd.R_reads' HO283.out).2.2 | (with_reducible refine Kd.C_alloc ?_ _) | (with_reducible refine Kd.C_drewN ?_ _) | (with_reducible refine Kd.C_drew ?_))); (case side4 => exact (Kd.R_reads' HO283.out).2.1); rintro e w' ⟨rfl, ⟨nd, rfl⟩⟩; obtain ⟨Ao43, co43, eo43⟩ := Kd.R_slice HO287.out; subst eo43; obtain ⟨Ao44, co44, eo44⟩ := Kd.R_slice HO291.out; subst eo44) | (go_at_call 15; (with_reducible refine (undercroftref10_Same.calls k _ _ t284 _ _ t288 true _ ?side1 ?side2 ?side3 ?side4 A29.out).mono ?_); (case side1 => repeat (first | exact (Kd.R_reads' HO287.out).2.2 | (with_reducible refine Kd.C_alloc ?_ _) | (with_reducible refine Kd.C_drewN ?_ _) | (with_reducible refine Kd.C_drew ?_))); (case side2 => exact (Kd.R_reads' HO287.out).2.1); (case side3 => repeat (first | exact (Kd.R_reads' HO291.out).2.2 | (with_reducible refine Kd.C_alloc ?_ _) | (with_reducible refine Kd.C_drewN ?_ _) | (with_reducible refine Kd.C_drew ?_))); (case side4 => exact (Kd.R_reads' HO291.out).2.1); rintro e w' ⟨rfl, ⟨nd, rfl⟩⟩))
          go_meet
          case rel => exact ⟨_, (false), (by first | rfl | (simp; done) | (simp [*]; done)), H', ⟨by first | omega | exact Nat.le_refl _⟩, ⟨by (with_reducible repeat (first | apply Kd.R_alloc | apply Kd.R_drewN | apply Kd.R_drew)); exact Kd.R_mono HO269.out (fun _ hk => ⟨hk.1.1.1.2, hk.1.2⟩)⟩, ⟨by (with_reducible repeat (first | apply Kd.R_alloc | apply Kd.R_drewN | apply Kd.R_drew)); exact Kd.R_mono HO274.out (fun _ hk => ⟨hk.1.1.1.2, hk.1.2⟩)⟩, ⟨by (with_reducible repeat (first | apply Kd.R_alloc | apply Kd.R_drewN | apply Kd.R_drew)); exact Kd.R_mono HO287.out (fun _ hk => ⟨hk.1.1.1.2, hk.1.1.2⟩)⟩, ⟨by repeat (first | (with_reducible first | exact HB.out | apply below_alloc | apply pw_below_drewN | apply below_drew1) | exact HB.out)⟩⟩
        ·rw [if_neg c31] at H
         have c31b0 : (t292 == t295) = false := beq_eq_false_iff_ne.mpr c31
         have c31b1 : (t292 != t295) = true := bne_iff_ne.mpr c31
         have H' := Aside0.mk H
         clear H
         obtain ⟨Ao45, co45, eo45⟩ := Kd.R_slice HO274.out
         subst eo45
         obtain ⟨Ao46, co46, eo46⟩ := Kd.R_slice HO281.out
         subst eo46
         go_wp2_with (first | (go_at_call 15; (with_reducible refine (undercroftref10_Same.calls k _ _ t270 _ _ t277 true _ ?side1 ?side2 ?side3 ?side4 A24.out).mono ?_); (case side1 => repeat (first | exact (Kd.R_reads' HO274.out).2.2 | (with_reducible refine Kd.C_alloc ?_ _) | (with_reducible refine Kd.C_drewN ?_ _) | (with_reducible refine Kd.C_drew ?_))); (case side2 => exact (Kd.R_reads' HO274.out).2.1); (case side3 => repeat (first | exact (Kd.R_reads' HO281.out).2.2 | (with_reducible refine Kd.C_alloc ?_ _) | (with_reducible refine Kd.C_drewN ?_ _) | (with_reducible refine Kd.C_drew ?_))); (case side4 => exact (Kd.R_reads' HO281.out).2.1); rintro e w' ⟨rfl, ⟨nd, rfl⟩⟩; obtain ⟨Ao47, co47, eo47⟩ := Kd.R_slice HO276.out; subst eo47; obtain ⟨Ao48, co48, eo48⟩ := Kd.R_slice HO283.out; subst eo48) | (go_at_call 26; (with_reducible refine (undercroftref10_SameSpans.calls k _ _ t271 _ _ t278 true _ ?side1 ?side2 ?side3 ?side4 A26.out).mono ?_); (case side1 => repeat (first | exact (Kd.R_reads' HO276.out).2.2 | (with_reducible refine Kd.C_alloc ?_ _) | (with_reducible refine Kd.C_drewN ?_ _) | (with_reducible refine Kd.C_drew ?_))); (case side2 => exact (Kd.R_reads' HO276.out).2.1); (case side3 => repeat (first | exact (Kd.R_reads' HO283.out).2.2 | (with_reducible refine Kd.C_alloc ?_ _) | (with_reducible refine Kd.C_drewN ?_ _) | (with_reducible refine Kd.C_drew ?_))); (case side4 => exact (Kd.R_reads' HO283.out).2.1); rintro e w' ⟨rfl, ⟨nd, rfl⟩⟩; obtain ⟨Ao49, co49, eo49⟩ := Kd.R_slice HO287.out; subst eo49; obtain ⟨Ao50, co50, eo50⟩ := Kd.R_slice HO291.out; subst eo50) | (go_at_call 15; (with_reducible refine (undercroftref10_Same.calls k _ _ t284 _ _ t288 true _ ?side1 ?side2 ?side3 ?side4 A29.out).mono ?_); (case side1 => repeat (first | exact (Kd.R_reads' HO287.out).2.2 | (with_reducible refine Kd.C_alloc ?_ _) | (with_reducible refine Kd.C_drewN ?_ _) | (with_reducible refine Kd.C_drew ?_))); (case side2 => exact (Kd.R_reads' HO287.out).2.1); (case side3 => repeat (first | exact (Kd.R_reads' HO291.out).2.2 | (with_reducible refine Kd.C_alloc ?_ _) | (with_reducible refine Kd.C_drewN ?_ _) | (with_reducible refine Kd.C_drew ?_))); (case side4 => exact (Kd.R_reads' HO291.out).2.1); rintro e w' ⟨rfl, ⟨nd, rfl⟩⟩))
         go_meet
         case rel => exact ⟨_, (false), (by first | rfl | (simp; done) | (simp [*]; done)), H', ⟨by first | omega | exact Nat.le_refl _⟩, ⟨by (with_reducible repeat (first | apply Kd.R_alloc | apply Kd.R_drewN | apply Kd.R_drew)); exact Kd.R_mono HO269.out (fun _ hk => ⟨hk.1.1.1.2, hk.1.2⟩)⟩, ⟨by (with_reducible repeat (first | apply Kd.R_alloc | apply Kd.R_drewN | apply Kd.R_drew)); exact Kd.R_mono HO274.out (fun _ hk => ⟨hk.1.1.1.2, hk.1.2⟩)⟩, ⟨by (with_reducible repeat (first | apply Kd.R_alloc | apply Kd.R_drewN | apply Kd.R_drew)); exact Kd.R_mono HO287.out (fun _ hk => ⟨hk.1.1.1.2, hk.1.1.2⟩)⟩, ⟨by repeat (first | (with_reducible first | exact HB.out | apply below_alloc | apply pw_below_drewN | apply below_drew1) | exact HB.out)⟩⟩
       ·replace c30 := Bool.eq_false_iff.mpr c30
        subst c30
        have H1 : (undercroftlaw10_ExtentCuts.j0 k l0 t267 t270 t284 false) = some r := by rw [if_neg (show ¬ (false = true) by decide)] at H; exact H
        clear H;have H := H1;clear H1
        have H' := Aside0.mk H
        clear H
        obtain ⟨Ao51, co51, eo51⟩ := Kd.R_slice HO274.out
        subst eo51
        obtain ⟨Ao52, co52, eo52⟩ := Kd.R_slice HO281.out
        subst eo52
        go_wp2_with (first | (go_at_call 15; (with_reducible refine (undercroftref10_Same.calls k _ _ t270 _ _ t277 true _ ?side1 ?side2 ?side3 ?side4 A24.out).mono ?_); (case side1 => repeat (first | exact (Kd.R_reads' HO274.out).2.2 | (with_reducible refine Kd.C_alloc ?_ _) | (with_reducible refine Kd.C_drewN ?_ _) | (with_reducible refine Kd.C_drew ?_))); (case side2 => exact (Kd.R_reads' HO274.out).2.1); (case side3 => repeat (first | exact (Kd.R_reads' HO281.out).2.2 | (with_reducible refine Kd.C_alloc ?_ _) | (with_reducible refine Kd.C_drewN ?_ _) | (with_reducible refine Kd.C_drew ?_))); (case side4 => exact (Kd.R_reads' HO281.out).2.1); rintro e w' ⟨rfl, ⟨nd, rfl⟩⟩; obtain ⟨Ao53, co53, eo53⟩ := Kd.R_slice HO276.out; subst eo53; obtain ⟨Ao54, co54, eo54⟩ := Kd.R_slice HO283.out; subst eo54) | (go_at_call 26; (with_reducible refine (undercroftref10_SameSpans.calls k _ _ t271 _ _ t278 true _ ?side1 ?side2 ?side3 ?side4 A26.out).mono ?_); (case side1 => repeat (first | exact (Kd.R_reads' HO276.out).2.2 | (with_reducible refine Kd.C_alloc ?_ _) | (with_reducible refine Kd.C_drewN ?_ _) | (with_reducible refine Kd.C_drew ?_))); (case side2 => exact (Kd.R_reads' HO276.out).2.1); (case side3 => repeat (first | exact (Kd.R_reads' HO283.out).2.2 | (with_reducible refine Kd.C_alloc ?_ _) | (with_reducible refine Kd.C_drewN ?_ _) | (with_reducible refine Kd.C_drew ?_))); (case side4 => exact (Kd.R_reads' HO283.out).2.1); rintro e w' ⟨rfl, ⟨nd, rfl⟩⟩; obtain ⟨Ao55, co55, eo55⟩ := Kd.R_slice HO287.out; subst eo55; obtain ⟨Ao56, co56, eo56⟩ := Kd.R_slice HO291.out; subst eo56) | (go_at_call 15; (with_reducible refine (undercroftref10_Same.calls k _ _ t284 _ _ t288 false _ ?side1 ?side2 ?side3 ?side4 A29.out).mono ?_); (case side1 => repeat (first | exact (Kd.R_reads' HO287.out).2.2 | (with_reducible refine Kd.C_alloc ?_ _) | (with_reducible refine Kd.C_drewN ?_ _) | (with_reducible refine Kd.C_drew ?_))); (case side2 => exact (Kd.R_reads' HO287.out).2.1); (case side3 => repeat (first | exact (Kd.R_reads' HO291.out).2.2 | (with_reducible refine Kd.C_alloc ?_ _) | (with_reducible refine Kd.C_drewN ?_ _) | (with_reducible refine Kd.C_drew ?_))); (case side4 => exact (Kd.R_reads' HO291.out).2.1); rintro e w' ⟨rfl, ⟨nd, rfl⟩⟩))
        go_meet
        case rel => exact ⟨_, (false), (by first | rfl | (simp; done) | (simp [*]; done)), H', ⟨by first | omega | exact Nat.le_refl _⟩, ⟨by (with_reducible repeat (first | apply Kd.R_alloc | apply Kd.R_drewN | apply Kd.R_drew)); exact Kd.R_mono HO269.out (fun _ hk => ⟨hk.1.1.1.2, hk.1.2⟩)⟩, ⟨by (with_reducible repeat (first | apply Kd.R_alloc | apply Kd.R_drewN | apply Kd.R_drew)); exact Kd.R_mono HO274.out (fun _ hk => ⟨hk.1.1.1.2, hk.1.2⟩)⟩, ⟨by (with_reducible repeat (first | apply Kd.R_alloc | apply Kd.R_drewN | apply Kd.R_drew)); exact Kd.R_mono HO287.out (fun _ hk => ⟨hk.1.1.1.2, hk.1.1.2⟩)⟩, ⟨by repeat (first | (with_reducible first | exact HB.out | apply below_alloc | apply pw_below_drewN | apply below_drew1) | exact HB.out)⟩⟩
      ·rw [if_neg c28] at H
       have c28b0 : (t285 == t289) = false := beq_eq_false_iff_ne.mpr c28
       have c28b1 : (t285 != t289) = true := bne_iff_ne.mpr c28
       have H' := Aside0.mk H
       clear H
       obtain ⟨Ao57, co57, eo57⟩ := Kd.R_slice HO274.out
       subst eo57
       obtain ⟨Ao58, co58, eo58⟩ := Kd.R_slice HO281.out
       subst eo58
       go_wp2_with (first | (go_at_call 15; (with_reducible refine (undercroftref10_Same.calls k _ _ t270 _ _ t277 true _ ?side1 ?side2 ?side3 ?side4 A24.out).mono ?_); (case side1 => repeat (first | exact (Kd.R_reads' HO274.out).2.2 | (with_reducible refine Kd.C_alloc ?_ _) | (with_reducible refine Kd.C_drewN ?_ _) | (with_reducible refine Kd.C_drew ?_))); (case side2 => exact (Kd.R_reads' HO274.out).2.1); (case side3 => repeat (first | exact (Kd.R_reads' HO281.out).2.2 | (with_reducible refine Kd.C_alloc ?_ _) | (with_reducible refine Kd.C_drewN ?_ _) | (with_reducible refine Kd.C_drew ?_))); (case side4 => exact (Kd.R_reads' HO281.out).2.1); rintro e w' ⟨rfl, ⟨nd, rfl⟩⟩; obtain ⟨Ao59, co59, eo59⟩ := Kd.R_slice HO276.out; subst eo59; obtain ⟨Ao60, co60, eo60⟩ := Kd.R_slice HO283.out; subst eo60) | (go_at_call 26; (with_reducible refine (undercroftref10_SameSpans.calls k _ _ t271 _ _ t278 true _ ?side1 ?side2 ?side3 ?side4 A26.out).mono ?_); (case side1 => repeat (first | exact (Kd.R_reads' HO276.out).2.2 | (with_reducible refine Kd.C_alloc ?_ _) | (with_reducible refine Kd.C_drewN ?_ _) | (with_reducible refine Kd.C_drew ?_))); (case side2 => exact (Kd.R_reads' HO276.out).2.1); (case side3 => repeat (first | exact (Kd.R_reads' HO283.out).2.2 | (with_reducible refine Kd.C_alloc ?_ _) | (with_reducible refine Kd.C_drewN ?_ _) | (with_reducible refine Kd.C_drew ?_))); (case side4 => exact (Kd.R_reads' HO283.out).2.1); rintro e w' ⟨rfl, ⟨nd, rfl⟩⟩))
       go_meet
       case rel => exact ⟨_, (false), (by first | rfl | (simp; done) | (simp [*]; done)), H', ⟨by first | omega | exact Nat.le_refl _⟩, ⟨by (with_reducible repeat (first | apply Kd.R_alloc | apply Kd.R_drewN | apply Kd.R_drew)); exact Kd.R_mono HO269.out (fun _ hk => ⟨hk.1.1.1.2, hk.1.2⟩)⟩, ⟨by (with_reducible repeat (first | apply Kd.R_alloc | apply Kd.R_drewN | apply Kd.R_drew)); exact Kd.R_mono HO274.out (fun _ hk => ⟨hk.1.1.1.2, hk.1.2⟩)⟩, ⟨by (with_reducible repeat (first | apply Kd.R_alloc | apply Kd.R_drewN | apply Kd.R_drew)); exact Kd.R_mono HO287.out (fun _ hk => ⟨hk.1.1.1.2, hk.1.1.2⟩)⟩, ⟨by repeat (first | (with_reducible first | exact HB.out | apply below_alloc | apply pw_below_drewN | apply below_drew1) | exact HB.out)⟩⟩
     ·replace c27 := Bool.eq_false_iff.mpr c27
      subst c27
      have H1 : (undercroftlaw10_ExtentCuts.j0 k l0 t267 t270 t284 false) = some r := by rw [if_neg (show ¬ (false = true) by decide)] at H; exact H
      clear H;have H := H1;clear H1
      have H' := Aside0.mk H
      clear H
      obtain ⟨Ao61, co61, eo61⟩ := Kd.R_slice HO274.out
      subst eo61
      obtain ⟨Ao62, co62, eo62⟩ := Kd.R_slice HO281.out
      subst eo62
      go_wp2_with (first | (go_at_call 15; (with_reducible refine (undercroftref10_Same.calls k _ _ t270 _ _ t277 true _ ?side1 ?side2 ?side3 ?side4 A24.out).mono ?_); (case side1 => repeat (first | exact (Kd.R_reads' HO274.out).2.2 | (with_reducible refine Kd.C_alloc ?_ _) | (with_reducible refine Kd.C_drewN ?_ _) | (with_reducible refine Kd.C_drew ?_))); (case side2 => exact (Kd.R_reads' HO274.out).2.1); (case side3 => repeat (first | exact (Kd.R_reads' HO281.out).2.2 | (with_reducible refine Kd.C_alloc ?_ _) | (with_reducible refine Kd.C_drewN ?_ _) | (with_reducible refine Kd.C_drew ?_))); (case side4 => exact (Kd.R_reads' HO281.out).2.1); rintro e w' ⟨rfl, ⟨nd, rfl⟩⟩; obtain ⟨Ao63, co63, eo63⟩ := Kd.R_slice HO276.out; subst eo63; obtain ⟨Ao64, co64, eo64⟩ := Kd.R_slice HO283.out; subst eo64) | (go_at_call 26; (with_reducible refine (undercroftref10_SameSpans.calls k _ _ t271 _ _ t278 false _ ?side1 ?side2 ?side3 ?side4 A26.out).mono ?_); (case side1 => repeat (first | exact (Kd.R_reads' HO276.out).2.2 | (with_reducible refine Kd.C_alloc ?_ _) | (with_reducible refine Kd.C_drewN ?_ _) | (with_reducible refine Kd.C_drew ?_))); (case side2 => exact (Kd.R_reads' HO276.out).2.1); (case side3 => repeat (first | exact (Kd.R_reads' HO283.out).2.2 | (with_reducible refine Kd.C_alloc ?_ _) | (with_reducible refine Kd.C_drewN ?_ _) | (with_reducible refine Kd.C_drew ?_))); (case side4 => exact (Kd.R_reads' HO283.out).2.1); rintro e w' ⟨rfl, ⟨nd, rfl⟩⟩))
      go_meet
      case rel => exact ⟨_, (false), (by first | rfl | (simp; done) | (simp [*]; done)), H', ⟨by first | omega | exact Nat.le_refl _⟩, ⟨by (with_reducible repeat (first | apply Kd.R_alloc | apply Kd.R_drewN | apply Kd.R_drew)); exact Kd.R_mono HO269.out (fun _ hk => ⟨hk.1.1.1.2, hk.1.2⟩)⟩, ⟨by (with_reducible repeat (first | apply Kd.R_alloc | apply Kd.R_drewN | apply Kd.R_drew)); exact Kd.R_mono HO274.out (fun _ hk => ⟨hk.1.1.1.2, hk.1.2⟩)⟩, ⟨by (with_reducible repeat (first | apply Kd.R_alloc | apply Kd.R_drewN | apply Kd.R_drew)); exact Kd.R_mono HO287.out (fun _ hk => ⟨hk.1.1.1.2, hk.1.1.2⟩)⟩, ⟨by repeat (first | (with_reducible first | exact HB.out | apply below_alloc | apply pw_below_drewN | apply below_drew1) | exact HB.out)⟩⟩
    ·replace c25 := Bool.eq_false_iff.mpr c25
     subst c25
     have H1 : (undercroftlaw10_ExtentCuts.j0 k l0 t267 t270 t284 false) = some r := by rw [if_neg (show ¬ (false = true) by decide)] at H; exact H
     clear H;have H := H1;clear H1
     have H' := Aside0.mk H
     clear H
     obtain ⟨Ao65, co65, eo65⟩ := Kd.R_slice HO274.out
     subst eo65
     obtain ⟨Ao66, co66, eo66⟩ := Kd.R_slice HO281.out
     subst eo66
     go_wp2_with (first | (go_at_call 15; (with_reducible refine (undercroftref10_Same.calls k _ _ t270 _ _ t277 false _ ?side1 ?side2 ?side3 ?side4 A24.out).mono ?_); (case side1 => repeat (first | exact (Kd.R_reads' HO274.out).2.2 | (with_reducible refine Kd.C_alloc ?_ _) | (with_reducible refine Kd.C_drewN ?_ _) | (with_reducible refine Kd.C_drew ?_))); (case side2 => exact (Kd.R_reads' HO274.out).2.1); (case side3 => repeat (first | exact (Kd.R_reads' HO281.out).2.2 | (with_reducible refine Kd.C_alloc ?_ _) | (with_reducible refine Kd.C_drewN ?_ _) | (with_reducible refine Kd.C_drew ?_))); (case side4 => exact (Kd.R_reads' HO281.out).2.1); rintro e w' ⟨rfl, ⟨nd, rfl⟩⟩))
     go_meet
     case rel => exact ⟨_, (false), (by first | rfl | (simp; done) | (simp [*]; done)), H', ⟨by first | omega | exact Nat.le_refl _⟩, ⟨by (with_reducible repeat (first | apply Kd.R_alloc | apply Kd.R_drewN | apply Kd.R_drew)); exact Kd.R_mono HO269.out (fun _ hk => ⟨hk.1.1.1.2, hk.1.2⟩)⟩, ⟨by (with_reducible repeat (first | apply Kd.R_alloc | apply Kd.R_drewN | apply Kd.R_drew)); exact Kd.R_mono HO274.out (fun _ hk => ⟨hk.1.1.1.2, hk.1.2⟩)⟩, ⟨by (with_reducible repeat (first | apply Kd.R_alloc | apply Kd.R_drewN | apply Kd.R_drew)); exact Kd.R_mono HO287.out (fun _ hk => ⟨hk.1.1.1.2, hk.1.1.2⟩)⟩, ⟨by repeat (first | (with_reducible first | exact HB.out | apply below_alloc | apply pw_below_drewN | apply below_drew1) | exact HB.out)⟩⟩
   ·rw [if_neg c23] at H
    have c23b0 : (t272 == t279) = false := beq_eq_false_iff_ne.mpr c23
    have c23b1 : (t272 != t279) = true := bne_iff_ne.mpr c23
    (first | rw [c23b0] | (simp only [i64_w, i32_w]; rw [c23b0]) | skip)
    have H' := Aside0.mk H
    clear H;go_wp2
    go_meet
    case rel => exact ⟨_, (false), (by first | rfl | (simp; done) | (simp [*]; done)), H', ⟨by first | omega | exact Nat.le_refl _⟩, ⟨by (with_reducible repeat (first | apply Kd.R_alloc | apply Kd.R_drewN | apply Kd.R_drew)); exact Kd.R_mono HO269.out (fun _ hk => ⟨hk.1.1.1.2, hk.1.2⟩)⟩, ⟨by (with_reducible repeat (first | apply Kd.R_alloc | apply Kd.R_drewN | apply Kd.R_drew)); exact Kd.R_mono HO274.out (fun _ hk => ⟨hk.1.1.1.2, hk.1.2⟩)⟩, ⟨by (with_reducible repeat (first | apply Kd.R_alloc | apply Kd.R_drewN | apply Kd.R_drew)); exact Kd.R_mono HO287.out (fun _ hk => ⟨hk.1.1.1.2, hk.1.1.2⟩)⟩, ⟨by repeat (first | (with_reducible first | exact HB.out | apply below_alloc | apply pw_below_drewN | apply below_drew1) | exact HB.out)⟩⟩
  case rest =>
   clear HC13
   try clear c1
   try clear c2
   try clear p2
   try clear c3
   try clear c5
   try clear c7
   try clear c11
   try clear c13
   try clear c16
   try clear c21
   try clear c22
   try clear c23
   try clear c23b0
   try clear c23b1
   try clear c24
   try clear c25
   try clear c27
   try clear c28
   try clear c28b0
   try clear c28b1
   try clear c30
   try clear c31
   try clear c31b0
   try clear c31b1
   try clear c32
   try clear c32b0
   try clear c32b1
   try clear c32b2
   obtain ⟨kq, x24_12, rfl, HA, HJ12, HO_7, HO_8, HO_14, HB⟩ := hcut
   cases kq with
   | zero => exact absurd HA.out (by intro h_; cases h_)
   | succ kj12 =>
    have H := HA.out
    clear HA
    simp only [undercroftlaw10_ExtentCuts.j0] at H
    have H' := Aside0.mk H
    clear H;go_wp2
    go_loopg [25] kj12 (fun kq v25 w' => ∃ (x8_2 : List (S24)) (x25_2 : Int), v25 = .int .i64 x25_2 ∧ Aside0 (undercroftlaw10_ExtentCuts.l0 kq l0 t267 x8_2 t284 x24_12 x25_2 = some r) ∧ Aside0 (kq ≤ kj12) ∧ Aside0 (Kd.R k24 24 w' w.heap.size (fun k_ => some k_ ≠ (v273 : Value).ownBlock ∧ some k_ ≠ (v286 : Value).ownBlock) (.slice Ao16 t267.length co16) t267) ∧ Aside0 (Kd.R k24 24 w' w.heap.size (fun k_ => some k_ ≠ ((.slice Ao16 t267.length co16) : Value).ownBlock ∧ some k_ ≠ (v286 : Value).ownBlock) v273 x8_2) ∧ Aside0 (Kd.R k24 24 w' w.heap.size (fun k_ => some k_ ≠ ((.slice Ao16 t267.length co16) : Value).ownBlock ∧ some k_ ≠ (v273 : Value).ownBlock) v286 t284) ∧ Aside0 (Below w.heap.size w w'))
    case atStart => exact ⟨(t270), (0), (by first | rfl | (simp; done) | (simp [*]; done)), H', ⟨Nat.le_refl _⟩, ⟨by (with_reducible repeat (first | apply Kd.R_alloc | apply Kd.R_drewN | apply Kd.R_drew)); exact HO_7.out⟩, ⟨by (with_reducible repeat (first | apply Kd.R_alloc | apply Kd.R_drewN | apply Kd.R_drew)); exact HO_8.out⟩, ⟨by (with_reducible repeat (first | apply Kd.R_alloc | apply Kd.R_drewN | apply Kd.R_drew)); exact HO_14.out⟩, ⟨by repeat (first | (with_reducible first | exact HB.out | apply below_alloc | apply pw_below_drewN | apply below_drew1) | exact HB.out)⟩⟩
    case round =>
     clear H'
     try clear c1
     try clear c2
     try clear p2
     try clear c3
     try clear c5
     try clear c7
     try clear c11
     try clear c13
     try clear c16
     try clear c21
     try clear c22
     try clear c23
     try clear c23b0
     try clear c23b1
     try clear c24
     try clear c25
     try clear c27
     try clear c28
     try clear c28b0
     try clear c28b1
     try clear c30
     try clear c31
     try clear c31b0
     try clear c31b1
     try clear c32
     try clear c32b0
     try clear c32b1
     try clear c32b2
     try clear p2
     obtain ⟨x8_2, x25_2, rfl, HA, HK2, HO_7, HO_8, HO_14, HB⟩ := hrel
     cases gk with
     | zero => exact absurd HA.out (by intro h_; cases h_)
     | succ k2 =>
      have H := HA.out
      clear HA
      simp only [undercroftlaw10_ExtentCuts.l0] at H
      by_cases c67 : x25_2 < (x8_2.length : Int)
      ·rw [if_pos c67] at H
       have c67b0 : decide (x25_2 < (x8_2.length : Int)) = true := decide_eq_true c67
       clear c67
       by_cases c68 : 0 ≤ x25_2
       ·rw [if_pos c68] at H
        have c68b0 : decide (0 ≤ x25_2) = true := decide_eq_true c68
        clear c68
        obtain ⟨y301, hy301⟩ : ∃ y_ : List (S24), y_ = (x8_2.set (x25_2 : Int).toNat (⟨0, 0, 0, false⟩ : S24)) := ⟨_, rfl⟩
        replace H : (undercroftlaw10_ExtentCuts.l0 k2 l0 t267 y301 t284 x24_12 (wrap64 (x25_2 + 1))) = some r := by first | (rw [hy301]; with_reducible exact H) | (have H2_ := (Option.bind_some _ _).symm.trans H; rw [hy301]; with_reducible exact H2_) | (have H2_ := (Option.bind_some _ _).symm.trans H; with_reducible exact H2_) | with_reducible exact H | (rw [hy301]; exact H) | exact H
        have Ny301 := Aside0.mk hy301
        clear hy301
        have H' := Aside0.mk H
        clear H
        obtain ⟨Ao70, co70, eo70⟩ := Kd.R_slice HO_8.out
        subst eo70
        have p69 : 0 ≤ (x25_2 : Int) := of_decide_eq_true (by first | (with_reducible assumption) | assumption)
        have q69 : (x25_2 : Int) < ((x8_2.length : Int) : Int) := of_decide_eq_true (by first | (with_reducible assumption) | assumption)
        obtain ⟨go69, co69, eo69, gb69, gl69, cl69, HG69⟩ := Kd.R_form HO_8.out (by omega)
        (first | cases eo69 | (injection eo69 with ea_ en_ ec_; (first | subst ea_ | (injection ea_ with ea_; subst ea_)); subst ec_; clear en_))
        have GB69 := Aside0.mk gb69
        have GG69 := Aside0.mk HG69
        clear gb69 gl69 HG69
        obtain ⟨ce69, hcl69, hM69, hcc69, hfr69⟩ := Kd.R_elem HO_8.out z24 (x25_2 : Int) p69 q69
        obtain rfl := k24_openM hM69
        have hx69_0 : wr.cell? ⟨go69, (x25_2 : Int).toNat * 4, none⟩ = some (.int .i64 ((rd_T24 x8_2 x25_2).f0)) := hcc69 0 _ rfl
        have hx69_1 : wr.cell? ⟨go69, (x25_2 : Int).toNat * 4 + 1, none⟩ = some (.int .i64 ((rd_T24 x8_2 x25_2).f1)) := hcc69 1 _ rfl
        have hx69_2 : wr.cell? ⟨go69, (x25_2 : Int).toNat * 4 + 2, none⟩ = some (.int .i64 ((rd_T24 x8_2 x25_2).f2)) := hcc69 2 _ rfl
        have hx69_3 : wr.cell? ⟨go69, (x25_2 : Int).toNat * 4 + 3, none⟩ = some (.bool ((rd_T24 x8_2 x25_2).f3)) := hcc69 3 _ rfl
        have hf69_0 : wr.frozen? ⟨go69, (x25_2 : Int).toNat * 4, none⟩ = false := hfr69 0
        have hf69_1 : wr.frozen? ⟨go69, (x25_2 : Int).toNat * 4 + 1, none⟩ = false := hfr69 1
        have hf69_2 : wr.frozen? ⟨go69, (x25_2 : Int).toNat * 4 + 2, none⟩ = false := hfr69 2
        have hf69_3 : wr.frozen? ⟨go69, (x25_2 : Int).toNat * 4 + 3, none⟩ = false := hfr69 3
        clear hcl69 hcc69 hfr69 hM69;replace p69 := eq_true p69;replace q69 := eq_true q69
        have HX71 := Aside0.mk (show Kd.R k24 24 wr w.heap.size (fun k_ => some k_ ≠ (.slice Ao16 t267.length co16 : Value).ownBlock ∧ some k_ ≠ (v286 : Value).ownBlock) (.slice (some ⟨go69, 0, none⟩) x8_2.length co70) x8_2 from (by (with_reducible repeat (first | apply Kd.R_alloc | apply Kd.R_drewN | apply Kd.R_drew)); exact HO_8.out))
        obtain ⟨ce71, hcl71, hM71, hcc71, hfr71⟩ := Kd.R_elem HX71.out z24 (x25_2 : Int) (of_decide_eq_true (by first | (with_reducible assumption) | assumption)) (by have h_ : (x25_2 : Int) < ((x8_2.length : Int) : Int) := of_decide_eq_true (by first | (with_reducible assumption) | assumption); first | exact h_ | (have e_ := (Kd.R_reads' HO_8.out).1; omega) | simpa using h_)
        obtain rfl := k24_openM hM71
        have HP71 := Kd.R_seg HX71.out (x25_2 : Int) (of_decide_eq_true (by first | (with_reducible assumption) | assumption)) (by have h_ : (x25_2 : Int) < ((x8_2.length : Int) : Int) := of_decide_eq_true (by first | (with_reducible assumption) | assumption); first | exact h_ | (have e_ := (Kd.R_reads' HO_8.out).1; omega) | simpa using h_) (seg := [.int .i64 0, .int .i64 0, .int .i64 0, .bool false]) (j := 0) hcl71 hcc71 (show 4 ≤ 4 from by decide) (x' := (⟨0, 0, 0, false⟩ : S24)) (k24_mkM _ _ _ (⟨0, 0, 0, false⟩ : S24) ) (fun _ hk => hk)
        have hx71_0 := hcc71 0 _ rfl
        (try simp only [show (k24).sz = 4 from rfl, Nat.mul_one, Nat.add_zero] at hx71_0)
        have hf71_0 := hfr71 0
        (try simp only [show (k24).sz = 4 from rfl, Nat.mul_one, Nat.add_zero] at hf71_0)
        have hx71_1 := hcc71 1 _ rfl
        (try simp only [show (k24).sz = 4 from rfl, Nat.mul_one, Nat.add_zero] at hx71_1)
        have hf71_1 := hfr71 1
        (try simp only [show (k24).sz = 4 from rfl, Nat.mul_one, Nat.add_zero] at hf71_1)
        have hx71_2 := hcc71 2 _ rfl
        (try simp only [show (k24).sz = 4 from rfl, Nat.mul_one, Nat.add_zero] at hx71_2)
        have hf71_2 := hfr71 2
        (try simp only [show (k24).sz = 4 from rfl, Nat.mul_one, Nat.add_zero] at hf71_2)
        have hx71_3 := hcc71 3 _ rfl
        (try simp only [show (k24).sz = 4 from rfl, Nat.mul_one, Nat.add_zero] at hx71_3)
        have hf71_3 := hfr71 3
        (try simp only [show (k24).sz = 4 from rfl, Nat.mul_one, Nat.add_zero] at hf71_3)
        clear hcl71 hcc71 hfr71 hM71
        go_wp2_with (first | ((with_reducible refine gate_store (t := 24) (p := 122) rfl ?_); refine store_event (t := 24) (p := 122) (v := ?vo_w72) (w1 := ((((wr.setCell ⟨go69, (x25_2 : Int).toNat * 4, none⟩ (.int .i64 0)).setCell ⟨go69, (x25_2 : Int).toNat * 4 + 1, none⟩ (.int .i64 0)).setCell ⟨go69, (x25_2 : Int).toNat * 4 + 2, none⟩ (.int .i64 0)).setCell ⟨go69, (x25_2 : Int).toNat * 4 + 3, none⟩ (.bool false))) ?hg ?ho ?hn ?hr ?_; (case ho => rfl); (case hg => rfl); (case hn => rfl); (case hr => first | (go_simp; done) | (go_simp; rfl)); intro w72 hw; have hg : wr.grownBy w72 (some go69) := (by rw [hw]; exact HP71.2); have hp_ : Kd.R k24 24 w72 w.heap.size (fun k_ => some k_ ≠ (.slice Ao16 t267.length co16 : Value).ownBlock ∧ some k_ ≠ (v286 : Value).ownBlock) (.slice (some ⟨go69, 0, none⟩) x8_2.length co70) y301 := (by rw [hw, Ny301.out]; exact HP71.1); clear HP71; have n0_ := Aside0.mk (Kd.R_after (v := (.slice (some ⟨go69, 0, none⟩) x8_2.length co70)) (v1 := (.slice (some ⟨go69, 0, none⟩) x8_2.length co70)) (ok := (fun k_ => some k_ ≠ (v286 : Value).ownBlock)) (by (with_reducible repeat (first | apply Kd.R_alloc | apply Kd.R_drewN | apply Kd.R_drew)); exact Kd.R_mono HO_7.out (fun _ hk => ⟨hk.2, hk.1⟩)) hg (.inl rfl)); have n1_ := Aside0.mk (hp_); have n2_ := Aside0.mk (Kd.R_after (v := (.slice (some ⟨go69, 0, none⟩) x8_2.length co70)) (v1 := (.slice (some ⟨go69, 0, none⟩) x8_2.length co70)) (ok := (fun k_ => some k_ ≠ (.slice Ao16 t267.length co16 : Value).ownBlock)) (by (with_reducible repeat (first | apply Kd.R_alloc | apply Kd.R_drewN | apply Kd.R_drew)); exact HO_14.out) hg (.inl rfl)); have n3_ := Aside0.mk ((by rw [hw]; exact below_set (below_set (below_set (below_set (HB.out) GB69.out) GB69.out) GB69.out) GB69.out : Below w.heap.size w w72)); clear HO_7; clear HO_8; clear HO_14; clear HB; have HO_7 := n0_; have HO_8 := n1_; have HO_14 := n2_; have HB := n3_; clear n0_ n1_ n2_ n3_; clear hg hw hp_))
        go_roundg k2
        case measure => have := HJ12.out; have := HK2.out; omega
        case rel => exact ⟨(y301), (wrap64 (x25_2 + 1)), (by first | rfl | (simp; done) | (simp [*]; done)), H', ⟨by have := HJ12.out; have := HK2.out; omega⟩, ⟨by (with_reducible repeat (first | apply Kd.R_alloc | apply Kd.R_drewN | apply Kd.R_drew)); exact Kd.R_mono HO_7.out (fun _ hk => ⟨hk.2, hk.1⟩)⟩, ⟨by (with_reducible repeat (first | apply Kd.R_alloc | apply Kd.R_drewN | apply Kd.R_drew)); exact HO_8.out⟩, ⟨by (with_reducible repeat (first | apply Kd.R_alloc | apply Kd.R_drewN | apply Kd.R_drew)); exact HO_14.out⟩, ⟨by repeat (first | (with_reducible first | exact HB.out | apply below_alloc | apply pw_below_drewN | apply below_drew1) | exact HB.out)⟩⟩
       ·rw [if_neg c68] at H
        exact absurd H (by simp)
      ·rw [if_neg c67] at H
       have c67b0 : decide (x25_2 < (x8_2.length : Int)) = false := decide_eq_false c67
       clear c67
       have H' := Aside0.mk H
       clear H
       obtain ⟨Ao73, co73, eo73⟩ := Kd.R_slice HO_8.out
       subst eo73
       go_wp2
       go_loopg [26] k2 (fun kq v26 w' => ∃ (x14_3 : List (S24)) (x26_3 : Int), v26 = .int .i64 x26_3 ∧ Aside0 (undercroftlaw10_ExtentCuts.l1 kq l0 t267 x14_3 x24_12 x26_3 = some r) ∧ Aside0 (kq ≤ k2) ∧ Aside0 (Kd.R k24 24 w' w.heap.size (fun k_ => some k_ ≠ (v286 : Value).ownBlock) (.slice Ao16 t267.length co16) t267) ∧ Aside0 (Kd.R k24 24 w' w.heap.size (fun k_ => some k_ ≠ ((.slice Ao16 t267.length co16) : Value).ownBlock) v286 x14_3) ∧ Aside0 (Below w.heap.size w w'))
       case atStart => exact ⟨(t284), (0), (by first | rfl | (simp; done) | (simp [*]; done)), H', ⟨Nat.le_refl _⟩, ⟨by (with_reducible repeat (first | apply Kd.R_alloc | apply Kd.R_drewN | apply Kd.R_drew)); exact Kd.R_mono HO_7.out (fun _ hk => hk.2)⟩, ⟨by (with_reducible repeat (first | apply Kd.R_alloc | apply Kd.R_drewN | apply Kd.R_drew)); exact Kd.R_mono HO_14.out (fun _ hk => hk.1)⟩, ⟨by repeat (first | (with_reducible first | exact HB.out | apply below_alloc | apply pw_below_drewN | apply below_drew1) | exact HB.out)⟩⟩
       case round =>
        clear H'
        try clear c1
        try clear c2
        try clear p2
        try clear c3
        try clear c5
        try clear c6
        try clear p6
        try clear q6
        try clear hx6
        try clear hf6
        try clear c7
        try clear hx7
        try clear hf7
        try clear c11
        try clear c13
        try clear c16
        try clear c21
        try clear c22
        try clear c23
        try clear c23b0
        try clear c23b1
        try clear c24
        try clear c25
        try clear c27
        try clear c28
        try clear c28b0
        try clear c28b1
        try clear c30
        try clear c31
        try clear c31b0
        try clear c31b1
        try clear c32
        try clear c32b0
        try clear c32b1
        try clear c32b2
        try clear p64
        try clear c67
        try clear c67b0
        try clear c68
        try clear c68b0
        try clear c69
        try clear p69
        try clear q69
        try clear hx69
        try clear hf69
        try clear c71
        try clear hx71
        try clear hf71
        try clear hx69_0
        try clear hx69_1
        try clear hx69_2
        try clear hx69_3
        try clear hx71_0
        try clear hx71_1
        try clear hx71_2
        try clear hx71_3
        try clear p2
        try clear p69
        try clear q69
        obtain ⟨x14_3, x26_3, rfl, HA, HK3, HO_7, HO_14, HB⟩ := hrel
        cases gk with
        | zero => exact absurd HA.out (by intro h_; cases h_)
        | succ k3 =>
         have H := HA.out
         clear HA
         simp only [undercroftlaw10_ExtentCuts.l1] at H
         by_cases c74 : x26_3 < (x14_3.length : Int)
         ·rw [if_pos c74] at H
          have c74b0 : decide (x26_3 < (x14_3.length : Int)) = true := decide_eq_true c74
          clear c74
          by_cases c75 : 0 ≤ x26_3
          ·rw [if_pos c75] at H
           have c75b0 : decide (0 ≤ x26_3) = true := decide_eq_true c75
           clear c75
           obtain ⟨y302, hy302⟩ : ∃ y_ : List (S24), y_ = (x14_3.set (x26_3 : Int).toNat (⟨0, 0, 0, false⟩ : S24)) := ⟨_, rfl⟩
           replace H : (undercroftlaw10_ExtentCuts.l1 k3 l0 t267 y302 x24_12 (wrap64 (x26_3 + 1))) = some r := by first | (rw [hy302]; with_reducible exact H) | (have H2_ := (Option.bind_some _ _).symm.trans H; rw [hy302]; with_reducible exact H2_) | (have H2_ := (Option.bind_some _ _).symm.trans H; with_reducible exact H2_) | with_reducible exact H | (rw [hy302]; exact H) | exact H
           have Ny302 := Aside0.mk hy302
           clear hy302
           have H' := Aside0.mk H
           clear H
           obtain ⟨Ao77, co77, eo77⟩ := Kd.R_slice HO_14.out
           subst eo77
           have p76 : 0 ≤ (x26_3 : Int) := of_decide_eq_true (by first | (with_reducible assumption) | assumption)
           have q76 : (x26_3 : Int) < ((x14_3.length : Int) : Int) := of_decide_eq_true (by first | (with_reducible assumption) | assumption)
           obtain ⟨go76, co76, eo76, gb76, gl76, cl76, HG76⟩ := Kd.R_form HO_14.out (by omega)
           (first | cases eo76 | (injection eo76 with ea_ en_ ec_; (first | subst ea_ | (injection ea_ with ea_; subst ea_)); subst ec_; clear en_))
           have GB76 := Aside0.mk gb76
           have GG76 := Aside0.mk HG76
           clear gb76 gl76 HG76
           obtain ⟨ce76, hcl76, hM76, hcc76, hfr76⟩ := Kd.R_elem HO_14.out z24 (x26_3 : Int) p76 q76
           obtain rfl := k24_openM hM76
           have hx76_0 : wr.cell? ⟨go76, (x26_3 : Int).toNat * 4, none⟩ = some (.int .i64 ((rd_T24 x14_3 x26_3).f0)) := hcc76 0 _ rfl
           have hx76_1 : wr.cell? ⟨go76, (x26_3 : Int).toNat * 4 + 1, none⟩ = some (.int .i64 ((rd_T24 x14_3 x26_3).f1)) := hcc76 1 _ rfl
           have hx76_2 : wr.cell? ⟨go76, (x26_3 : Int).toNat * 4 + 2, none⟩ = some (.int .i64 ((rd_T24 x14_3 x26_3).f2)) := hcc76 2 _ rfl
           have hx76_3 : wr.cell? ⟨go76, (x26_3 : Int).toNat * 4 + 3, none⟩ = some (.bool ((rd_T24 x14_3 x26_3).f3)) := hcc76 3 _ rfl
           have hf76_0 : wr.frozen? ⟨go76, (x26_3 : Int).toNat * 4, none⟩ = false := hfr76 0
           have hf76_1 : wr.frozen? ⟨go76, (x26_3 : Int).toNat * 4 + 1, none⟩ = false := hfr76 1
           have hf76_2 : wr.frozen? ⟨go76, (x26_3 : Int).toNat * 4 + 2, none⟩ = false := hfr76 2
           have hf76_3 : wr.frozen? ⟨go76, (x26_3 : Int).toNat * 4 + 3, none⟩ = false := hfr76 3
           clear hcl76 hcc76 hfr76 hM76;replace p76 := eq_true p76;replace q76 := eq_true q76
           have HX78 := Aside0.mk (show Kd.R k24 24 wr w.heap.size (fun k_ => some k_ ≠ (.slice Ao16 t267.length co16 : Value).ownBlock) (.slice (some ⟨go76, 0, none⟩) x14_3.length co77) x14_3 from (by (with_reducible repeat (first | apply Kd.R_alloc | apply Kd.R_drewN | apply Kd.R_drew)); exact HO_14.out))
           obtain ⟨ce78, hcl78, hM78, hcc78, hfr78⟩ := Kd.R_elem HX78.out z24 (x26_3 : Int) (of_decide_eq_true (by first | (with_reducible assumption) | assumption)) (by have h_ : (x26_3 : Int) < ((x14_3.length : Int) : Int) := of_decide_eq_true (by first | (with_reducible assumption) | assumption); first | exact h_ | (have e_ := (Kd.R_reads' HO_14.out).1; omega) | simpa using h_)
           obtain rfl := k24_openM hM78
           have HP78 := Kd.R_seg HX78.out (x26_3 : Int) (of_decide_eq_true (by first | (with_reducible assumption) | assumption)) (by have h_ : (x26_3 : Int) < ((x14_3.length : Int) : Int) := of_decide_eq_true (by first | (with_reducible assumption) | assumption); first | exact h_ | (have e_ := (Kd.R_reads' HO_14.out).1; omega) | simpa using h_) (seg := [.int .i64 0, .int .i64 0, .int .i64 0, .bool false]) (j := 0) hcl78 hcc78 (show 4 ≤ 4 from by decide) (x' := (⟨0, 0, 0, false⟩ : S24)) (k24_mkM _ _ _ (⟨0, 0, 0, false⟩ : S24) ) (fun _ hk => hk)
           have hx78_0 := hcc78 0 _ rfl
           (try simp only [show (k24).sz = 4 from rfl, Nat.mul_one, Nat.add_zero] at hx78_0)
           have hf78_0 := hfr78 0
           (try simp only [show (k24).sz = 4 from rfl, Nat.mul_one, Nat.add_zero] at hf78_0)
           have hx78_1 := hcc78 1 _ rfl
           (try simp only [show (k24).sz = 4 from rfl, Nat.mul_one, Nat.add_zero] at hx78_1)
           have hf78_1 := hfr78 1
           (try simp only [show (k24).sz = 4 from rfl, Nat.mul_one, Nat.add_zero] at hf78_1)
           have hx78_2 := hcc78 2 _ rfl
           (try simp only [show (k24).sz = 4 from rfl, Nat.mul_one, Nat.add_zero] at hx78_2)
           have hf78_2 := hfr78 2
           (try simp only [show (k24).sz = 4 from rfl, Nat.mul_one, Nat.add_zero] at hf78_2)
           have hx78_3 := hcc78 3 _ rfl
           (try simp only [show (k24).sz = 4 from rfl, Nat.mul_one, Nat.add_zero] at hx78_3)
           have hf78_3 := hfr78 3
           (try simp only [show (k24).sz = 4 from rfl, Nat.mul_one, Nat.add_zero] at hf78_3)
           clear hcl78 hcc78 hfr78 hM78
           go_wp2_with (first | ((with_reducible refine gate_store (t := 24) (p := 132) rfl ?_); refine store_event (t := 24) (p := 132) (v := ?vo_w79) (w1 := ((((wr.setCell ⟨go76, (x26_3 : Int).toNat * 4, none⟩ (.int .i64 0)).setCell ⟨go76, (x26_3 : Int).toNat * 4 + 1, none⟩ (.int .i64 0)).setCell ⟨go76, (x26_3 : Int).toNat * 4 + 2, none⟩ (.int .i64 0)).setCell ⟨go76, (x26_3 : Int).toNat * 4 + 3, none⟩ (.bool false))) ?hg ?ho ?hn ?hr ?_; (case ho => rfl); (case hg => rfl); (case hn => rfl); (case hr => first | (go_simp; done) | (go_simp; rfl)); intro w79 hw; have hg : wr.grownBy w79 (some go76) := (by rw [hw]; exact HP78.2); have hp_ : Kd.R k24 24 w79 w.heap.size (fun k_ => some k_ ≠ (.slice Ao16 t267.length co16 : Value).ownBlock) (.slice (some ⟨go76, 0, none⟩) x14_3.length co77) y302 := (by rw [hw, Ny302.out]; exact HP78.1); clear HP78; have n0_ := Aside0.mk (Kd.R_after (v := (.slice (some ⟨go76, 0, none⟩) x14_3.length co77)) (v1 := (.slice (some ⟨go76, 0, none⟩) x14_3.length co77)) (ok := (fun _ => True)) (by (with_reducible repeat (first | apply Kd.R_alloc | apply Kd.R_drewN | apply Kd.R_drew)); exact Kd.R_mono HO_7.out (fun _ hk => ⟨trivial, hk⟩)) hg (.inl rfl)); have n1_ := Aside0.mk (hp_); have n2_ := Aside0.mk ((by rw [hw]; exact below_set (below_set (below_set (below_set (HB.out) GB76.out) GB76.out) GB76.out) GB76.out : Below w.heap.size w w79)); clear HO_7; clear HO_14; clear HB; have HO_7 := n0_; have HO_14 := n1_; have HB := n2_; clear n0_ n1_ n2_; clear hg hw hp_))
           go_roundg k3
           case measure => have := HJ12.out; have := HK2.out; have := HK3.out; omega
           case rel => exact ⟨(y302), (wrap64 (x26_3 + 1)), (by first | rfl | (simp; done) | (simp [*]; done)), H', ⟨by have := HJ12.out; have := HK2.out; have := HK3.out; omega⟩, ⟨by (with_reducible repeat (first | apply Kd.R_alloc | apply Kd.R_drewN | apply Kd.R_drew)); exact Kd.R_mono HO_7.out (fun _ hk => hk.2)⟩, ⟨by (with_reducible repeat (first | apply Kd.R_alloc | apply Kd.R_drewN | apply Kd.R_drew)); exact HO_14.out⟩, ⟨by repeat (first | (with_reducible first | exact HB.out | apply below_alloc | apply pw_below_drewN | apply below_drew1) | exact HB.out)⟩⟩
          ·rw [if_neg c75] at H
           exact absurd H (by simp)
         ·rw [if_neg c74] at H
          have c74b0 : decide (x26_3 < (x14_3.length : Int)) = false := decide_eq_false c74
          clear c74
          by_cases c80 : x24_12 = true
          ·subst c80
           have H1 : ((undercroftref10_Same.f k3 t267 l0).bind fun t303 => (some t303)) = some r := by rw [if_pos rfl] at H; exact H
           clear H;have H := H1;clear H1
           replace H := Option.bind_eq_some_iff.mp H
           obtain ⟨t303, A810, H⟩ := H
           replace H : (some t303) = some r := H
           have A81 := Aside0.mk A810
           clear A810;obtain rfl := Option.some.inj H
           obtain ⟨Ao82, co82, eo82⟩ := Kd.R_slice HO_14.out
           subst eo82
           go_wp2_with (first | (go_at_call 15; (with_reducible refine (undercroftref10_Same.calls k3 _ _ t267 _ _ l0 t303 _ ?side1 ?side2 ?side3 ?side4 A81.out).mono ?_); (case side1 => repeat (first | exact (Kd.R_reads' HO_7.out).2.2 | (with_reducible refine Kd.C_alloc ?_ _) | (with_reducible refine Kd.C_drewN ?_ _) | (with_reducible refine Kd.C_drew ?_))); (case side2 => exact (Kd.R_reads' HO_7.out).2.1); (case side3 => repeat (first | exact (Kd.C_below HR0.out HB.out) | (with_reducible refine Kd.C_alloc ?_ _) | (with_reducible refine Kd.C_drewN ?_ _) | (with_reducible refine Kd.C_drew ?_))); (case side4 => exact HC0.out); rintro e w' ⟨rfl, ⟨nd, rfl⟩⟩))
           go_ret
           exact ⟨by first | rfl | (simp [errW_none, errW_some] <;> rfl) | (simp [*, errW_none, errW_some] <;> rfl), by repeat (first | (with_reducible first | exact HB.out | apply below_alloc | apply pw_below_drewN | apply below_drew1) | exact HB.out)⟩
          ·replace c80 := Bool.eq_false_iff.mpr c80
           subst c80
           have H1 : (some false) = some r := by rw [if_neg (show ¬ (false = true) by decide)] at H; exact H
           clear H;have H := H1;clear H1;obtain rfl := Option.some.inj H
           obtain ⟨Ao83, co83, eo83⟩ := Kd.R_slice HO_14.out
           subst eo83
           go_wp2;go_ret
           exact ⟨by first | rfl | (simp [errW_none, errW_some] <;> rfl) | (simp [*, errW_none, errW_some] <;> rfl), by repeat (first | (with_reducible first | exact HB.out | apply below_alloc | apply pw_below_drewN | apply below_drew1) | exact HB.out)⟩
 ·replace c5 := Bool.eq_false_iff.mpr c5
  subst c5
  have H1 : (some false) = some r := by rw [if_neg (show ¬ (false = true) by decide)] at H; exact H
  clear H;have H := H1;clear H1;obtain rfl := Option.some.inj H
  go_enter Try.func7, Try.ntmps7
  go_wp2_with (first | ((with_reducible refine gate_callee (f := 11) rfl ?_); refine goesL_ (some 27) rfl rfl Try.func11 (by kernel_rfl) rfl #[] rfl (by (try simp only [List.map_toArray, List.map_cons, List.map_nil]); first | done | rfl | (simp only [List.length_drop, List.length_take]; rfl)) ?_; (with_reducible refine (undercroftlaw10_alive.calls k  false _ A4.out).mono ?_); rintro e w84 ⟨rfl, hb⟩; refine ⟨_, rfl, ?_⟩; have n0_ := Aside0.mk (below_step (by repeat (first | (with_reducible first | exact HB.out | apply below_alloc | apply pw_below_drewN | apply below_drew1) | exact HB.out)) hb); clear HB; have HB := n0_; clear n0_; (try clear hb); (try clear hb2); (try clear hk); (try clear hi)))
  go_ret
  exact ⟨by first | rfl | (simp [errW_none, errW_some] <;> rfl) | (simp [*, errW_none, errW_some] <;> rfl), by repeat (first | (with_reducible first | exact HB.out | apply below_alloc | apply pw_below_drewN | apply below_drew1) | exact HB.out)⟩
end Go.Proofs.Ytopmjjnkolfciaa.Pr
end
section
namespace Go.Proofs.Ytopmjjnkolfciaa.Pr
open Go.RowKit Go.Proofs.YtopmjjnkolfciaaW.PrintWords Go.Proofs.YtopmjjnkolfciaaW.PrintLast Go.Proofs.YtopmjjnkolfciaaW.PrintMore
set_option linter.unusedVariables false
set_option linter.unusedSimpArgs false
theorem cuts_l1 (l : List EX) (hl : Fits l) : ∀ (n i : Nat) (a : List EX), i + n = a.length → a.length ≤ 60 → Ev (fun k => undercroftlaw10_ExtentCuts.l1 k l l a true (i : Int)) true
  | 0, i, a, hi, ha => by
    unfold Fits at hl
    have a1 : ¬ ((i : Int) < (a.length : Int)) := by omega
    refine Ev.succ ?_
    simp only [undercroftlaw10_ExtentCuts.l1, if_neg a1, if_true]
    exact Ev.bind (same_ev l (by omega)) (Ev.now _)
  | n + 1, i, a, hi, ha => by
    have a1 : (i : Int) < (a.length : Int) := by omega
    have a2 : (0 : Int) ≤ (i : Int) := by omega
    have hw : wrap64 ((i : Int) + 1) = ((i + 1 : Nat) : Int) := by unfold wrap64; omega
    refine Ev.succ ?_
    simp only [undercroftlaw10_ExtentCuts.l1, if_pos a1, if_pos a2, hw]
    exact cuts_l1 l hl n (i + 1) _ (by rw [List.length_set]; omega) (by rw [List.length_set]; exact ha)
theorem cuts_l0 (l c : List EX) (hl : Fits l) (hc : c.length ≤ 60) : ∀ (n i : Nat) (a : List EX), i + n = a.length → a.length ≤ 60 → Ev (fun k => undercroftlaw10_ExtentCuts.l0 k l l a c true (i : Int)) true
  | 0, i, a, hi, ha => by
    have a1 : ¬ ((i : Int) < (a.length : Int)) := by omega
    refine Ev.succ ?_
    simp only [undercroftlaw10_ExtentCuts.l0, if_neg a1]
    exact cuts_l1 l hl c.length 0 c (by omega) hc
  | n + 1, i, a, hi, ha => by
    have a1 : (i : Int) < (a.length : Int) := by omega
    have a2 : (0 : Int) ≤ (i : Int) := by omega
    have hw : wrap64 ((i : Int) + 1) = ((i + 1 : Nat) : Int) := by unfold wrap64; omega
    refine Ev.succ ?_
    simp only [undercroftlaw10_ExtentCuts.l0, if_pos a1, if_pos a2, hw]
    exact cuts_l0 l c hl hc n (i + 1) _ (by rw [List.length_set]; omega) (by rw [List.length_set]; exact ha)
theorem ExtentCuts (l : List EX) (a b : Int) (hl : Fits l) (hb0 : -9223372036854775808 ≤ b) (hb1 : b ≤ 9223372036854775807) : ∃ k, undercroftlaw10_ExtentCuts.f k l a b = some true := by
  refine Ev.rounds ?_
  unfold undercroftlaw10_ExtentCuts.f
  refine Ev.bind alive_ev ?_
  simp only [if_true, copied_f l hl, bs]
  refine Ev.bind (cut_ev l a b) ?_
  refine Ev.bind (rcut_ev l a b) ?_
  refine Ev.bind (mark_ev l a b) ?_
  refine Ev.bind (rmark_ev l a b hb0 hb1) ?_
  refine Ev.bind (find_ev l a) ?_
  refine Ev.bind (rfind_ev l a) ?_
  simp only [if_true]
  have hc := cutX_len l a b
  have hm := markX_len l a b
  refine Ev.bind (same_ev _ (by omega)) ?_
  simp only [if_true]
  refine Ev.bind (sames_ev _ (by omega)) ?_
  simp only [if_true]
  refine Ev.bind (same_ev _ (by omega)) ?_
  simp only [if_true, beq_self_eq_true]
  refine Ev.succ ?_
  simp only [undercroftlaw10_ExtentCuts.j0]
  exact cuts_l0 l _ hl hm _ 0 _ (Nat.zero_add _) hc.1
end Go.Proofs.Ytopmjjnkolfciaa.Pr
end
section
namespace Go.Proofs.Ytopmjjnkolfciaa.extentCuts
open Go.ChangeShapes Go.WideShapes Go.ChangeAt Go.RowKit Go.Proofs.YtopmjjnkolfciaaW.PrintWords Go.Proofs.Ytopmjjnkolfciaa.Pr Go.Proofs.Ytopmjjnkolfciaa.Op Go.Joins
open Go.ChangeMaps (open_string shut_string)
set_option linter.unusedVariables false
theorem own : ownKnob Try.prog.godebug = none := by kernel_rfl
theorem laidOut : laidOutB Try.prog = true := by kernel_rfl
set_option maxRecDepth 100000 in
theorem contract (H : Type) (enc : TypeId × Value → H) (W : World) (base : Nat) (args : Array Value) (ds gs : List (DataW H)) (before : List MemPlace)
    (hval : ∀ (j : Nat) t v, Try.f7.params[j]? = some t → args[j]? = some v → Value.okWide Try.prog W .any base t v)
    (hW : DataW.Whole enc Try.prog Try.f7.params.toList Rows.extentCutsSpec.vars false W args.toList ds gs before)
    (hsz : (DataW.weightsEach Try.prog (Try.f7.params.toList ++ Rows.extentCutsSpec.plain.varTypes Try.prog) (ds ++ gs)).all (· ≤ reachBytes) = true) :
    Calls Try.prog 7 args W fun e W' => ∃ v, e = .returned v ∧ Rows.extentCutsSpec.post enc Try.prog Try.f7 false true false false W args v W' := by
  have hW' := hW
  obtain ⟨p, q, hA0, hV, rfl, hfz, hnd⟩ := hW
  have hA : DataW.TrodAll enc Try.prog W 0 (fun _ => true) true Try.f7.params.toList args.toList ds p := hA0
  rw [Try.params7] at hA hval hsz
  obtain ⟨v0, vs0, d0, ds0, p0, q0, hargs, rfl, rfl, h0, r0⟩ := trodAll_cons hA
  obtain ⟨v1, vs1, d1, ds1, p1, q1, rfl, rfl, rfl, h1, r1⟩ := trodAll_cons r0
  obtain ⟨v2, vs2, d2, ds2, p2, q2, rfl, rfl, rfl, h2, r2⟩ := trodAll_cons r1
  obtain ⟨rfl, rfl, rfl⟩ := trodAll_nil r2
  obtain rfl : args = #[v0, v1, v2] := by cases args; simp_all
  obtain ⟨rfl, rfl⟩ := trodVars_none hV
  have lt0 : ∀ x ∈ p0, x.block < W.heap.size := by obtain ⟨m, hm⟩ := h0; exact DataW.trod_lt m _ _ _ hm
  have k0 := h0
  obtain ⟨A0, l0, c0, rfl, hc0, hr0, hs0⟩ := arg_slice Try.underlying22 Pr.o24 (hval 0 22 v0 rfl rfl) h0 hsz (j := 0) (t := 22) rfl rfl
  have lt1 : ∀ x ∈ p1, x.block < W.heap.size := by obtain ⟨m, hm⟩ := h1; exact DataW.trod_lt m _ _ _ hm
  have k1 := h1
  obtain ⟨a1, rfl, rfl, rfl, w1⟩ := open_int Try.underlying3 (hval 1 3 v1 rfl rfl) h1
  have b1 := bounds_i64 w1
  have lt2 : ∀ x ∈ p2, x.block < W.heap.size := by obtain ⟨m, hm⟩ := h2; exact DataW.trod_lt m _ _ _ hm
  have k2 := h2
  obtain ⟨a2, rfl, rfl, rfl, w2⟩ := open_int Try.underlying3 (hval 2 3 v2 rfl rfl) h2
  have b2 := bounds_i64 w2
  clear hA0
  obtain ⟨k, hk⟩ := Pr.ExtentCuts l0 a1 a2 hs0 b2.1 b2.2
  refine (undercroftlaw10_ExtentCuts.calls k A0 c0 l0 a1 a2 true W hr0 hc0 hk).mono fun e W' ⟨he, bel⟩ => ?_
  subst he
  exact ⟨_, rfl, _, _, _, [], _, [], hW', trodAll_mk1 (shut_bool Try.underlying4 _), (trodAll_cons_mk (Below.trod laidOut (by kernel_rfl) (of_decide_eq_true (by kernel_rfl)) k0 bel lt0) (trodAll_cons_mk (Below.trod laidOut (by kernel_rfl) (of_decide_eq_true (by kernel_rfl)) k1 bel lt1) (trodAll_cons_mk (Below.trod laidOut (by kernel_rfl) (of_decide_eq_true (by kernel_rfl)) k2 bel lt2) trodAll_mk0))), rfl, bel.frame _, fun h => by cases h⟩
set_option maxRecDepth 100000 in
theorem lifted (os : Os) (started : os.Started) (H : Type) (enc : TypeId × Value → H) :
    ReturnsInHanded {} Try.checked os 7 .any (Rows.extentCutsSpec.pre6 enc Try.prog Try.f7 Rows.extentCutsRow.domain false) (Rows.extentCutsSpec.post enc Try.prog Try.f7 false true false false) := by
  refine returnsInHanded_of_change_sized (C := Try.checked) own started (by kernel_rfl) Try.func7
    (ChangeSpec.witness6 (enc := enc) (C := Try.checked) false ⟨#[], #[.slice none 0 0, .int .i64 0, .int .i64 0], []⟩ 8 (by kernel_rfl) (by kernel_rfl) (by kernel_rfl) (by kernel_rfl)) ?_
  intro W base args ds gs before hval hW _ hsz _
  exact contract H enc W base args ds gs before hval hW hsz
theorem over : Rows.extentCutsRow.holds Try.pinned (OpenSpec.ofChange Rows.extentCutsSpec) :=
  OpenClaim.holds_of_wide 7 Try.f7 rfl rfl rfl rfl rfl rfl rfl ⟨rfl, rfl, rfl, rfl, rfl⟩ rfl rfl rfl rfl rfl (by kernel_rfl) Try.func7 (by kernel_rfl)
    (of_decide_eq_true (by kernel_rfl)) (by unfold Func.isWrapper; first | (rw [if_pos (by decide +kernel)]; kernel_rfl) | (rw [if_neg (by decide +kernel)]; exact ⟨rfl, rfl⟩))
    (fun os started H enc _ => lifted os started H enc)
theorem proved : Rows.ExtentCutsSaid := over
end Go.Proofs.Ytopmjjnkolfciaa.extentCuts
namespace Go.Proofs.Ytopmjjnkolfciaa
theorem extentCuts_holds : Rows.ExtentCutsSaid := extentCuts.proved
end Go.Proofs.Ytopmjjnkolfciaa
end
