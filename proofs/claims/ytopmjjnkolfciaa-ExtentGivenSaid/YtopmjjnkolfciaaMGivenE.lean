/- MGiven: this session's texts for the one law, put together (part 5 of 5): what its program computes, function by function, and that this answers true; the row stands at the end of the last part. Conditions: those that each theorem names; the last theorem has none. -/
import Derived.Test.YtopmjjnkolfciaaRows
import Derived.WalkKit
import Derived.ProofKit
import Derived.OpenShut
import Derived.ShutString
import Derived.ChangeOld
import Derived.Below
import Derived.SizedLaws
import Derived.Carry
import Derived.Lib.SmallJoins
import Derived.Test.YtopmjjnkolfciaaMGivenD
section
namespace Go.Proofs.Ytopmjjnkolfciaa.Pr
open Go.RowKit Go.Proofs.YtopmjjnkolfciaaW.PrintWords Go.Proofs.YtopmjjnkolfciaaW.PrintLast Go.Proofs.YtopmjjnkolfciaaW.PrintMore
attribute [local go_sem] max2_int min2_int max_two min_two max_three min_three max_four min_four
attribute [local go_sem] Go.Proofs.Ytopmjjnkolfciaa.Hl.str_geq Go.Proofs.Ytopmjjnkolfciaa.Hl.str_gtr Go.Proofs.Ytopmjjnkolfciaa.Hl.str_leq
set_option linter.unusedVariables false
set_option linter.unusedSimpArgs false
attribute [local go_sem high] eqA24 eqA32
def undercroftlaw10_alive.f (k : Nat)  : Option (Bool) := (extent_Put.f k (([(⟨2, 52, 3, false⟩ : S24)] : List (S24))) 0 50 2 false).bind fun bt142 => ((extent_Cut.f k bt142.1 1 3).bind fun bt146 => (if bt142.2 = 0 then (if (bt142.1.length : Int) = 1 then (if 0 < (bt142.1.length : Int) then (if (((rd_T24 bt142.1 0).f0) == 0 && (((rd_T24 bt142.1 0).f1) == 50 && (((rd_T24 bt142.1 0).f2) == 5 && (!((rd_T24 bt142.1 0).f3))))) = true then (if bt146.2.2 = 0 then (if (bt146.1.length : Int) = 2 then (if 1 < (bt146.1.length : Int) then (if (((rd_T24 bt146.1 1).f0) == 3 && (((rd_T24 bt146.1 1).f1) == 53 && (((rd_T24 bt146.1 1).f2) == 2 && (!((rd_T24 bt146.1 1).f3))))) = true then (if (bt146.2.1.length : Int) = 1 then (if 0 < (bt146.2.1.length : Int) then (some (((rd_T32 bt146.2.1 0).f0) == 51 && (((rd_T32 bt146.2.1 0).f1) == 2))) else (none)) else (some false)) else (some false)) else (none)) else (some false)) else (some false)) else (some false)) else (none)) else (some false)) else (some false)))
set_option maxHeartbeats 8000000 in
set_option maxRecDepth 100000 in
theorem undercroftlaw10_alive.calls (k : Nat)  (r : Bool) (w : World) (h : undercroftlaw10_alive.f k  = some r) :
  Calls Try.prog 11 #[] w fun e w' => e = .returned (.bool r) ∧ Below w.heap.size w w' := by
 have hu24 := Try.underlying24
 have hu32 := Try.underlying32
 have HB := Aside0.mk (Below.refl w.heap.size w)
 have H : ((extent_Put.f k (([(⟨2, 52, 3, false⟩ : S24)] : List (S24))) 0 50 2 false).bind fun bt142 => ((extent_Cut.f k bt142.1 1 3).bind fun bt146 => (if bt142.2 = 0 then (if (bt142.1.length : Int) = 1 then (if 0 < (bt142.1.length : Int) then (if (((rd_T24 bt142.1 0).f0) == 0 && (((rd_T24 bt142.1 0).f1) == 50 && (((rd_T24 bt142.1 0).f2) == 5 && (!((rd_T24 bt142.1 0).f3))))) = true then (if bt146.2.2 = 0 then (if (bt146.1.length : Int) = 2 then (if 1 < (bt146.1.length : Int) then (if (((rd_T24 bt146.1 1).f0) == 3 && (((rd_T24 bt146.1 1).f1) == 53 && (((rd_T24 bt146.1 1).f2) == 2 && (!((rd_T24 bt146.1 1).f3))))) = true then (if (bt146.2.1.length : Int) = 1 then (if 0 < (bt146.2.1.length : Int) then (some (((rd_T32 bt146.2.1 0).f0) == 51 && (((rd_T32 bt146.2.1 0).f1) == 2))) else (none)) else (some false)) else (some false)) else (none)) else (some false)) else (some false)) else (some false)) else (none)) else (some false)) else (some false)))) = some r := h
 clear h
 obtain ⟨y139, hy139⟩ : ∃ y_ : List (S24), y_ = (([(⟨2, 52, 3, false⟩ : S24)] : List (S24))) := ⟨_, rfl⟩
 replace H : ((extent_Put.f k y139 0 50 2 false).bind fun bt142 => ((extent_Cut.f k bt142.1 1 3).bind fun bt146 => (if bt142.2 = 0 then (if (bt142.1.length : Int) = 1 then (if 0 < (bt142.1.length : Int) then (if (((rd_T24 bt142.1 0).f0) == 0 && (((rd_T24 bt142.1 0).f1) == 50 && (((rd_T24 bt142.1 0).f2) == 5 && (!((rd_T24 bt142.1 0).f3))))) = true then (if bt146.2.2 = 0 then (if (bt146.1.length : Int) = 2 then (if 1 < (bt146.1.length : Int) then (if (((rd_T24 bt146.1 1).f0) == 3 && (((rd_T24 bt146.1 1).f1) == 53 && (((rd_T24 bt146.1 1).f2) == 2 && (!((rd_T24 bt146.1 1).f3))))) = true then (if (bt146.2.1.length : Int) = 1 then (if 0 < (bt146.2.1.length : Int) then (some (((rd_T32 bt146.2.1 0).f0) == 51 && (((rd_T32 bt146.2.1 0).f1) == 2))) else (none)) else (some false)) else (some false)) else (none)) else (some false)) else (some false)) else (some false)) else (none)) else (some false)) else (some false)))) = some r := by first | (rw [hy139]; with_reducible exact H) | (have H2_ := (Option.bind_some _ _).symm.trans H; rw [hy139]; with_reducible exact H2_) | (have H2_ := (Option.bind_some _ _).symm.trans H; with_reducible exact H2_) | with_reducible exact H | (rw [hy139]; exact H) | exact H
 have Ny139 := Aside0.mk hy139
 clear hy139
 replace H := Option.bind_eq_some_iff.mp H
 obtain ⟨⟨t142, t145⟩, A10, H⟩ := H
 replace H : ((extent_Cut.f k t142 1 3).bind fun bt146 => (if t145 = 0 then (if (t142.length : Int) = 1 then (if 0 < (t142.length : Int) then (if (((rd_T24 t142 0).f0) == 0 && (((rd_T24 t142 0).f1) == 50 && (((rd_T24 t142 0).f2) == 5 && (!((rd_T24 t142 0).f3))))) = true then (if bt146.2.2 = 0 then (if (bt146.1.length : Int) = 2 then (if 1 < (bt146.1.length : Int) then (if (((rd_T24 bt146.1 1).f0) == 3 && (((rd_T24 bt146.1 1).f1) == 53 && (((rd_T24 bt146.1 1).f2) == 2 && (!((rd_T24 bt146.1 1).f3))))) = true then (if (bt146.2.1.length : Int) = 1 then (if 0 < (bt146.2.1.length : Int) then (some (((rd_T32 bt146.2.1 0).f0) == 51 && (((rd_T32 bt146.2.1 0).f1) == 2))) else (none)) else (some false)) else (some false)) else (none)) else (some false)) else (some false)) else (some false)) else (none)) else (some false)) else (some false))) = some r := H
 have A1 := Aside0.mk A10
 clear A10
 replace H := Option.bind_eq_some_iff.mp H
 obtain ⟨⟨t146, t147, t148⟩, A20, H⟩ := H
 replace H : (if t145 = 0 then (if (t142.length : Int) = 1 then (if 0 < (t142.length : Int) then (if (((rd_T24 t142 0).f0) == 0 && (((rd_T24 t142 0).f1) == 50 && (((rd_T24 t142 0).f2) == 5 && (!((rd_T24 t142 0).f3))))) = true then (if t148 = 0 then (if (t146.length : Int) = 2 then (if 1 < (t146.length : Int) then (if (((rd_T24 t146 1).f0) == 3 && (((rd_T24 t146 1).f1) == 53 && (((rd_T24 t146 1).f2) == 2 && (!((rd_T24 t146 1).f3))))) = true then (if (t147.length : Int) = 1 then (if 0 < (t147.length : Int) then (some (((rd_T32 t147 0).f0) == 51 && (((rd_T32 t147 0).f1) == 2))) else (none)) else (some false)) else (some false)) else (none)) else (some false)) else (some false)) else (some false)) else (none)) else (some false)) else (some false)) = some r := H
 have A2 := Aside0.mk A20
 clear A20
 by_cases c3 : t145 = 0
 ·rw [if_pos c3] at H
  have c3b0 : (t145 == 0) = true := beq_iff_eq.mpr c3
  have c3b1 : (t145 != 0) = false := bne_eq_false_iff_eq.mpr c3
  clear c3
  by_cases c4 : (t142.length : Int) = 1
  ·rw [if_pos c4] at H
   have c4b0 : ((t142.length : Int) == 1) = true := beq_iff_eq.mpr c4
   have c4b1 : ((t142.length : Int) != 1) = false := bne_eq_false_iff_eq.mpr c4
   clear c4
   by_cases c5 : 0 < (t142.length : Int)
   ·rw [if_pos c5] at H
    have c5b0 : decide (0 < (t142.length : Int)) = true := decide_eq_true c5
    have c5b1 : decide (0 < t142.length) = true := decide_eq_true (by omega)
    clear c5
    by_cases c6 : (((rd_T24 t142 0).f0) == 0 && (((rd_T24 t142 0).f1) == 50 && (((rd_T24 t142 0).f2) == 5 && (!((rd_T24 t142 0).f3))))) = true
    ·rw [if_pos c6] at H
     have c6b0 : (((rd_T24 t142 0).f0) == 0 && (((rd_T24 t142 0).f1) == 50 && (((rd_T24 t142 0).f2) == 5 && (!((rd_T24 t142 0).f3))))) = true := c6
     (try (have c6b1 : decide (((rd_T24 t142 0).f0) = 0 && (((rd_T24 t142 0).f1) == 50 && (((rd_T24 t142 0).f2) == 5 && (!((rd_T24 t142 0).f3))))) = true := by simpa using c6))
     (try (have c6b2 : (((rd_T24 t142 0).f0) == 0 && (((rd_T24 t142 0).f1) == 50 && (((rd_T24 t142 0).f2) == 5 && (!((rd_T24 t142 0).f3))))) = true := by simpa using c6))
     clear c6
     by_cases c7 : t148 = 0
     ·rw [if_pos c7] at H
      have c7b0 : (t148 == 0) = true := beq_iff_eq.mpr c7
      have c7b1 : (t148 != 0) = false := bne_eq_false_iff_eq.mpr c7
      clear c7
      by_cases c8 : (t146.length : Int) = 2
      ·rw [if_pos c8] at H
       have c8b0 : ((t146.length : Int) == 2) = true := beq_iff_eq.mpr c8
       have c8b1 : ((t146.length : Int) != 2) = false := bne_eq_false_iff_eq.mpr c8
       clear c8
       by_cases c9 : 1 < (t146.length : Int)
       ·rw [if_pos c9] at H
        have c9b0 : decide (1 < (t146.length : Int)) = true := decide_eq_true c9
        have c9b1 : decide (1 < t146.length) = true := decide_eq_true (by omega)
        clear c9
        by_cases c10 : (((rd_T24 t146 1).f0) == 3 && (((rd_T24 t146 1).f1) == 53 && (((rd_T24 t146 1).f2) == 2 && (!((rd_T24 t146 1).f3))))) = true
        ·rw [if_pos c10] at H
         have c10b0 : (((rd_T24 t146 1).f0) == 3 && (((rd_T24 t146 1).f1) == 53 && (((rd_T24 t146 1).f2) == 2 && (!((rd_T24 t146 1).f3))))) = true := c10
         (try (have c10b1 : decide (((rd_T24 t146 1).f0) = 3 && (((rd_T24 t146 1).f1) == 53 && (((rd_T24 t146 1).f2) == 2 && (!((rd_T24 t146 1).f3))))) = true := by simpa using c10))
         (try (have c10b2 : (((rd_T24 t146 1).f0) == 3 && (((rd_T24 t146 1).f1) == 53 && (((rd_T24 t146 1).f2) == 2 && (!((rd_T24 t146 1).f3))))) = true := by simpa using c10))
         clear c10
         by_cases c11 : (t147.length : Int) = 1
         ·rw [if_pos c11] at H
          have c11b0 : ((t147.length : Int) == 1) = true := beq_iff_eq.mpr c11
          have c11b1 : ((t147.length : Int) != 1) = false := bne_eq_false_iff_eq.mpr c11
          clear c11
          by_cases c12 : 0 < (t147.length : Int)
          ·rw [if_pos c12] at H
           have c12b0 : decide (0 < (t147.length : Int)) = true := decide_eq_true c12
           have c12b1 : decide (0 < t147.length) = true := decide_eq_true (by omega)
           clear c12;obtain rfl := Option.some.inj H
           go_enter Try.func11, Try.ntmps11
           go_wp2_with (first | ((with_reducible refine gate_dst (N := 8) rfl ?_); (try (refine gate_guard (by rfl) ?_; dsimp only)); refine Kd.R_lit k24 _ 24 ?hg (N := 8) ?hd (xs := ([(⟨2, 52, 3, false⟩ : S24)] : List (S24))) (inner := [.int .i64 2, .int .i64 52, .int .i64 3, .bool false]) (ok := fun _ => True) (okp := fun _ => True) ?hr ?hp (fun _ hk => hk) trivial (Below.refl _ _) (Nat.le_refl _) (by simp) ?_; (case hd => rfl); (case hg => rfl); (case hr => first | (go_simp; done) | (go_simp; rfl)); (case hp => exact (Reps.c4 (show Kd.M k24 _ _ _ (⟨2, 52, 3, false⟩ : S24) [.int .i64 2, .int .i64 52, .int .i64 3, .bool false] from (k24_mkM _ _ _ (⟨2, 52, 3, false⟩ : S24) )) (Reps.none _ _))); intro v140 w13 ho14 hb hg_ hnew_; clear hg_ hnew_; (first | rw [← Ny139.out] at ho14 | (simp only [Int.reduceToNat] at ho14; rw [← Ny139.out] at ho14)); have n0_ := Aside0.mk (Kd.R_lower ho14 (below_size (by repeat (first | (with_reducible first | exact HB.out | apply below_alloc | apply pw_below_drewN | apply below_drew1) | exact HB.out)))); have n1_ := Aside0.mk (below_step (by repeat (first | (with_reducible first | exact HB.out | apply below_alloc | apply pw_below_drewN | apply below_drew1) | exact HB.out)) hb); clear HB; have HO141 := n0_; have HB := n1_; clear n0_ n1_; clear hb ho14; obtain ⟨Ao15, co15, eo15⟩ := Kd.R_slice HO141.out; subst eo15) | ((with_reducible refine gate_callee (f := 14) rfl ?_); refine goesL_ (some 10) rfl rfl Try.func14 (by kernel_rfl) rfl #[.slice Ao15 y139.length co15, .agg #[.int .i64 0, .int .i64 50, .int .i64 2, .bool false]] rfl (by (try simp only [List.map_toArray, List.map_cons, List.map_nil]); first | done | rfl | (simp only [List.length_drop, List.length_take]; rfl)) ?_; (with_reducible refine (extent_Put.calls k _ _ y139 0 50 2 false t142 t145 _ ?side1 ?side2 A1.out).mono ?_); (case side1 => repeat (first | exact (Kd.R_reads' HO141.out).2.2 | (with_reducible refine Kd.C_alloc ?_ _) | (with_reducible refine Kd.C_drewN ?_ _) | (with_reducible refine Kd.C_drew ?_))); (case side2 => exact (Kd.R_reads' HO141.out).2.1); rintro e w16 ⟨v143, rfl, ho0, hb⟩; refine ⟨_, rfl, ?_⟩; have n0_ := Aside0.mk (Kd.R_elder' (by (with_reducible repeat (first | apply Kd.R_alloc | apply Kd.R_drewN | apply Kd.R_drew)); exact HO141.out) (Kd.R_base ho0) hb); have n1_ := Aside0.mk (Kd.R_lower (Kd.R_new' ho0 (Kd.R_lt (by (with_reducible repeat (first | apply Kd.R_alloc | apply Kd.R_drewN | apply Kd.R_drew)); exact HO141.out))) (below_size (by repeat (first | (with_reducible first | exact HB.out | apply below_alloc | apply pw_below_drewN | apply below_drew1) | exact HB.out)))); have n2_ := Aside0.mk (below_step (by repeat (first | (with_reducible first | exact HB.out | apply below_alloc | apply pw_below_drewN | apply below_drew1) | exact HB.out)) hb); clear HO141; clear HB; have HO141 := n0_; have HO144 := n1_; have HB := n2_; clear n0_ n1_ n2_; (try clear hb); (try clear hb2); (try clear hk); (try clear hi); (try clear ho0); obtain ⟨Ao17, co17, eo17⟩ := Kd.R_slice HO144.out; subst eo17) | ((with_reducible refine gate_callee (f := 13) rfl ?_); refine goesL_ (some 15) rfl rfl Try.func13 (by kernel_rfl) rfl #[.slice Ao17 t142.length co17, .int .i64 1, .int .i64 3] rfl (by (try simp only [List.map_toArray, List.map_cons, List.map_nil]); first | done | rfl | (simp only [List.length_drop, List.length_take]; rfl)) ?_; (with_reducible refine (extent_Cut.calls k _ _ t142 1 3 t146 t147 t148 _ ?side1 ?side2 A2.out).mono ?_); (case side1 => repeat (first | exact (Kd.R_reads' HO144.out).2.2 | (with_reducible refine Kd.C_alloc ?_ _) | (with_reducible refine Kd.C_drewN ?_ _) | (with_reducible refine Kd.C_drew ?_))); (case side2 => exact (Kd.R_reads' HO144.out).2.1); rintro e w18 ⟨v149, v151, rfl, ho0, ho1, hb⟩; refine ⟨_, rfl, ?_⟩; have n0_ := Aside0.mk (Kd.R_elder' (by (with_reducible repeat (first | apply Kd.R_alloc | apply Kd.R_drewN | apply Kd.R_drew)); exact HO141.out) (Kd.R_base ho0) hb); have n1_ := Aside0.mk (Kd.R_elder' (by (with_reducible repeat (first | apply Kd.R_alloc | apply Kd.R_drewN | apply Kd.R_drew)); exact HO144.out) (Kd.R_base ho0) hb); have n2_ := Aside0.mk (Kd.R_lower (Kd.R_new' (Kd.R_new' ho0 (Kd.R_lt (by (with_reducible repeat (first | apply Kd.R_alloc | apply Kd.R_drewN | apply Kd.R_drew)); exact HO141.out))) (Kd.R_lt (by (with_reducible repeat (first | apply Kd.R_alloc | apply Kd.R_drewN | apply Kd.R_drew)); exact HO144.out))) (below_size (by repeat (first | (with_reducible first | exact HB.out | apply below_alloc | apply pw_below_drewN | apply below_drew1) | exact HB.out)))); have n3_ := Aside0.mk (Kd.R_lower ho1 (below_size (by repeat (first | (with_reducible first | exact HB.out | apply below_alloc | apply pw_below_drewN | apply below_drew1) | exact HB.out)))); have n4_ := Aside0.mk (below_step (by repeat (first | (with_reducible first | exact HB.out | apply below_alloc | apply pw_below_drewN | apply below_drew1) | exact HB.out)) hb); clear HO141; clear HO144; clear HB; have HO141 := n0_; have HO144 := n1_; have HO150 := n2_; have HO152 := n3_; have HB := n4_; clear n0_ n1_ n2_ n3_ n4_; (try clear hb); (try clear hb2); (try clear hk); (try clear hi); (try clear ho0); (try clear ho1); have p153 : 0 ≤ (0 : Int) := (by omega); have q153 : 0 < (t142.length : Int) := of_decide_eq_true (by first | (with_reducible assumption) | assumption); obtain ⟨ad153, e153, hx153_0, hx153_1, hx153_2, hx153_3⟩ := at_T24 (Kd.R_reads' HO144.out).2.2 0 p153 q153; cases e153; have qi153 : (0 < t142.length) = True := eq_true (by omega); (try rw [show ((0 : Int)).toNat = 0 from rfl] at hx153_0); (try rw [show 0 * 4 = 0 from rfl] at hx153_0); (try rw [Addr.add_zero'] at hx153_0); (try rw [show ((0 : Int)).toNat = 0 from rfl] at hx153_1); (try rw [show 0 * 4 = 0 from rfl] at hx153_1); (try rw [Addr.add_zero'] at hx153_1); (try rw [show ((0 : Int)).toNat = 0 from rfl] at hx153_2); (try rw [show 0 * 4 = 0 from rfl] at hx153_2); (try rw [Addr.add_zero'] at hx153_2); (try rw [show ((0 : Int)).toNat = 0 from rfl] at hx153_3); (try rw [show 0 * 4 = 0 from rfl] at hx153_3); (try rw [Addr.add_zero'] at hx153_3); replace p153 := eq_true p153; replace q153 := eq_true q153; obtain ⟨Ao19, co19, eo19⟩ := Kd.R_slice HO150.out; subst eo19; have p154 : 0 ≤ (1 : Int) := (by omega); have q154 : 1 < (t146.length : Int) := of_decide_eq_true (by first | (with_reducible assumption) | assumption); obtain ⟨ad154, e154, hx154_0, hx154_1, hx154_2, hx154_3⟩ := at_T24 (Kd.R_reads' HO150.out).2.2 1 p154 q154; cases e154; (try simp only [show (1 : Int).toNat = 1 from rfl, Nat.reduceMul, Nat.reduceEqDiff, Go.Addr.add, ↓reduceIte] at hx154_0); (try simp only [show (1 : Int).toNat = 1 from rfl, Nat.reduceMul, Nat.reduceEqDiff, Go.Addr.add, ↓reduceIte] at hx154_1); (try simp only [show (1 : Int).toNat = 1 from rfl, Nat.reduceMul, Nat.reduceEqDiff, Go.Addr.add, ↓reduceIte] at hx154_2); (try simp only [show (1 : Int).toNat = 1 from rfl, Nat.reduceMul, Nat.reduceEqDiff, Go.Addr.add, ↓reduceIte] at hx154_3); have qi154 : (1 < t146.length) = True := eq_true (by omega); (try rw [show ((1 : Int)).toNat = 1 from rfl] at hx154_0); (try rw [show 1 * 4 = 4 from rfl] at hx154_0); (try rw [show ((1 : Int)).toNat = 1 from rfl] at hx154_1); (try rw [show 1 * 4 = 4 from rfl] at hx154_1); (try rw [show ((1 : Int)).toNat = 1 from rfl] at hx154_2); (try rw [show 1 * 4 = 4 from rfl] at hx154_2); (try rw [show ((1 : Int)).toNat = 1 from rfl] at hx154_3); (try rw [show 1 * 4 = 4 from rfl] at hx154_3); replace p154 := eq_true p154; replace q154 := eq_true q154; obtain ⟨Ao20, co20, eo20⟩ := Kd.R_slice HO152.out; subst eo20; have p155 : 0 ≤ (0 : Int) := (by omega); have q155 : 0 < (t147.length : Int) := of_decide_eq_true (by first | (with_reducible assumption) | assumption); obtain ⟨ad155, e155, hx155_0, hx155_1⟩ := at_T32 (Kd.R_reads' HO152.out).2.2 0 p155 q155; cases e155; have qi155 : (0 < t147.length) = True := eq_true (by omega); (try rw [show ((0 : Int)).toNat = 0 from rfl] at hx155_0); (try rw [show 0 * 2 = 0 from rfl] at hx155_0); (try rw [Addr.add_zero'] at hx155_0); (try rw [show ((0 : Int)).toNat = 0 from rfl] at hx155_1); (try rw [show 0 * 2 = 0 from rfl] at hx155_1); (try rw [Addr.add_zero'] at hx155_1); replace p155 := eq_true p155; replace q155 := eq_true q155))
           go_ret
           exact ⟨by first | rfl | (simp [errW_none, errW_some] <;> rfl) | (simp [*, errW_none, errW_some] <;> rfl), by repeat (first | (with_reducible first | exact HB.out | apply below_alloc | apply pw_below_drewN | apply below_drew1) | exact HB.out)⟩
          ·rw [if_neg c12] at H
           exact absurd H (by simp)
         ·rw [if_neg c11] at H
          have c11b0 : ((t147.length : Int) == 1) = false := beq_eq_false_iff_ne.mpr c11
          have c11b1 : ((t147.length : Int) != 1) = true := bne_iff_ne.mpr c11
          obtain rfl := Option.some.inj H
          go_enter Try.func11, Try.ntmps11
          go_wp2_with (first | ((with_reducible refine gate_dst (N := 8) rfl ?_); (try (refine gate_guard (by rfl) ?_; dsimp only)); refine Kd.R_lit k24 _ 24 ?hg (N := 8) ?hd (xs := ([(⟨2, 52, 3, false⟩ : S24)] : List (S24))) (inner := [.int .i64 2, .int .i64 52, .int .i64 3, .bool false]) (ok := fun _ => True) (okp := fun _ => True) ?hr ?hp (fun _ hk => hk) trivial (Below.refl _ _) (Nat.le_refl _) (by simp) ?_; (case hd => rfl); (case hg => rfl); (case hr => first | (go_simp; done) | (go_simp; rfl)); (case hp => exact (Reps.c4 (show Kd.M k24 _ _ _ (⟨2, 52, 3, false⟩ : S24) [.int .i64 2, .int .i64 52, .int .i64 3, .bool false] from (k24_mkM _ _ _ (⟨2, 52, 3, false⟩ : S24) )) (Reps.none _ _))); intro v140 w21 ho22 hb hg_ hnew_; clear hg_ hnew_; (first | rw [← Ny139.out] at ho22 | (simp only [Int.reduceToNat] at ho22; rw [← Ny139.out] at ho22)); have n0_ := Aside0.mk (Kd.R_lower ho22 (below_size (by repeat (first | (with_reducible first | exact HB.out | apply below_alloc | apply pw_below_drewN | apply below_drew1) | exact HB.out)))); have n1_ := Aside0.mk (below_step (by repeat (first | (with_reducible first | exact HB.out | apply below_alloc | apply pw_below_drewN | apply below_drew1) | exact HB.out)) hb); clear HB; have HO141 := n0_; have HB := n1_; clear n0_ n1_; clear hb ho22; obtain ⟨Ao23, co23, eo23⟩ := Kd.R_slice HO141.out; subst eo23) | ((with_reducible refine gate_callee (f := 14) rfl ?_); refine goesL_ (some 10) rfl rfl Try.func14 (by kernel_rfl) rfl #[.slice Ao23 y139.length co23, .agg #[.int .i64 0, .int .i64 50, .int .i64 2, .bool false]] rfl (by (try simp only [List.map_toArray, List.map_cons, List.map_nil]); first | done | rfl | (simp only [List.length_drop, List.length_take]; rfl)) ?_; (with_reducible refine (extent_Put.calls k _ _ y139 0 50 2 false t142 t145 _ ?side1 ?side2 A1.out).mono ?_); (case side1 => repeat (first | exact (Kd.R_reads' HO141.out).2.2 | (with_reducible refine Kd.C_alloc ?_ _) | (with_reducible refine Kd.C_drewN ?_ _) | (with_reducible refine Kd.C_drew ?_))); (case side2 => exact (Kd.R_reads' HO141.out).2.1); rintro e w24 ⟨v143, rfl, ho0, hb⟩; refine ⟨_, rfl, ?_⟩; have n0_ := Aside0.mk (Kd.R_elder' (by (with_reducible repeat (first | apply Kd.R_alloc | apply Kd.R_drewN | apply Kd.R_drew)); exact HO141.out) (Kd.R_base ho0) hb); have n1_ := Aside0.mk (Kd.R_lower (Kd.R_new' ho0 (Kd.R_lt (by (with_reducible repeat (first | apply Kd.R_alloc | apply Kd.R_drewN | apply Kd.R_drew)); exact HO141.out))) (below_size (by repeat (first | (with_reducible first | exact HB.out | apply below_alloc | apply pw_below_drewN | apply below_drew1) | exact HB.out)))); have n2_ := Aside0.mk (below_step (by repeat (first | (with_reducible first | exact HB.out | apply below_alloc | apply pw_below_drewN | apply below_drew1) | exact HB.out)) hb); clear HO141; clear HB; have HO141 := n0_; have HO144 := n1_; have HB := n2_; clear n0_ n1_ n2_; (try clear hb); (try clear hb2); (try clear hk); (try clear hi); (try clear ho0); obtain ⟨Ao25, co25, eo25⟩ := Kd.R_slice HO144.out; subst eo25) | ((with_reducible refine gate_callee (f := 13) rfl ?_); refine goesL_ (some 15) rfl rfl Try.func13 (by kernel_rfl) rfl #[.slice Ao25 t142.length co25, .int .i64 1, .int .i64 3] rfl (by (try simp only [List.map_toArray, List.map_cons, List.map_nil]); first | done | rfl | (simp only [List.length_drop, List.length_take]; rfl)) ?_; (with_reducible refine (extent_Cut.calls k _ _ t142 1 3 t146 t147 t148 _ ?side1 ?side2 A2.out).mono ?_); (case side1 => repeat (first | exact (Kd.R_reads' HO144.out).2.2 | (with_reducible refine Kd.C_alloc ?_ _) | (with_reducible refine Kd.C_drewN ?_ _) | (with_reducible refine Kd.C_drew ?_))); (case side2 => exact (Kd.R_reads' HO144.out).2.1); rintro e w26 ⟨v149, v151, rfl, ho0, ho1, hb⟩; refine ⟨_, rfl, ?_⟩; have n0_ := Aside0.mk (Kd.R_elder' (by (with_reducible repeat (first | apply Kd.R_alloc | apply Kd.R_drewN | apply Kd.R_drew)); exact HO141.out) (Kd.R_base ho0) hb); have n1_ := Aside0.mk (Kd.R_elder' (by (with_reducible repeat (first | apply Kd.R_alloc | apply Kd.R_drewN | apply Kd.R_drew)); exact HO144.out) (Kd.R_base ho0) hb); have n2_ := Aside0.mk (Kd.R_lower (Kd.R_new' (Kd.R_new' ho0 (Kd.R_lt (by (with_reducible repeat (first | apply Kd.R_alloc | apply Kd.R_drewN | apply Kd.R_drew)); exact HO141.out))) (Kd.R_lt (by (with_reducible repeat (first | apply Kd.R_alloc | apply Kd.R_drewN | apply Kd.R_drew)); exact HO144.out))) (below_size (by repeat (first | (with_reducible first | exact HB.out | apply below_alloc | apply pw_below_drewN | apply below_drew1) | exact HB.out)))); have n3_ := Aside0.mk (Kd.R_lower ho1 (below_size (by repeat (first | (with_reducible first | exact HB.out | apply below_alloc | apply pw_below_drewN | apply below_drew1) | exact HB.out)))); have n4_ := Aside0.mk (below_step (by repeat (first | (with_reducible first | exact HB.out | apply below_alloc | apply pw_below_drewN | apply below_drew1) | exact HB.out)) hb); clear HO141; clear HO144; clear HB; have HO141 := n0_; have HO144 := n1_; have HO150 := n2_; have HO152 := n3_; have HB := n4_; clear n0_ n1_ n2_ n3_ n4_; (try clear hb); (try clear hb2); (try clear hk); (try clear hi); (try clear ho0); (try clear ho1); have p153 : 0 ≤ (0 : Int) := (by omega); have q153 : 0 < (t142.length : Int) := of_decide_eq_true (by first | (with_reducible assumption) | assumption); obtain ⟨ad153, e153, hx153_0, hx153_1, hx153_2, hx153_3⟩ := at_T24 (Kd.R_reads' HO144.out).2.2 0 p153 q153; cases e153; have qi153 : (0 < t142.length) = True := eq_true (by omega); (try rw [show ((0 : Int)).toNat = 0 from rfl] at hx153_0); (try rw [show 0 * 4 = 0 from rfl] at hx153_0); (try rw [Addr.add_zero'] at hx153_0); (try rw [show ((0 : Int)).toNat = 0 from rfl] at hx153_1); (try rw [show 0 * 4 = 0 from rfl] at hx153_1); (try rw [Addr.add_zero'] at hx153_1); (try rw [show ((0 : Int)).toNat = 0 from rfl] at hx153_2); (try rw [show 0 * 4 = 0 from rfl] at hx153_2); (try rw [Addr.add_zero'] at hx153_2); (try rw [show ((0 : Int)).toNat = 0 from rfl] at hx153_3); (try rw [show 0 * 4 = 0 from rfl] at hx153_3); (try rw [Addr.add_zero'] at hx153_3); replace p153 := eq_true p153; replace q153 := eq_true q153; obtain ⟨Ao27, co27, eo27⟩ := Kd.R_slice HO150.out; subst eo27; have p154 : 0 ≤ (1 : Int) := (by omega); have q154 : 1 < (t146.length : Int) := of_decide_eq_true (by first | (with_reducible assumption) | assumption); obtain ⟨ad154, e154, hx154_0, hx154_1, hx154_2, hx154_3⟩ := at_T24 (Kd.R_reads' HO150.out).2.2 1 p154 q154; cases e154; (try simp only [show (1 : Int).toNat = 1 from rfl, Nat.reduceMul, Nat.reduceEqDiff, Go.Addr.add, ↓reduceIte] at hx154_0); (try simp only [show (1 : Int).toNat = 1 from rfl, Nat.reduceMul, Nat.reduceEqDiff, Go.Addr.add, ↓reduceIte] at hx154_1); (try simp only [show (1 : Int).toNat = 1 from rfl, Nat.reduceMul, Nat.reduceEqDiff, Go.Addr.add, ↓reduceIte] at hx154_2); (try simp only [show (1 : Int).toNat = 1 from rfl, Nat.reduceMul, Nat.reduceEqDiff, Go.Addr.add, ↓reduceIte] at hx154_3); have qi154 : (1 < t146.length) = True := eq_true (by omega); (try rw [show ((1 : Int)).toNat = 1 from rfl] at hx154_0); (try rw [show 1 * 4 = 4 from rfl] at hx154_0); (try rw [show ((1 : Int)).toNat = 1 from rfl] at hx154_1); (try rw [show 1 * 4 = 4 from rfl] at hx154_1); (try rw [show ((1 : Int)).toNat = 1 from rfl] at hx154_2); (try rw [show 1 * 4 = 4 from rfl] at hx154_2); (try rw [show ((1 : Int)).toNat = 1 from rfl] at hx154_3); (try rw [show 1 * 4 = 4 from rfl] at hx154_3); replace p154 := eq_true p154; replace q154 := eq_true q154; obtain ⟨Ao28, co28, eo28⟩ := Kd.R_slice HO152.out; subst eo28))
          go_ret
          exact ⟨by first | rfl | (simp [errW_none, errW_some] <;> rfl) | (simp [*, errW_none, errW_some] <;> rfl), by repeat (first | (with_reducible first | exact HB.out | apply below_alloc | apply pw_below_drewN | apply below_drew1) | exact HB.out)⟩
        ·rw [if_neg c10] at H
         have c10b0 : (((rd_T24 t146 1).f0) == 3 && (((rd_T24 t146 1).f1) == 53 && (((rd_T24 t146 1).f2) == 2 && (!((rd_T24 t146 1).f3))))) = false := by simpa using c10
         (try (have c10b1 : decide (((rd_T24 t146 1).f0) = 3 && (((rd_T24 t146 1).f1) == 53 && (((rd_T24 t146 1).f2) == 2 && (!((rd_T24 t146 1).f3))))) = false := by simpa using c10))
         (try (have c10b2 : (((rd_T24 t146 1).f0) == 3 && (((rd_T24 t146 1).f1) == 53 && (((rd_T24 t146 1).f2) == 2 && (!((rd_T24 t146 1).f3))))) = false := by simpa using c10))
         (try (have c10b3 : ¬ (((rd_T24 t146 1).f0) = 3 && (((rd_T24 t146 1).f1) == 53 && (((rd_T24 t146 1).f2) == 2 && (!((rd_T24 t146 1).f3))))) := by simpa using c10))
         clear c10;obtain rfl := Option.some.inj H
         go_enter Try.func11, Try.ntmps11
         go_wp2_with (first | ((with_reducible refine gate_dst (N := 8) rfl ?_); (try (refine gate_guard (by rfl) ?_; dsimp only)); refine Kd.R_lit k24 _ 24 ?hg (N := 8) ?hd (xs := ([(⟨2, 52, 3, false⟩ : S24)] : List (S24))) (inner := [.int .i64 2, .int .i64 52, .int .i64 3, .bool false]) (ok := fun _ => True) (okp := fun _ => True) ?hr ?hp (fun _ hk => hk) trivial (Below.refl _ _) (Nat.le_refl _) (by simp) ?_; (case hd => rfl); (case hg => rfl); (case hr => first | (go_simp; done) | (go_simp; rfl)); (case hp => exact (Reps.c4 (show Kd.M k24 _ _ _ (⟨2, 52, 3, false⟩ : S24) [.int .i64 2, .int .i64 52, .int .i64 3, .bool false] from (k24_mkM _ _ _ (⟨2, 52, 3, false⟩ : S24) )) (Reps.none _ _))); intro v140 w29 ho30 hb hg_ hnew_; clear hg_ hnew_; (first | rw [← Ny139.out] at ho30 | (simp only [Int.reduceToNat] at ho30; rw [← Ny139.out] at ho30)); have n0_ := Aside0.mk (Kd.R_lower ho30 (below_size (by repeat (first | (with_reducible first | exact HB.out | apply below_alloc | apply pw_below_drewN | apply below_drew1) | exact HB.out)))); have n1_ := Aside0.mk (below_step (by repeat (first | (with_reducible first | exact HB.out | apply below_alloc | apply pw_below_drewN | apply below_drew1) | exact HB.out)) hb); clear HB; have HO141 := n0_; have HB := n1_; clear n0_ n1_; clear hb ho30; obtain ⟨Ao31, co31, eo31⟩ := Kd.R_slice HO141.out; subst eo31) | ((with_reducible refine gate_callee (f := 14) rfl ?_); refine goesL_ (some 10) rfl rfl Try.func14 (by kernel_rfl) rfl #[.slice Ao31 y139.length co31, .agg #[.int .i64 0, .int .i64 50, .int .i64 2, .bool false]] rfl (by (try simp only [List.map_toArray, List.map_cons, List.map_nil]); first | done | rfl | (simp only [List.length_drop, List.length_take]; rfl)) ?_; (with_reducible refine (extent_Put.calls k _ _ y139 0 50 2 false t142 t145 _ ?side1 ?side2 A1.out).mono ?_); (case side1 => repeat (first | exact (Kd.R_reads' HO141.out).2.2 | (with_reducible refine Kd.C_alloc ?_ _) | (with_reducible refine Kd.C_drewN ?_ _) | (with_reducible refine Kd.C_drew ?_))); (case side2 => exact (Kd.R_reads' HO141.out).2.1); rintro e w32 ⟨v143, rfl, ho0, hb⟩; refine ⟨_, rfl, ?_⟩; have n0_ := Aside0.mk (Kd.R_elder' (by (with_reducible repeat (first | apply Kd.R_alloc | apply Kd.R_drewN | apply Kd.R_drew)); exact HO141.out) (Kd.R_base ho0) hb); have n1_ := Aside0.mk (Kd.R_lower (Kd.R_new' ho0 (Kd.R_lt (by (with_reducible repeat (first | apply Kd.R_alloc | apply Kd.R_drewN | apply Kd.R_drew)); exact HO141.out))) (below_size (by repeat (first | (with_reducible first | exact HB.out | apply below_alloc | apply pw_below_drewN | apply below_drew1) | exact HB.out)))); have n2_ := Aside0.mk (below_step (by repeat (first | (with_reducible first | exact HB.out | apply below_alloc | apply pw_below_drewN | apply below_drew1) | exact HB.out)) hb); clear HO141; clear HB; have HO141 := n0_; have HO144 := n1_; have HB := n2_; clear n0_ n1_ n2_; (try clear hb); (try clear hb2); (try clear hk); (try clear hi); (try clear ho0); obtain ⟨Ao33, co33, eo33⟩ := Kd.R_slice HO144.out; subst eo33) | ((with_reducible refine gate_callee (f := 13) rfl ?_); refine goesL_ (some 15) rfl rfl Try.func13 (by kernel_rfl) rfl #[.slice Ao33 t142.length co33, .int .i64 1, .int .i64 3] rfl (by (try simp only [List.map_toArray, List.map_cons, List.map_nil]); first | done | rfl | (simp only [List.length_drop, List.length_take]; rfl)) ?_; (with_reducible refine (extent_Cut.calls k _ _ t142 1 3 t146 t147 t148 _ ?side1 ?side2 A2.out).mono ?_); (case side1 => repeat (first | exact (Kd.R_reads' HO144.out).2.2 | (with_reducible refine Kd.C_alloc ?_ _) | (with_reducible refine Kd.C_drewN ?_ _) | (with_reducible refine Kd.C_drew ?_))); (case side2 => exact (Kd.R_reads' HO144.out).2.1); rintro e w34 ⟨v149, v151, rfl, ho0, ho1, hb⟩; refine ⟨_, rfl, ?_⟩; have n0_ := Aside0.mk (Kd.R_elder' (by (with_reducible repeat (first | apply Kd.R_alloc | apply Kd.R_drewN | apply Kd.R_drew)); exact HO141.out) (Kd.R_base ho0) hb); have n1_ := Aside0.mk (Kd.R_elder' (by (with_reducible repeat (first | apply Kd.R_alloc | apply Kd.R_drewN | apply Kd.R_drew)); exact HO144.out) (Kd.R_base ho0) hb); have n2_ := Aside0.mk (Kd.R_lower (Kd.R_new' (Kd.R_new' ho0 (Kd.R_lt (by (with_reducible repeat (first | apply Kd.R_alloc | apply Kd.R_drewN | apply Kd.R_drew)); exact HO141.out))) (Kd.R_lt (by (with_reducible repeat (first | apply Kd.R_alloc | apply Kd.R_drewN | apply Kd.R_drew)); exact HO144.out))) (below_size (by repeat (first | (with_reducible first | exact HB.out | apply below_alloc | apply pw_below_drewN | apply below_drew1) | exact HB.out)))); have n3_ := Aside0.mk (Kd.R_lower ho1 (below_size (by repeat (first | (with_reducible first | exact HB.out | apply below_alloc | apply pw_below_drewN | apply below_drew1) | exact HB.out)))); have n4_ := Aside0.mk (below_step (by repeat (first | (with_reducible first | exact HB.out | apply below_alloc | apply pw_below_drewN | apply below_drew1) | exact HB.out)) hb); clear HO141; clear HO144; clear HB; have HO141 := n0_; have HO144 := n1_; have HO150 := n2_; have HO152 := n3_; have HB := n4_; clear n0_ n1_ n2_ n3_ n4_; (try clear hb); (try clear hb2); (try clear hk); (try clear hi); (try clear ho0); (try clear ho1); have p153 : 0 ≤ (0 : Int) := (by omega); have q153 : 0 < (t142.length : Int) := of_decide_eq_true (by first | (with_reducible assumption) | assumption); obtain ⟨ad153, e153, hx153_0, hx153_1, hx153_2, hx153_3⟩ := at_T24 (Kd.R_reads' HO144.out).2.2 0 p153 q153; cases e153; have qi153 : (0 < t142.length) = True := eq_true (by omega); (try rw [show ((0 : Int)).toNat = 0 from rfl] at hx153_0); (try rw [show 0 * 4 = 0 from rfl] at hx153_0); (try rw [Addr.add_zero'] at hx153_0); (try rw [show ((0 : Int)).toNat = 0 from rfl] at hx153_1); (try rw [show 0 * 4 = 0 from rfl] at hx153_1); (try rw [Addr.add_zero'] at hx153_1); (try rw [show ((0 : Int)).toNat = 0 from rfl] at hx153_2); (try rw [show 0 * 4 = 0 from rfl] at hx153_2); (try rw [Addr.add_zero'] at hx153_2); (try rw [show ((0 : Int)).toNat = 0 from rfl] at hx153_3); (try rw [show 0 * 4 = 0 from rfl] at hx153_3); (try rw [Addr.add_zero'] at hx153_3); replace p153 := eq_true p153; replace q153 := eq_true q153; obtain ⟨Ao35, co35, eo35⟩ := Kd.R_slice HO150.out; subst eo35; have p154 : 0 ≤ (1 : Int) := (by omega); have q154 : 1 < (t146.length : Int) := of_decide_eq_true (by first | (with_reducible assumption) | assumption); obtain ⟨ad154, e154, hx154_0, hx154_1, hx154_2, hx154_3⟩ := at_T24 (Kd.R_reads' HO150.out).2.2 1 p154 q154; cases e154; (try simp only [show (1 : Int).toNat = 1 from rfl, Nat.reduceMul, Nat.reduceEqDiff, Go.Addr.add, ↓reduceIte] at hx154_0); (try simp only [show (1 : Int).toNat = 1 from rfl, Nat.reduceMul, Nat.reduceEqDiff, Go.Addr.add, ↓reduceIte] at hx154_1); (try simp only [show (1 : Int).toNat = 1 from rfl, Nat.reduceMul, Nat.reduceEqDiff, Go.Addr.add, ↓reduceIte] at hx154_2); (try simp only [show (1 : Int).toNat = 1 from rfl, Nat.reduceMul, Nat.reduceEqDiff, Go.Addr.add, ↓reduceIte] at hx154_3); have qi154 : (1 < t146.length) = True := eq_true (by omega); (try rw [show ((1 : Int)).toNat = 1 from rfl] at hx154_0); (try rw [show 1 * 4 = 4 from rfl] at hx154_0); (try rw [show ((1 : Int)).toNat = 1 from rfl] at hx154_1); (try rw [show 1 * 4 = 4 from rfl] at hx154_1); (try rw [show ((1 : Int)).toNat = 1 from rfl] at hx154_2); (try rw [show 1 * 4 = 4 from rfl] at hx154_2); (try rw [show ((1 : Int)).toNat = 1 from rfl] at hx154_3); (try rw [show 1 * 4 = 4 from rfl] at hx154_3); replace p154 := eq_true p154; replace q154 := eq_true q154))
         go_ret
         exact ⟨by first | rfl | (simp [errW_none, errW_some] <;> rfl) | (simp [*, errW_none, errW_some] <;> rfl), by repeat (first | (with_reducible first | exact HB.out | apply below_alloc | apply pw_below_drewN | apply below_drew1) | exact HB.out)⟩
       ·rw [if_neg c9] at H
        exact absurd H (by simp)
      ·rw [if_neg c8] at H
       have c8b0 : ((t146.length : Int) == 2) = false := beq_eq_false_iff_ne.mpr c8
       have c8b1 : ((t146.length : Int) != 2) = true := bne_iff_ne.mpr c8
       obtain rfl := Option.some.inj H
       go_enter Try.func11, Try.ntmps11
       go_wp2_with (first | ((with_reducible refine gate_dst (N := 8) rfl ?_); (try (refine gate_guard (by rfl) ?_; dsimp only)); refine Kd.R_lit k24 _ 24 ?hg (N := 8) ?hd (xs := ([(⟨2, 52, 3, false⟩ : S24)] : List (S24))) (inner := [.int .i64 2, .int .i64 52, .int .i64 3, .bool false]) (ok := fun _ => True) (okp := fun _ => True) ?hr ?hp (fun _ hk => hk) trivial (Below.refl _ _) (Nat.le_refl _) (by simp) ?_; (case hd => rfl); (case hg => rfl); (case hr => first | (go_simp; done) | (go_simp; rfl)); (case hp => exact (Reps.c4 (show Kd.M k24 _ _ _ (⟨2, 52, 3, false⟩ : S24) [.int .i64 2, .int .i64 52, .int .i64 3, .bool false] from (k24_mkM _ _ _ (⟨2, 52, 3, false⟩ : S24) )) (Reps.none _ _))); intro v140 w36 ho37 hb hg_ hnew_; clear hg_ hnew_; (first | rw [← Ny139.out] at ho37 | (simp only [Int.reduceToNat] at ho37; rw [← Ny139.out] at ho37)); have n0_ := Aside0.mk (Kd.R_lower ho37 (below_size (by repeat (first | (with_reducible first | exact HB.out | apply below_alloc | apply pw_below_drewN | apply below_drew1) | exact HB.out)))); have n1_ := Aside0.mk (below_step (by repeat (first | (with_reducible first | exact HB.out | apply below_alloc | apply pw_below_drewN | apply below_drew1) | exact HB.out)) hb); clear HB; have HO141 := n0_; have HB := n1_; clear n0_ n1_; clear hb ho37; obtain ⟨Ao38, co38, eo38⟩ := Kd.R_slice HO141.out; subst eo38) | ((with_reducible refine gate_callee (f := 14) rfl ?_); refine goesL_ (some 10) rfl rfl Try.func14 (by kernel_rfl) rfl #[.slice Ao38 y139.length co38, .agg #[.int .i64 0, .int .i64 50, .int .i64 2, .bool false]] rfl (by (try simp only [List.map_toArray, List.map_cons, List.map_nil]); first | done | rfl | (simp only [List.length_drop, List.length_take]; rfl)) ?_; (with_reducible refine (extent_Put.calls k _ _ y139 0 50 2 false t142 t145 _ ?side1 ?side2 A1.out).mono ?_); (case side1 => repeat (first | exact (Kd.R_reads' HO141.out).2.2 | (with_reducible refine Kd.C_alloc ?_ _) | (with_reducible refine Kd.C_drewN ?_ _) | (with_reducible refine Kd.C_drew ?_))); (case side2 => exact (Kd.R_reads' HO141.out).2.1); rintro e w39 ⟨v143, rfl, ho0, hb⟩; refine ⟨_, rfl, ?_⟩; have n0_ := Aside0.mk (Kd.R_elder' (by (with_reducible repeat (first | apply Kd.R_alloc | apply Kd.R_drewN | apply Kd.R_drew)); exact HO141.out) (Kd.R_base ho0) hb); have n1_ := Aside0.mk (Kd.R_lower (Kd.R_new' ho0 (Kd.R_lt (by (with_reducible repeat (first | apply Kd.R_alloc | apply Kd.R_drewN | apply Kd.R_drew)); exact HO141.out))) (below_size (by repeat (first | (with_reducible first | exact HB.out | apply below_alloc | apply pw_below_drewN | apply below_drew1) | exact HB.out)))); have n2_ := Aside0.mk (below_step (by repeat (first | (with_reducible first | exact HB.out | apply below_alloc | apply pw_below_drewN | apply below_drew1) | exact HB.out)) hb); clear HO141; clear HB; have HO141 := n0_; have HO144 := n1_; have HB := n2_; clear n0_ n1_ n2_; (try clear hb); (try clear hb2); (try clear hk); (try clear hi); (try clear ho0); obtain ⟨Ao40, co40, eo40⟩ := Kd.R_slice HO144.out; subst eo40) | ((with_reducible refine gate_callee (f := 13) rfl ?_); refine goesL_ (some 15) rfl rfl Try.func13 (by kernel_rfl) rfl #[.slice Ao40 t142.length co40, .int .i64 1, .int .i64 3] rfl (by (try simp only [List.map_toArray, List.map_cons, List.map_nil]); first | done | rfl | (simp only [List.length_drop, List.length_take]; rfl)) ?_; (with_reducible refine (extent_Cut.calls k _ _ t142 1 3 t146 t147 t148 _ ?side1 ?side2 A2.out).mono ?_); (case side1 => repeat (first | exact (Kd.R_reads' HO144.out).2.2 | (with_reducible refine Kd.C_alloc ?_ _) | (with_reducible refine Kd.C_drewN ?_ _) | (with_reducible refine Kd.C_drew ?_))); (case side2 => exact (Kd.R_reads' HO144.out).2.1); rintro e w41 ⟨v149, v151, rfl, ho0, ho1, hb⟩; refine ⟨_, rfl, ?_⟩; have n0_ := Aside0.mk (Kd.R_elder' (by (with_reducible repeat (first | apply Kd.R_alloc | apply Kd.R_drewN | apply Kd.R_drew)); exact HO141.out) (Kd.R_base ho0) hb); have n1_ := Aside0.mk (Kd.R_elder' (by (with_reducible repeat (first | apply Kd.R_alloc | apply Kd.R_drewN | apply Kd.R_drew)); exact HO144.out) (Kd.R_base ho0) hb); have n2_ := Aside0.mk (Kd.R_lower (Kd.R_new' (Kd.R_new' ho0 (Kd.R_lt (by (with_reducible repeat (first | apply Kd.R_alloc | apply Kd.R_drewN | apply Kd.R_drew)); exact HO141.out))) (Kd.R_lt (by (with_reducible repeat (first | apply Kd.R_alloc | apply Kd.R_drewN | apply Kd.R_drew)); exact HO144.out))) (below_size (by repeat (first | (with_reducible first | exact HB.out | apply below_alloc | apply pw_below_drewN | apply below_drew1) | exact HB.out)))); have n3_ := Aside0.mk (Kd.R_lower ho1 (below_size (by repeat (first | (with_reducible first | exact HB.out | apply below_alloc | apply pw_below_drewN | apply below_drew1) | exact HB.out)))); have n4_ := Aside0.mk (below_step (by repeat (first | (with_reducible first | exact HB.out | apply below_alloc | apply pw_below_drewN | apply below_drew1) | exact HB.out)) hb); clear HO141; clear HO144; clear HB; have HO141 := n0_; have HO144 := n1_; have HO150 := n2_; have HO152 := n3_; have HB := n4_; clear n0_ n1_ n2_ n3_ n4_; (try clear hb); (try clear hb2); (try clear hk); (try clear hi); (try clear ho0); (try clear ho1); have p153 : 0 ≤ (0 : Int) := (by omega); have q153 : 0 < (t142.length : Int) := of_decide_eq_true (by first | (with_reducible assumption) | assumption); obtain ⟨ad153, e153, hx153_0, hx153_1, hx153_2, hx153_3⟩ := at_T24 (Kd.R_reads' HO144.out).2.2 0 p153 q153; cases e153; have qi153 : (0 < t142.length) = True := eq_true (by omega); (try rw [show ((0 : Int)).toNat = 0 from rfl] at hx153_0); (try rw [show 0 * 4 = 0 from rfl] at hx153_0); (try rw [Addr.add_zero'] at hx153_0); (try rw [show ((0 : Int)).toNat = 0 from rfl] at hx153_1); (try rw [show 0 * 4 = 0 from rfl] at hx153_1); (try rw [Addr.add_zero'] at hx153_1); (try rw [show ((0 : Int)).toNat = 0 from rfl] at hx153_2); (try rw [show 0 * 4 = 0 from rfl] at hx153_2); (try rw [Addr.add_zero'] at hx153_2); (try rw [show ((0 : Int)).toNat = 0 from rfl] at hx153_3); (try rw [show 0 * 4 = 0 from rfl] at hx153_3); (try rw [Addr.add_zero'] at hx153_3); replace p153 := eq_true p153; replace q153 := eq_true q153; obtain ⟨Ao42, co42, eo42⟩ := Kd.R_slice HO150.out; subst eo42))
       go_ret
       exact ⟨by first | rfl | (simp [errW_none, errW_some] <;> rfl) | (simp [*, errW_none, errW_some] <;> rfl), by repeat (first | (with_reducible first | exact HB.out | apply below_alloc | apply pw_below_drewN | apply below_drew1) | exact HB.out)⟩
     ·rw [if_neg c7] at H
      have c7b0 : (t148 == 0) = false := beq_eq_false_iff_ne.mpr c7
      have c7b1 : (t148 != 0) = true := bne_iff_ne.mpr c7
      obtain rfl := Option.some.inj H
      go_enter Try.func11, Try.ntmps11
      go_wp2_with (first | ((with_reducible refine gate_dst (N := 8) rfl ?_); (try (refine gate_guard (by rfl) ?_; dsimp only)); refine Kd.R_lit k24 _ 24 ?hg (N := 8) ?hd (xs := ([(⟨2, 52, 3, false⟩ : S24)] : List (S24))) (inner := [.int .i64 2, .int .i64 52, .int .i64 3, .bool false]) (ok := fun _ => True) (okp := fun _ => True) ?hr ?hp (fun _ hk => hk) trivial (Below.refl _ _) (Nat.le_refl _) (by simp) ?_; (case hd => rfl); (case hg => rfl); (case hr => first | (go_simp; done) | (go_simp; rfl)); (case hp => exact (Reps.c4 (show Kd.M k24 _ _ _ (⟨2, 52, 3, false⟩ : S24) [.int .i64 2, .int .i64 52, .int .i64 3, .bool false] from (k24_mkM _ _ _ (⟨2, 52, 3, false⟩ : S24) )) (Reps.none _ _))); intro v140 w43 ho44 hb hg_ hnew_; clear hg_ hnew_; (first | rw [← Ny139.out] at ho44 | (simp only [Int.reduceToNat] at ho44; rw [← Ny139.out] at ho44)); have n0_ := Aside0.mk (Kd.R_lower ho44 (below_size (by repeat (first | (with_reducible first | exact HB.out | apply below_alloc | apply pw_below_drewN | apply below_drew1) | exact HB.out)))); have n1_ := Aside0.mk (below_step (by repeat (first | (with_reducible first | exact HB.out | apply below_alloc | apply pw_below_drewN | apply below_drew1) | exact HB.out)) hb); clear HB; have HO141 := n0_; have HB := n1_; clear n0_ n1_; clear hb ho44; obtain ⟨Ao45, co45, eo45⟩ := Kd.R_slice HO141.out; subst eo45) | ((with_reducible refine gate_callee (f := 14) rfl ?_); refine goesL_ (some 10) rfl rfl Try.func14 (by kernel_rfl) rfl #[.slice Ao45 y139.length co45, .agg #[.int .i64 0, .int .i64 50, .int .i64 2, .bool false]] rfl (by (try simp only [List.map_toArray, List.map_cons, List.map_nil]); first | done | rfl | (simp only [List.length_drop, List.length_take]; rfl)) ?_; (with_reducible refine (extent_Put.calls k _ _ y139 0 50 2 false t142 t145 _ ?side1 ?side2 A1.out).mono ?_); (case side1 => repeat (first | exact (Kd.R_reads' HO141.out).2.2 | (with_reducible refine Kd.C_alloc ?_ _) | (with_reducible refine Kd.C_drewN ?_ _) | (with_reducible refine Kd.C_drew ?_))); (case side2 => exact (Kd.R_reads' HO141.out).2.1); rintro e w46 ⟨v143, rfl, ho0, hb⟩; refine ⟨_, rfl, ?_⟩; have n0_ := Aside0.mk (Kd.R_elder' (by (with_reducible repeat (first | apply Kd.R_alloc | apply Kd.R_drewN | apply Kd.R_drew)); exact HO141.out) (Kd.R_base ho0) hb); have n1_ := Aside0.mk (Kd.R_lower (Kd.R_new' ho0 (Kd.R_lt (by (with_reducible repeat (first | apply Kd.R_alloc | apply Kd.R_drewN | apply Kd.R_drew)); exact HO141.out))) (below_size (by repeat (first | (with_reducible first | exact HB.out | apply below_alloc | apply pw_below_drewN | apply below_drew1) | exact HB.out)))); have n2_ := Aside0.mk (below_step (by repeat (first | (with_reducible first | exact HB.out | apply below_alloc | apply pw_below_drewN | apply below_drew1) | exact HB.out)) hb); clear HO141; clear HB; have HO141 := n0_; have HO144 := n1_; have HB := n2_; clear n0_ n1_ n2_; (try clear hb); (try clear hb2); (try clear hk); (try clear hi); (try clear ho0); obtain ⟨Ao47, co47, eo47⟩ := Kd.R_slice HO144.out; subst eo47) | ((with_reducible refine gate_callee (f := 13) rfl ?_); refine goesL_ (some 15) rfl rfl Try.func13 (by kernel_rfl) rfl #[.slice Ao47 t142.length co47, .int .i64 1, .int .i64 3] rfl (by (try simp only [List.map_toArray, List.map_cons, List.map_nil]); first | done | rfl | (simp only [List.length_drop, List.length_take]; rfl)) ?_; (with_reducible refine (extent_Cut.calls k _ _ t142 1 3 t146 t147 t148 _ ?side1 ?side2 A2.out).mono ?_); (case side1 => repeat (first | exact (Kd.R_reads' HO144.out).2.2 | (with_reducible refine Kd.C_alloc ?_ _) | (with_reducible refine Kd.C_drewN ?_ _) | (with_reducible refine Kd.C_drew ?_))); (case side2 => exact (Kd.R_reads' HO144.out).2.1); rintro e w48 ⟨v149, v151, rfl, ho0, ho1, hb⟩; refine ⟨_, rfl, ?_⟩; have n0_ := Aside0.mk (Kd.R_elder' (by (with_reducible repeat (first | apply Kd.R_alloc | apply Kd.R_drewN | apply Kd.R_drew)); exact HO141.out) (Kd.R_base ho0) hb); have n1_ := Aside0.mk (Kd.R_elder' (by (with_reducible repeat (first | apply Kd.R_alloc | apply Kd.R_drewN | apply Kd.R_drew)); exact HO144.out) (Kd.R_base ho0) hb); have n2_ := Aside0.mk (Kd.R_lower (Kd.R_new' (Kd.R_new' ho0 (Kd.R_lt (by (with_reducible repeat (first | apply Kd.R_alloc | apply Kd.R_drewN | apply Kd.R_drew)); exact HO141.out))) (Kd.R_lt (by (with_reducible repeat (first | apply Kd.R_alloc | apply Kd.R_drewN | apply Kd.R_drew)); exact HO144.out))) (below_size (by repeat (first | (with_reducible first | exact HB.out | apply below_alloc | apply pw_below_drewN | apply below_drew1) | exact HB.out)))); have n3_ := Aside0.mk (Kd.R_lower ho1 (below_size (by repeat (first | (with_reducible first | exact HB.out | apply below_alloc | apply pw_below_drewN | apply below_drew1) | exact HB.out)))); have n4_ := Aside0.mk (below_step (by repeat (first | (with_reducible first | exact HB.out | apply below_alloc | apply pw_below_drewN | apply below_drew1) | exact HB.out)) hb); clear HO141; clear HO144; clear HB; have HO141 := n0_; have HO144 := n1_; have HO150 := n2_; have HO152 := n3_; have HB := n4_; clear n0_ n1_ n2_ n3_ n4_; (try clear hb); (try clear hb2); (try clear hk); (try clear hi); (try clear ho0); (try clear ho1); have p153 : 0 ≤ (0 : Int) := (by omega); have q153 : 0 < (t142.length : Int) := of_decide_eq_true (by first | (with_reducible assumption) | assumption); obtain ⟨ad153, e153, hx153_0, hx153_1, hx153_2, hx153_3⟩ := at_T24 (Kd.R_reads' HO144.out).2.2 0 p153 q153; cases e153; have qi153 : (0 < t142.length) = True := eq_true (by omega); (try rw [show ((0 : Int)).toNat = 0 from rfl] at hx153_0); (try rw [show 0 * 4 = 0 from rfl] at hx153_0); (try rw [Addr.add_zero'] at hx153_0); (try rw [show ((0 : Int)).toNat = 0 from rfl] at hx153_1); (try rw [show 0 * 4 = 0 from rfl] at hx153_1); (try rw [Addr.add_zero'] at hx153_1); (try rw [show ((0 : Int)).toNat = 0 from rfl] at hx153_2); (try rw [show 0 * 4 = 0 from rfl] at hx153_2); (try rw [Addr.add_zero'] at hx153_2); (try rw [show ((0 : Int)).toNat = 0 from rfl] at hx153_3); (try rw [show 0 * 4 = 0 from rfl] at hx153_3); (try rw [Addr.add_zero'] at hx153_3); replace p153 := eq_true p153; replace q153 := eq_true q153))
      go_ret
      exact ⟨by first | rfl | (simp [errW_none, errW_some] <;> rfl) | (simp [*, errW_none, errW_some] <;> rfl), by repeat (first | (with_reducible first | exact HB.out | apply below_alloc | apply pw_below_drewN | apply below_drew1) | exact HB.out)⟩
    ·rw [if_neg c6] at H
     have c6b0 : (((rd_T24 t142 0).f0) == 0 && (((rd_T24 t142 0).f1) == 50 && (((rd_T24 t142 0).f2) == 5 && (!((rd_T24 t142 0).f3))))) = false := by simpa using c6
     (try (have c6b1 : decide (((rd_T24 t142 0).f0) = 0 && (((rd_T24 t142 0).f1) == 50 && (((rd_T24 t142 0).f2) == 5 && (!((rd_T24 t142 0).f3))))) = false := by simpa using c6))
     (try (have c6b2 : (((rd_T24 t142 0).f0) == 0 && (((rd_T24 t142 0).f1) == 50 && (((rd_T24 t142 0).f2) == 5 && (!((rd_T24 t142 0).f3))))) = false := by simpa using c6))
     (try (have c6b3 : ¬ (((rd_T24 t142 0).f0) = 0 && (((rd_T24 t142 0).f1) == 50 && (((rd_T24 t142 0).f2) == 5 && (!((rd_T24 t142 0).f3))))) := by simpa using c6))
     clear c6;obtain rfl := Option.some.inj H
     go_enter Try.func11, Try.ntmps11
     go_wp2_with (first | ((with_reducible refine gate_dst (N := 8) rfl ?_); (try (refine gate_guard (by rfl) ?_; dsimp only)); refine Kd.R_lit k24 _ 24 ?hg (N := 8) ?hd (xs := ([(⟨2, 52, 3, false⟩ : S24)] : List (S24))) (inner := [.int .i64 2, .int .i64 52, .int .i64 3, .bool false]) (ok := fun _ => True) (okp := fun _ => True) ?hr ?hp (fun _ hk => hk) trivial (Below.refl _ _) (Nat.le_refl _) (by simp) ?_; (case hd => rfl); (case hg => rfl); (case hr => first | (go_simp; done) | (go_simp; rfl)); (case hp => exact (Reps.c4 (show Kd.M k24 _ _ _ (⟨2, 52, 3, false⟩ : S24) [.int .i64 2, .int .i64 52, .int .i64 3, .bool false] from (k24_mkM _ _ _ (⟨2, 52, 3, false⟩ : S24) )) (Reps.none _ _))); intro v140 w49 ho50 hb hg_ hnew_; clear hg_ hnew_; (first | rw [← Ny139.out] at ho50 | (simp only [Int.reduceToNat] at ho50; rw [← Ny139.out] at ho50)); have n0_ := Aside0.mk (Kd.R_lower ho50 (below_size (by repeat (first | (with_reducible first | exact HB.out | apply below_alloc | apply pw_below_drewN | apply below_drew1) | exact HB.out)))); have n1_ := Aside0.mk (below_step (by repeat (first | (with_reducible first | exact HB.out | apply below_alloc | apply pw_below_drewN | apply below_drew1) | exact HB.out)) hb); clear HB; have HO141 := n0_; have HB := n1_; clear n0_ n1_; clear hb ho50; obtain ⟨Ao51, co51, eo51⟩ := Kd.R_slice HO141.out; subst eo51) | ((with_reducible refine gate_callee (f := 14) rfl ?_); refine goesL_ (some 10) rfl rfl Try.func14 (by kernel_rfl) rfl #[.slice Ao51 y139.length co51, .agg #[.int .i64 0, .int .i64 50, .int .i64 2, .bool false]] rfl (by (try simp only [List.map_toArray, List.map_cons, List.map_nil]); first | done | rfl | (simp only [List.length_drop, List.length_take]; rfl)) ?_; (with_reducible refine (extent_Put.calls k _ _ y139 0 50 2 false t142 t145 _ ?side1 ?side2 A1.out).mono ?_); (case side1 => repeat (first | exact (Kd.R_reads' HO141.out).2.2 | (with_reducible refine Kd.C_alloc ?_ _) | (with_reducible refine Kd.C_drewN ?_ _) | (with_reducible refine Kd.C_drew ?_))); (case side2 => exact (Kd.R_reads' HO141.out).2.1); rintro e w52 ⟨v143, rfl, ho0, hb⟩; refine ⟨_, rfl, ?_⟩; have n0_ := Aside0.mk (Kd.R_elder' (by (with_reducible repeat (first | apply Kd.R_alloc | apply Kd.R_drewN | apply Kd.R_drew)); exact HO141.out) (Kd.R_base ho0) hb); have n1_ := Aside0.mk (Kd.R_lower (Kd.R_new' ho0 (Kd.R_lt (by (with_reducible repeat (first | apply Kd.R_alloc | apply Kd.R_drewN | apply Kd.R_drew)); exact HO141.out))) (below_size (by repeat (first | (with_reducible first | exact HB.out | apply below_alloc | apply pw_below_drewN | apply below_drew1) | exact HB.out)))); have n2_ := Aside0.mk (below_step (by repeat (first | (with_reducible first | exact HB.out | apply below_alloc | apply pw_below_drewN | apply below_drew1) | exact HB.out)) hb); clear HO141; clear HB; have HO141 := n0_; have HO144 := n1_; have HB := n2_; clear n0_ n1_ n2_; (try clear hb); (try clear hb2); (try clear hk); (try clear hi); (try clear ho0); obtain ⟨Ao53, co53, eo53⟩ := Kd.R_slice HO144.out; subst eo53) | ((with_reducible refine gate_callee (f := 13) rfl ?_); refine goesL_ (some 15) rfl rfl Try.func13 (by kernel_rfl) rfl #[.slice Ao53 t142.length co53, .int .i64 1, .int .i64 3] rfl (by (try simp only [List.map_toArray, List.map_cons, List.map_nil]); first | done | rfl | (simp only [List.length_drop, List.length_take]; rfl)) ?_; (with_reducible refine (extent_Cut.calls k _ _ t142 1 3 t146 t147 t148 _ ?side1 ?side2 A2.out).mono ?_); (case side1 => repeat (first | exact (Kd.R_reads' HO144.out).2.2 | (with_reducible refine Kd.C_alloc ?_ _) | (with_reducible refine Kd.C_drewN ?_ _) | (with_reducible refine Kd.C_drew ?_))); (case side2 => exact (Kd.R_reads' HO144.out).2.1); rintro e w54 ⟨v149, v151, rfl, ho0, ho1, hb⟩; refine ⟨_, rfl, ?_⟩; have n0_ := Aside0.mk (Kd.R_elder' (by (with_reducible repeat (first | apply Kd.R_alloc | apply Kd.R_drewN | apply Kd.R_drew)); exact HO141.out) (Kd.R_base ho0) hb); have n1_ := Aside0.mk (Kd.R_elder' (by (with_reducible repeat (first | apply Kd.R_alloc | apply Kd.R_drewN | apply Kd.R_drew)); exact HO144.out) (Kd.R_base ho0) hb); have n2_ := Aside0.mk (Kd.R_lower (Kd.R_new' (Kd.R_new' ho0 (Kd.R_lt (by (with_reducible repeat (first | apply Kd.R_alloc | apply Kd.R_drewN | apply Kd.R_drew)); exact HO141.out))) (Kd.R_lt (by (with_reducible repeat (first | apply Kd.R_alloc | apply Kd.R_drewN | apply Kd.R_drew)); exact HO144.out))) (below_size (by repeat (first | (with_reducible first | exact HB.out | apply below_alloc | apply pw_below_drewN | apply below_drew1) | exact HB.out)))); have n3_ := Aside0.mk (Kd.R_lower ho1 (below_size (by repeat (first | (with_reducible first | exact HB.out | apply below_alloc | apply pw_below_drewN | apply below_drew1) | exact HB.out)))); have n4_ := Aside0.mk (below_step (by repeat (first | (with_reducible first | exact HB.out | apply below_alloc | apply pw_below_drewN | apply below_drew1) | exact HB.out)) hb); clear HO141; clear HO144; clear HB; have HO141 := n0_; have HO144 := n1_; have HO150 := n2_; have HO152 := n3_; have HB := n4_; clear n0_ n1_ n2_ n3_ n4_; (try clear hb); (try clear hb2); (try clear hk); (try clear hi); (try clear ho0); (try clear ho1); have p153 : 0 ≤ (0 : Int) := (by omega); have q153 : 0 < (t142.length : Int) := of_decide_eq_true (by first | (with_reducible assumption) | assumption); obtain ⟨ad153, e153, hx153_0, hx153_1, hx153_2, hx153_3⟩ := at_T24 (Kd.R_reads' HO144.out).2.2 0 p153 q153; cases e153; have qi153 : (0 < t142.length) = True := eq_true (by omega); (try rw [show ((0 : Int)).toNat = 0 from rfl] at hx153_0); (try rw [show 0 * 4 = 0 from rfl] at hx153_0); (try rw [Addr.add_zero'] at hx153_0); (try rw [show ((0 : Int)).toNat = 0 from rfl] at hx153_1); (try rw [show 0 * 4 = 0 from rfl] at hx153_1); (try rw [Addr.add_zero'] at hx153_1); (try rw [show ((0 : Int)).toNat = 0 from rfl] at hx153_2); (try rw [show 0 * 4 = 0 from rfl] at hx153_2); (try rw [Addr.add_zero'] at hx153_2); (try rw [show ((0 : Int)).toNat = 0 from rfl] at hx153_3); (try rw [show 0 * 4 = 0 from rfl] at hx153_3); (try rw [Addr.add_zero'] at hx153_3); replace p153 := eq_true p153; replace q153 := eq_true q153))
     go_ret
     exact ⟨by first | rfl | (simp [errW_none, errW_some] <;> rfl) | (simp [*, errW_none, errW_some] <;> rfl), by repeat (first | (with_reducible first | exact HB.out | apply below_alloc | apply pw_below_drewN | apply below_drew1) | exact HB.out)⟩
   ·rw [if_neg c5] at H
    exact absurd H (by simp)
  ·rw [if_neg c4] at H
   have c4b0 : ((t142.length : Int) == 1) = false := beq_eq_false_iff_ne.mpr c4
   have c4b1 : ((t142.length : Int) != 1) = true := bne_iff_ne.mpr c4
   obtain rfl := Option.some.inj H
   go_enter Try.func11, Try.ntmps11
   go_wp2_with (first | ((with_reducible refine gate_dst (N := 8) rfl ?_); (try (refine gate_guard (by rfl) ?_; dsimp only)); refine Kd.R_lit k24 _ 24 ?hg (N := 8) ?hd (xs := ([(⟨2, 52, 3, false⟩ : S24)] : List (S24))) (inner := [.int .i64 2, .int .i64 52, .int .i64 3, .bool false]) (ok := fun _ => True) (okp := fun _ => True) ?hr ?hp (fun _ hk => hk) trivial (Below.refl _ _) (Nat.le_refl _) (by simp) ?_; (case hd => rfl); (case hg => rfl); (case hr => first | (go_simp; done) | (go_simp; rfl)); (case hp => exact (Reps.c4 (show Kd.M k24 _ _ _ (⟨2, 52, 3, false⟩ : S24) [.int .i64 2, .int .i64 52, .int .i64 3, .bool false] from (k24_mkM _ _ _ (⟨2, 52, 3, false⟩ : S24) )) (Reps.none _ _))); intro v140 w55 ho56 hb hg_ hnew_; clear hg_ hnew_; (first | rw [← Ny139.out] at ho56 | (simp only [Int.reduceToNat] at ho56; rw [← Ny139.out] at ho56)); have n0_ := Aside0.mk (Kd.R_lower ho56 (below_size (by repeat (first | (with_reducible first | exact HB.out | apply below_alloc | apply pw_below_drewN | apply below_drew1) | exact HB.out)))); have n1_ := Aside0.mk (below_step (by repeat (first | (with_reducible first | exact HB.out | apply below_alloc | apply pw_below_drewN | apply below_drew1) | exact HB.out)) hb); clear HB; have HO141 := n0_; have HB := n1_; clear n0_ n1_; clear hb ho56; obtain ⟨Ao57, co57, eo57⟩ := Kd.R_slice HO141.out; subst eo57) | ((with_reducible refine gate_callee (f := 14) rfl ?_); refine goesL_ (some 10) rfl rfl Try.func14 (by kernel_rfl) rfl #[.slice Ao57 y139.length co57, .agg #[.int .i64 0, .int .i64 50, .int .i64 2, .bool false]] rfl (by (try simp only [List.map_toArray, List.map_cons, List.map_nil]); first | done | rfl | (simp only [List.length_drop, List.length_take]; rfl)) ?_; (with_reducible refine (extent_Put.calls k _ _ y139 0 50 2 false t142 t145 _ ?side1 ?side2 A1.out).mono ?_); (case side1 => repeat (first | exact (Kd.R_reads' HO141.out).2.2 | (with_reducible refine Kd.C_alloc ?_ _) | (with_reducible refine Kd.C_drewN ?_ _) | (with_reducible refine Kd.C_drew ?_))); (case side2 => exact (Kd.R_reads' HO141.out).2.1); rintro e w58 ⟨v143, rfl, ho0, hb⟩; refine ⟨_, rfl, ?_⟩; have n0_ := Aside0.mk (Kd.R_elder' (by (with_reducible repeat (first | apply Kd.R_alloc | apply Kd.R_drewN | apply Kd.R_drew)); exact HO141.out) (Kd.R_base ho0) hb); have n1_ := Aside0.mk (Kd.R_lower (Kd.R_new' ho0 (Kd.R_lt (by (with_reducible repeat (first | apply Kd.R_alloc | apply Kd.R_drewN | apply Kd.R_drew)); exact HO141.out))) (below_size (by repeat (first | (with_reducible first | exact HB.out | apply below_alloc | apply pw_below_drewN | apply below_drew1) | exact HB.out)))); have n2_ := Aside0.mk (below_step (by repeat (first | (with_reducible first | exact HB.out | apply below_alloc | apply pw_below_drewN | apply below_drew1) | exact HB.out)) hb); clear HO141; clear HB; have HO141 := n0_; have HO144 := n1_; have HB := n2_; clear n0_ n1_ n2_; (try clear hb); (try clear hb2); (try clear hk); (try clear hi); (try clear ho0); obtain ⟨Ao59, co59, eo59⟩ := Kd.R_slice HO144.out; subst eo59) | ((with_reducible refine gate_callee (f := 13) rfl ?_); refine goesL_ (some 15) rfl rfl Try.func13 (by kernel_rfl) rfl #[.slice Ao59 t142.length co59, .int .i64 1, .int .i64 3] rfl (by (try simp only [List.map_toArray, List.map_cons, List.map_nil]); first | done | rfl | (simp only [List.length_drop, List.length_take]; rfl)) ?_; (with_reducible refine (extent_Cut.calls k _ _ t142 1 3 t146 t147 t148 _ ?side1 ?side2 A2.out).mono ?_); (case side1 => repeat (first | exact (Kd.R_reads' HO144.out).2.2 | (with_reducible refine Kd.C_alloc ?_ _) | (with_reducible refine Kd.C_drewN ?_ _) | (with_reducible refine Kd.C_drew ?_))); (case side2 => exact (Kd.R_reads' HO144.out).2.1); rintro e w60 ⟨v149, v151, rfl, ho0, ho1, hb⟩; refine ⟨_, rfl, ?_⟩; have n0_ := Aside0.mk (Kd.R_elder' (by (with_reducible repeat (first | apply Kd.R_alloc | apply Kd.R_drewN | apply Kd.R_drew)); exact HO141.out) (Kd.R_base ho0) hb); have n1_ := Aside0.mk (Kd.R_elder' (by (with_reducible repeat (first | apply Kd.R_alloc | apply Kd.R_drewN | apply Kd.R_drew)); exact HO144.out) (Kd.R_base ho0) hb); have n2_ := Aside0.mk (Kd.R_lower (Kd.R_new' (Kd.R_new' ho0 (Kd.R_lt (by (with_reducible repeat (first | apply Kd.R_alloc | apply Kd.R_drewN | apply Kd.R_drew)); exact HO141.out))) (Kd.R_lt (by (with_reducible repeat (first | apply Kd.R_alloc | apply Kd.R_drewN | apply Kd.R_drew)); exact HO144.out))) (below_size (by repeat (first | (with_reducible first | exact HB.out | apply below_alloc | apply pw_below_drewN | apply below_drew1) | exact HB.out)))); have n3_ := Aside0.mk (Kd.R_lower ho1 (below_size (by repeat (first | (with_reducible first | exact HB.out | apply below_alloc | apply pw_below_drewN | apply below_drew1) | exact HB.out)))); have n4_ := Aside0.mk (below_step (by repeat (first | (with_reducible first | exact HB.out | apply below_alloc | apply pw_below_drewN | apply below_drew1) | exact HB.out)) hb); clear HO141; clear HO144; clear HB; have HO141 := n0_; have HO144 := n1_; have HO150 := n2_; have HO152 := n3_; have HB := n4_; clear n0_ n1_ n2_ n3_ n4_; (try clear hb); (try clear hb2); (try clear hk); (try clear hi); (try clear ho0); (try clear ho1)))
   go_ret
   exact ⟨by first | rfl | (simp [errW_none, errW_some] <;> rfl) | (simp [*, errW_none, errW_some] <;> rfl), by repeat (first | (with_reducible first | exact HB.out | apply below_alloc | apply pw_below_drewN | apply below_drew1) | exact HB.out)⟩
 ·rw [if_neg c3] at H
  have c3b0 : (t145 == 0) = false := beq_eq_false_iff_ne.mpr c3
  have c3b1 : (t145 != 0) = true := bne_iff_ne.mpr c3
  obtain rfl := Option.some.inj H
  go_enter Try.func11, Try.ntmps11
  go_wp2_with (first | ((with_reducible refine gate_dst (N := 8) rfl ?_); (try (refine gate_guard (by rfl) ?_; dsimp only)); refine Kd.R_lit k24 _ 24 ?hg (N := 8) ?hd (xs := ([(⟨2, 52, 3, false⟩ : S24)] : List (S24))) (inner := [.int .i64 2, .int .i64 52, .int .i64 3, .bool false]) (ok := fun _ => True) (okp := fun _ => True) ?hr ?hp (fun _ hk => hk) trivial (Below.refl _ _) (Nat.le_refl _) (by simp) ?_; (case hd => rfl); (case hg => rfl); (case hr => first | (go_simp; done) | (go_simp; rfl)); (case hp => exact (Reps.c4 (show Kd.M k24 _ _ _ (⟨2, 52, 3, false⟩ : S24) [.int .i64 2, .int .i64 52, .int .i64 3, .bool false] from (k24_mkM _ _ _ (⟨2, 52, 3, false⟩ : S24) )) (Reps.none _ _))); intro v140 w61 ho62 hb hg_ hnew_; clear hg_ hnew_; (first | rw [← Ny139.out] at ho62 | (simp only [Int.reduceToNat] at ho62; rw [← Ny139.out] at ho62)); have n0_ := Aside0.mk (Kd.R_lower ho62 (below_size (by repeat (first | (with_reducible first | exact HB.out | apply below_alloc | apply pw_below_drewN | apply below_drew1) | exact HB.out)))); have n1_ := Aside0.mk (below_step (by repeat (first | (with_reducible first | exact HB.out | apply below_alloc | apply pw_below_drewN | apply below_drew1) | exact HB.out)) hb); clear HB; have HO141 := n0_; have HB := n1_; clear n0_ n1_; clear hb ho62; obtain ⟨Ao63, co63, eo63⟩ := Kd.R_slice HO141.out; subst eo63) | ((with_reducible refine gate_callee (f := 14) rfl ?_); refine goesL_ (some 10) rfl rfl Try.func14 (by kernel_rfl) rfl #[.slice Ao63 y139.length co63, .agg #[.int .i64 0, .int .i64 50, .int .i64 2, .bool false]] rfl (by (try simp only [List.map_toArray, List.map_cons, List.map_nil]); first | done | rfl | (simp only [List.length_drop, List.length_take]; rfl)) ?_; (with_reducible refine (extent_Put.calls k _ _ y139 0 50 2 false t142 t145 _ ?side1 ?side2 A1.out).mono ?_); (case side1 => repeat (first | exact (Kd.R_reads' HO141.out).2.2 | (with_reducible refine Kd.C_alloc ?_ _) | (with_reducible refine Kd.C_drewN ?_ _) | (with_reducible refine Kd.C_drew ?_))); (case side2 => exact (Kd.R_reads' HO141.out).2.1); rintro e w64 ⟨v143, rfl, ho0, hb⟩; refine ⟨_, rfl, ?_⟩; have n0_ := Aside0.mk (Kd.R_elder' (by (with_reducible repeat (first | apply Kd.R_alloc | apply Kd.R_drewN | apply Kd.R_drew)); exact HO141.out) (Kd.R_base ho0) hb); have n1_ := Aside0.mk (Kd.R_lower (Kd.R_new' ho0 (Kd.R_lt (by (with_reducible repeat (first | apply Kd.R_alloc | apply Kd.R_drewN | apply Kd.R_drew)); exact HO141.out))) (below_size (by repeat (first | (with_reducible first | exact HB.out | apply below_alloc | apply pw_below_drewN | apply below_drew1) | exact HB.out)))); have n2_ := Aside0.mk (below_step (by repeat (first | (with_reducible first | exact HB.out | apply below_alloc | apply pw_below_drewN | apply below_drew1) | exact HB.out)) hb); clear HO141; clear HB; have HO141 := n0_; have HO144 := n1_; have HB := n2_; clear n0_ n1_ n2_; (try clear hb); (try clear hb2); (try clear hk); (try clear hi); (try clear ho0); obtain ⟨Ao65, co65, eo65⟩ := Kd.R_slice HO144.out; subst eo65) | ((with_reducible refine gate_callee (f := 13) rfl ?_); refine goesL_ (some 15) rfl rfl Try.func13 (by kernel_rfl) rfl #[.slice Ao65 t142.length co65, .int .i64 1, .int .i64 3] rfl (by (try simp only [List.map_toArray, List.map_cons, List.map_nil]); first | done | rfl | (simp only [List.length_drop, List.length_take]; rfl)) ?_; (with_reducible refine (extent_Cut.calls k _ _ t142 1 3 t146 t147 t148 _ ?side1 ?side2 A2.out).mono ?_); (case side1 => repeat (first | exact (Kd.R_reads' HO144.out).2.2 | (with_reducible refine Kd.C_alloc ?_ _) | (with_reducible refine Kd.C_drewN ?_ _) | (with_reducible refine Kd.C_drew ?_))); (case side2 => exact (Kd.R_reads' HO144.out).2.1); rintro e w66 ⟨v149, v151, rfl, ho0, ho1, hb⟩; refine ⟨_, rfl, ?_⟩; have n0_ := Aside0.mk (Kd.R_elder' (by (with_reducible repeat (first | apply Kd.R_alloc | apply Kd.R_drewN | apply Kd.R_drew)); exact HO141.out) (Kd.R_base ho0) hb); have n1_ := Aside0.mk (Kd.R_elder' (by (with_reducible repeat (first | apply Kd.R_alloc | apply Kd.R_drewN | apply Kd.R_drew)); exact HO144.out) (Kd.R_base ho0) hb); have n2_ := Aside0.mk (Kd.R_lower (Kd.R_new' (Kd.R_new' ho0 (Kd.R_lt (by (with_reducible repeat (first | apply Kd.R_alloc | apply Kd.R_drewN | apply Kd.R_drew)); exact HO141.out))) (Kd.R_lt (by (with_reducible repeat (first | apply Kd.R_alloc | apply Kd.R_drewN | apply Kd.R_drew)); exact HO144.out))) (below_size (by repeat (first | (with_reducible first | exact HB.out | apply below_alloc | apply pw_below_drewN | apply below_drew1) | exact HB.out)))); have n3_ := Aside0.mk (Kd.R_lower ho1 (below_size (by repeat (first | (with_reducible first | exact HB.out | apply below_alloc | apply pw_below_drewN | apply below_drew1) | exact HB.out)))); have n4_ := Aside0.mk (below_step (by repeat (first | (with_reducible first | exact HB.out | apply below_alloc | apply pw_below_drewN | apply below_drew1) | exact HB.out)) hb); clear HO141; clear HO144; clear HB; have HO141 := n0_; have HO144 := n1_; have HO150 := n2_; have HO152 := n3_; have HB := n4_; clear n0_ n1_ n2_ n3_ n4_; (try clear hb); (try clear hb2); (try clear hk); (try clear hi); (try clear ho0); (try clear ho1)))
  go_ret
  exact ⟨by first | rfl | (simp [errW_none, errW_some] <;> rfl) | (simp [*, errW_none, errW_some] <;> rfl), by repeat (first | (with_reducible first | exact HB.out | apply below_alloc | apply pw_below_drewN | apply below_drew1) | exact HB.out)⟩
end Go.Proofs.Ytopmjjnkolfciaa.Pr
end
section
namespace Go.Proofs.Ytopmjjnkolfciaa.Pr
open Go.RowKit Go.Proofs.YtopmjjnkolfciaaW.PrintWords Go.Proofs.YtopmjjnkolfciaaW.PrintLast Go.Proofs.YtopmjjnkolfciaaW.PrintMore
set_option linter.unusedVariables false
set_option linter.unusedSimpArgs false
def Fits (l : List EX) : Prop := l.length ≤ 4398046510976
theorem o24 : Op.Opens Try.prog 22 (Kd.slice 24 k24) Fits :=
  Op.opens_imp (Op.opens_slice Try.underlying22 (by kernel_rfl) (B := 32) (by kernel_rfl)
    (Op.opens_iso (T := fun _ : EX => True) (fun x => ⟨x.1, x.2.1, x.2.2.1, x.2.2.2⟩) (fun _ => rfl) (fun _ _ => trivial)
      (Op.opens_struct Try.underlying24 (by kernel_rfl) (Op.opensAt_cons rfl (by kernel_rfl) (Op.opens_int Try.underlying3) (Op.opensAt_cons rfl (by kernel_rfl) (Op.opens_int Try.underlying3) (Op.opensAt_cons rfl (by kernel_rfl) (Op.opens_int Try.underlying3) (Op.opensAt_last rfl (by kernel_rfl) (Op.opens_bool Try.underlying4))))))))
    (fun l h => by unfold Fits; omega)
theorem alive_ev : Ev (fun k => undercroftlaw10_alive.f k) true := by
  unfold undercroftlaw10_alive.f
  have h1 : putX [(⟨2, 52, 3, false⟩ : EX)] ⟨0, 50, 2, false⟩ = ([⟨0, 50, 5, false⟩], 0) := by kernel_rfl
  have h2 : cutX [(⟨0, 50, 5, false⟩ : EX)] 1 3 = ([⟨0, 50, 1, false⟩, ⟨3, 53, 2, false⟩], [⟨51, 2⟩], 0) := by kernel_rfl
  have hp := put_ev [(⟨2, 52, 3, false⟩ : EX)] ⟨0, 50, 2, false⟩
  rw [h1] at hp
  have hc := cut_ev [(⟨0, 50, 5, false⟩ : EX)] 1 3
  rw [h2] at hc
  refine Ev.bind hp ?_
  refine Ev.bind hc ?_
  exact Ev.now _
end Go.Proofs.Ytopmjjnkolfciaa.Pr
end
section
namespace Go.Proofs.Ytopmjjnkolfciaa.Pr
open Go.RowKit Go.Proofs.YtopmjjnkolfciaaW.PrintWords Go.Proofs.YtopmjjnkolfciaaW.PrintLast Go.Proofs.YtopmjjnkolfciaaW.PrintMore
set_option linter.unusedVariables false
set_option linter.unusedSimpArgs false
def Risen (l : List EX) : Prop := (∀ e ∈ l, mayE e = true) ∧ riseL l
def adjL (l : List EX) : Prop := ∀ (i : Nat) (a b : EX), l[i]? = some a → l[i + 1]? = some b → goesR a b = false
structure Merged (l m : List EX) : Prop where
  may : ∀ e ∈ m, mayE e = true
  rise : riseL m
  adj : adjL m
  same : ∀ (x : Nat) (d : Int) (u : Bool), AtB m x d u ↔ AtB l x d u
theorem chk_risen {l : List EX} (h : chkB l = true) : Risen l := ⟨pre_may (chk_ok h).2.1, pre_rise (chk_ok h).2.1⟩
end Go.Proofs.Ytopmjjnkolfciaa.Pr
end
section
namespace Go.Proofs.Ytopmjjnkolfciaa.Pr
open Go.RowKit Go.Proofs.YtopmjjnkolfciaaW.PrintWords Go.Proofs.YtopmjjnkolfciaaW.PrintLast Go.Proofs.YtopmjjnkolfciaaW.PrintMore
attribute [local go_sem] max2_int min2_int max_two min_two max_three min_three max_four min_four
attribute [local go_sem] Go.Proofs.Ytopmjjnkolfciaa.Hl.str_geq Go.Proofs.Ytopmjjnkolfciaa.Hl.str_gtr Go.Proofs.Ytopmjjnkolfciaa.Hl.str_leq
set_option linter.unusedVariables false
set_option linter.unusedSimpArgs false
mutual
def undercroftlaw10_ExtentGiven.l0 : Nat → List (S24) → Int → List (S32) → Int → Int → Int → Option (Bool)
 | 0, _, _, _, _, _, _ => none
 | k + 1, x0, x2, x8, x10, x11, x12 => if x12 < x2 then (undercroftlaw10_ExtentGiven.j1 k x0 x2 x8 x10 x11 x12 (decide (x12 < 256))) else (undercroftlaw10_ExtentGiven.j1 k x0 x2 x8 x10 x11 x12 false)
def undercroftlaw10_ExtentGiven.j1 : Nat → List (S24) → Int → List (S32) → Int → Int → Int → Bool → Option (Bool)
 | 0, _, _, _, _, _, _, _ => none
 | k + 1, x0, x2, x8, x10, x11, x12, x39 => if x39 = true then ((extent_Find.f k x0 x12).bind fun bt236 => (if bt236.2.2 = true then (if x11 = 0 then (if x10 ≥ (x8.length : Int) then (some false) else (if 0 ≤ x10 then (if x10 < (x8.length : Int) then (if ((rd_T32 x8 x10).f0) = bt236.1 then (if ((rd_T32 x8 x10).f1) < 1 then (some false) else (undercroftlaw10_ExtentGiven.l0 k x0 x2 x8 (wrap64 (x10 + 1)) (wrap64 (((rd_T32 x8 x10).f1) - 1)) (wrap64 (x12 + 1)))) else (some false)) else (none)) else (none))) else (if 0 ≤ (wrap64 (x10 - 1)) then (if (wrap64 (x10 - 1)) < (x8.length : Int) then (if bt236.1 = (wrap64 ((wrap64 (((rd_T32 x8 (wrap64 (x10 - 1))).f0) + ((rd_T32 x8 (wrap64 (x10 - 1))).f1))) - x11)) then (undercroftlaw10_ExtentGiven.l0 k x0 x2 x8 x10 (wrap64 (x11 - 1)) (wrap64 (x12 + 1))) else (some false)) else (none)) else (none))) else (undercroftlaw10_ExtentGiven.l0 k x0 x2 x8 x10 x11 (wrap64 (x12 + 1))))) else (if x11 = 0 then (some (x10 == (x8.length : Int))) else (some false))
end
def undercroftlaw10_ExtentGiven.f (k : Nat) (l0 : List (S24)) (a1 : Int) (a2 : Int) : Option (Bool) := (undercroftlaw10_alive.f k).bind fun t228 => (if t228 = true then ((extent_Cut.f k l0 a1 a2).bind fun bt229 => (if bt229.2.2 = 0 then (undercroftlaw10_ExtentGiven.l0 k l0 a2 bt229.2.1 0 0 (mx a1 0)) else (some ((bt229.2.1.length : Int) == 0)))) else (some false))
set_option maxHeartbeats 8000000 in
set_option maxRecDepth 100000 in
theorem undercroftlaw10_ExtentGiven.calls (k : Nat) (A0 : Option Addr) (c0 : Nat) (l0 : List (S24)) (a1 : Int) (a2 : Int) (r : Bool) (w : World) (hr0 : Kd.C k24 w A0 l0.length l0) (hc0 : l0.length ≤ c0) (h : undercroftlaw10_ExtentGiven.f k l0 a1 a2 = some r) :
  Calls Try.prog 5 #[.slice A0 l0.length c0, .int .i64 a1, .int .i64 a2] w fun e w' => e = .returned (.bool r) ∧ Below w.heap.size w w' := by
 have HR0 := Aside0.mk hr0
 have HC0 := Aside0.mk hc0
 clear hr0 hc0
 have HB := Aside0.mk (Below.refl w.heap.size w)
 have H : ((undercroftlaw10_alive.f k).bind fun t228 => (if t228 = true then ((extent_Cut.f k l0 a1 a2).bind fun bt229 => (if bt229.2.2 = 0 then (undercroftlaw10_ExtentGiven.l0 k l0 a2 bt229.2.1 0 0 (mx a1 0)) else (some ((bt229.2.1.length : Int) == 0)))) else (some false))) = some r := h
 clear h
 replace H := Option.bind_eq_some_iff.mp H
 obtain ⟨t228, A40, H⟩ := H
 replace H : (if t228 = true then ((extent_Cut.f k l0 a1 a2).bind fun bt229 => (if bt229.2.2 = 0 then (undercroftlaw10_ExtentGiven.l0 k l0 a2 bt229.2.1 0 0 (mx a1 0)) else (some ((bt229.2.1.length : Int) == 0)))) else (some false)) = some r := H
 have A4 := Aside0.mk A40
 clear A40
 by_cases c5 : t228 = true
 ·subst c5
  have H1 : ((extent_Cut.f k l0 a1 a2).bind fun bt229 => (if bt229.2.2 = 0 then (undercroftlaw10_ExtentGiven.l0 k l0 a2 bt229.2.1 0 0 (mx a1 0)) else (some ((bt229.2.1.length : Int) == 0)))) = some r := by rw [if_pos rfl] at H; exact H
  clear H;have H := H1;clear H1
  replace H := Option.bind_eq_some_iff.mp H
  obtain ⟨⟨t229, t230, t231⟩, A60, H⟩ := H
  replace H : (if t231 = 0 then (undercroftlaw10_ExtentGiven.l0 k l0 a2 t230 0 0 (mx a1 0)) else (some ((t230.length : Int) == 0))) = some r := H
  have A6 := Aside0.mk A60
  clear A60
  by_cases c7 : t231 = 0
  ·rw [if_pos c7] at H
   have c7b0 : (t231 == 0) = true := beq_iff_eq.mpr c7
   have c7b1 : (t231 != 0) = false := bne_eq_false_iff_eq.mpr c7
   clear c7
   obtain ⟨ji8, hji8⟩ : ∃ j_ : Int, (mx a1 0) = j_ := ⟨_, rfl⟩
   replace H : (undercroftlaw10_ExtentGiven.l0 k l0 a2 t230 0 0 ji8) = some r := by first | (rw [hji8] at H; exact H) | (simp only [hji8] at H ⊢; exact H)
   (try rw [hji8] at A4)
   (try rw [hji8] at A6)
   (try (have hji8l : 0 ≤ ji8 := by (rw [← hji8]; unfold mx; (repeat' split) <;> omega)))
   (try (have hji8m : 0 ≤ ji8 := by omega))
   have hji8_ : (if a1 < 0 then 0 else a1) = ji8 := hji8
   have H' := Aside0.mk H
   clear H
   go_enter Try.func5, Try.ntmps5
   go_wp2_with (first | (go_at_call 11; (with_reducible refine (undercroftlaw10_alive.calls k  true _ A4.out).mono ?_); rintro e w9 ⟨rfl, hb⟩; have n0_ := Aside0.mk (below_step (by repeat (first | (with_reducible first | exact HB.out | apply below_alloc | apply pw_below_drewN | apply below_drew1) | exact HB.out)) hb); clear HB; have HB := n0_; clear n0_; (try clear hb); (try clear hb2); (try clear hk); (try clear hi)) | (go_at_call 13; (with_reducible refine (extent_Cut.calls k _ _ l0 a1 a2 t229 t230 t231 _ ?side1 ?side2 A6.out).mono ?_); (case side1 => repeat (first | exact (Kd.C_below HR0.out HB.out) | (with_reducible refine Kd.C_alloc ?_ _) | (with_reducible refine Kd.C_drewN ?_ _) | (with_reducible refine Kd.C_drew ?_))); (case side2 => exact HC0.out); rintro e w10 ⟨v232, v234, rfl, ho0, ho1, hb⟩; have n0_ := Aside0.mk (Kd.R_lower ho0 (below_size (by repeat (first | (with_reducible first | exact HB.out | apply below_alloc | apply pw_below_drewN | apply below_drew1) | exact HB.out)))); have n1_ := Aside0.mk (Kd.R_lower ho1 (below_size (by repeat (first | (with_reducible first | exact HB.out | apply below_alloc | apply pw_below_drewN | apply below_drew1) | exact HB.out)))); have n2_ := Aside0.mk (below_step (by repeat (first | (with_reducible first | exact HB.out | apply below_alloc | apply pw_below_drewN | apply below_drew1) | exact HB.out)) hb); clear HB; have HO233 := n0_; have HO235 := n1_; have HB := n2_; clear n0_ n1_ n2_; (try clear hb); (try clear hb2); (try clear hk); (try clear hi); (try clear ho0); (try clear ho1)))
   repeat (go_quiet (first | (go_at_call 11; (with_reducible refine (undercroftlaw10_alive.calls k  true _ A4.out).mono ?_); rintro e w9 ⟨rfl, hb⟩; have n0_ := Aside0.mk (below_step (by repeat (first | (with_reducible first | exact HB.out | apply below_alloc | apply pw_below_drewN | apply below_drew1) | exact HB.out)) hb); clear HB; have HB := n0_; clear n0_; (try clear hb); (try clear hb2); (try clear hk); (try clear hi)) | (go_at_call 13; (with_reducible refine (extent_Cut.calls k _ _ l0 a1 a2 t229 t230 t231 _ ?side1 ?side2 A6.out).mono ?_); (case side1 => repeat (first | exact (Kd.C_below HR0.out HB.out) | (with_reducible refine Kd.C_alloc ?_ _) | (with_reducible refine Kd.C_drewN ?_ _) | (with_reducible refine Kd.C_drew ?_))); (case side2 => exact HC0.out); rintro e w10 ⟨v232, v234, rfl, ho0, ho1, hb⟩; have n0_ := Aside0.mk (Kd.R_lower ho0 (below_size (by repeat (first | (with_reducible first | exact HB.out | apply below_alloc | apply pw_below_drewN | apply below_drew1) | exact HB.out)))); have n1_ := Aside0.mk (Kd.R_lower ho1 (below_size (by repeat (first | (with_reducible first | exact HB.out | apply below_alloc | apply pw_below_drewN | apply below_drew1) | exact HB.out)))); have n2_ := Aside0.mk (below_step (by repeat (first | (with_reducible first | exact HB.out | apply below_alloc | apply pw_below_drewN | apply below_drew1) | exact HB.out)) hb); clear HB; have HO233 := n0_; have HO235 := n1_; have HB := n2_; clear n0_ n1_ n2_; (try clear hb); (try clear hb2); (try clear hk); (try clear hi); (try clear ho0); (try clear ho1))); try go_wp2_with (first | (go_at_call 11; (with_reducible refine (undercroftlaw10_alive.calls k  true _ A4.out).mono ?_); rintro e w9 ⟨rfl, hb⟩; have n0_ := Aside0.mk (below_step (by repeat (first | (with_reducible first | exact HB.out | apply below_alloc | apply pw_below_drewN | apply below_drew1) | exact HB.out)) hb); clear HB; have HB := n0_; clear n0_; (try clear hb); (try clear hb2); (try clear hk); (try clear hi)) | (go_at_call 13; (with_reducible refine (extent_Cut.calls k _ _ l0 a1 a2 t229 t230 t231 _ ?side1 ?side2 A6.out).mono ?_); (case side1 => repeat (first | exact (Kd.C_below HR0.out HB.out) | (with_reducible refine Kd.C_alloc ?_ _) | (with_reducible refine Kd.C_drewN ?_ _) | (with_reducible refine Kd.C_drew ?_))); (case side2 => exact HC0.out); rintro e w10 ⟨v232, v234, rfl, ho0, ho1, hb⟩; have n0_ := Aside0.mk (Kd.R_lower ho0 (below_size (by repeat (first | (with_reducible first | exact HB.out | apply below_alloc | apply pw_below_drewN | apply below_drew1) | exact HB.out)))); have n1_ := Aside0.mk (Kd.R_lower ho1 (below_size (by repeat (first | (with_reducible first | exact HB.out | apply below_alloc | apply pw_below_drewN | apply below_drew1) | exact HB.out)))); have n2_ := Aside0.mk (below_step (by repeat (first | (with_reducible first | exact HB.out | apply below_alloc | apply pw_below_drewN | apply below_drew1) | exact HB.out)) hb); clear HB; have HO233 := n0_; have HO235 := n1_; have HB := n2_; clear n0_ n1_ n2_; (try clear hb); (try clear hb2); (try clear hk); (try clear hi); (try clear ho0); (try clear ho1))))
   go_loopg [10, 11, 12] k (fun kq v10 v11 v12 w' => ∃ (x10_1 : Int) (x11_1 : Int) (x12_1 : Int), v10 = .int .i64 x10_1 ∧ v11 = .int .i64 x11_1 ∧ v12 = .int .i64 x12_1 ∧ Aside0 (undercroftlaw10_ExtentGiven.l0 kq l0 a2 t230 x10_1 x11_1 x12_1 = some r) ∧ Aside0 (kq ≤ k) ∧ Aside0 (Kd.R k32 32 w' w.heap.size (fun _ => True) v234 t230) ∧ Aside0 (Below w.heap.size w w'))
   case atStart => exact ⟨(0), (0), (ji8), (by first | rfl | (simp; done) | (simp [*]; done)), (by first | rfl | (simp; done) | (simp [*]; done)), (by first | rfl | (simp; done) | (simp only [← hji8] <;> (first | rfl | simp)) | (simp [*]; done)), H', ⟨Nat.le_refl _⟩, ⟨by (with_reducible repeat (first | apply Kd.R_alloc | apply Kd.R_drewN | apply Kd.R_drew)); exact HO235.out⟩, ⟨by repeat (first | (with_reducible first | exact HB.out | apply below_alloc | apply pw_below_drewN | apply below_drew1) | exact HB.out)⟩⟩
   case round =>
    clear H'
    try clear p2
    try clear c5
    try clear c7
    try clear c7b0
    try clear c7b1
    obtain ⟨x10_1, x11_1, x12_1, rfl, rfl, rfl, HA, HK1, HO_8, HB⟩ := hrel
    cases gk with
    | zero => exact absurd HA.out (by intro h_; cases h_)
    | succ k1 =>
     have H := HA.out
     clear HA
     simp only [undercroftlaw10_ExtentGiven.l0] at H
     have HC11 := Aside0.mk H
     clear H
     go_upto_region 8 with (fail)
     repeat (go_quiet (fail); go_upto_region 8 with (fail))
     go_cut [39] (fun v39 wc => ∃ (kq : Nat) (x39_10 : Bool), v39 = .bool x39_10 ∧ Aside0 (undercroftlaw10_ExtentGiven.j1 kq l0 a2 t230 x10_1 x11_1 x12_1 x39_10 = some r) ∧ Aside0 (kq ≤ k1) ∧ Aside0 (Kd.R k32 32 wc w.heap.size (fun _ => True) v234 t230) ∧ Aside0 (Below w.heap.size w wc))
     case first =>
      have H := HC11.out
      clear HC11
      by_cases c12 : x12_1 < a2
      ·rw [if_pos c12] at H
       have c12b0 : decide (x12_1 < a2) = true := decide_eq_true c12
       clear c12
       (first | rw [c12b0] | (simp only [i64_w, i32_w]; rw [c12b0]) | skip)
       have H' := Aside0.mk H
       clear H;go_wp2
       repeat (go_quiet (fail); try go_wp2)
       go_meet
       case rel => exact ⟨_, (decide (x12_1 < 256)), (by first | rfl | (simp; done) | (simp [*]; done)), H', ⟨by have := HK1.out; first | omega | exact Nat.le_refl _⟩, ⟨by (with_reducible repeat (first | apply Kd.R_alloc | apply Kd.R_drewN | apply Kd.R_drew)); exact HO_8.out⟩, ⟨by repeat (first | (with_reducible first | exact HB.out | apply below_alloc | apply pw_below_drewN | apply below_drew1) | exact HB.out)⟩⟩
      ·rw [if_neg c12] at H
       have c12b0 : decide (x12_1 < a2) = false := decide_eq_false c12
       clear c12
       (first | rw [c12b0] | (simp only [i64_w, i32_w]; rw [c12b0]) | skip)
       have H' := Aside0.mk H
       clear H;go_wp2
       repeat (go_quiet (fail); try go_wp2)
       go_meet
       case rel => exact ⟨_, (false), (by first | rfl | (simp; done) | (simp [*]; done)), H', ⟨by have := HK1.out; first | omega | exact Nat.le_refl _⟩, ⟨by (with_reducible repeat (first | apply Kd.R_alloc | apply Kd.R_drewN | apply Kd.R_drew)); exact HO_8.out⟩, ⟨by repeat (first | (with_reducible first | exact HB.out | apply below_alloc | apply pw_below_drewN | apply below_drew1) | exact HB.out)⟩⟩
     case rest =>
      clear HC11
      try clear c1
      try clear p2
      try clear c5
      try clear c7
      try clear c7b0
      try clear c7b1
      try clear c12
      try clear c12b0
      try clear p2
      obtain ⟨kq, x39_10, rfl, HA, HJ10, HO_8, HB⟩ := hcut
      cases kq with
      | zero => exact absurd HA.out (by intro h_; cases h_)
      | succ kj10 =>
       have H := HA.out
       clear HA
       simp only [undercroftlaw10_ExtentGiven.j1] at H
       by_cases c13 : x39_10 = true
       ·subst c13
        have H1 : ((extent_Find.f kj10 l0 x12_1).bind fun bt236 => (if bt236.2.2 = true then (if x11_1 = 0 then (if x10_1 ≥ (t230.length : Int) then (some false) else (if 0 ≤ x10_1 then (if x10_1 < (t230.length : Int) then (if ((rd_T32 t230 x10_1).f0) = bt236.1 then (if ((rd_T32 t230 x10_1).f1) < 1 then (some false) else (undercroftlaw10_ExtentGiven.l0 kj10 l0 a2 t230 (wrap64 (x10_1 + 1)) (wrap64 (((rd_T32 t230 x10_1).f1) - 1)) (wrap64 (x12_1 + 1)))) else (some false)) else (none)) else (none))) else (if 0 ≤ (wrap64 (x10_1 - 1)) then (if (wrap64 (x10_1 - 1)) < (t230.length : Int) then (if bt236.1 = (wrap64 ((wrap64 (((rd_T32 t230 (wrap64 (x10_1 - 1))).f0) + ((rd_T32 t230 (wrap64 (x10_1 - 1))).f1))) - x11_1)) then (undercroftlaw10_ExtentGiven.l0 kj10 l0 a2 t230 x10_1 (wrap64 (x11_1 - 1)) (wrap64 (x12_1 + 1))) else (some false)) else (none)) else (none))) else (undercroftlaw10_ExtentGiven.l0 kj10 l0 a2 t230 x10_1 x11_1 (wrap64 (x12_1 + 1))))) = some r := by rw [if_pos rfl] at H; exact H
        clear H;have H := H1;clear H1
        replace H := Option.bind_eq_some_iff.mp H
        obtain ⟨⟨t236, t237, t238⟩, A140, H⟩ := H
        replace H : (if t238 = true then (if x11_1 = 0 then (if x10_1 ≥ (t230.length : Int) then (some false) else (if 0 ≤ x10_1 then (if x10_1 < (t230.length : Int) then (if ((rd_T32 t230 x10_1).f0) = t236 then (if ((rd_T32 t230 x10_1).f1) < 1 then (some false) else (undercroftlaw10_ExtentGiven.l0 kj10 l0 a2 t230 (wrap64 (x10_1 + 1)) (wrap64 (((rd_T32 t230 x10_1).f1) - 1)) (wrap64 (x12_1 + 1)))) else (some false)) else (none)) else (none))) else (if 0 ≤ (wrap64 (x10_1 - 1)) then (if (wrap64 (x10_1 - 1)) < (t230.length : Int) then (if t236 = (wrap64 ((wrap64 (((rd_T32 t230 (wrap64 (x10_1 - 1))).f0) + ((rd_T32 t230 (wrap64 (x10_1 - 1))).f1))) - x11_1)) then (undercroftlaw10_ExtentGiven.l0 kj10 l0 a2 t230 x10_1 (wrap64 (x11_1 - 1)) (wrap64 (x12_1 + 1))) else (some false)) else (none)) else (none))) else (undercroftlaw10_ExtentGiven.l0 kj10 l0 a2 t230 x10_1 x11_1 (wrap64 (x12_1 + 1)))) = some r := H
        have A14 := Aside0.mk A140
        clear A140
        by_cases c15 : t238 = true
        ·subst c15
         have H1 : (if x11_1 = 0 then (if x10_1 ≥ (t230.length : Int) then (some false) else (if 0 ≤ x10_1 then (if x10_1 < (t230.length : Int) then (if ((rd_T32 t230 x10_1).f0) = t236 then (if ((rd_T32 t230 x10_1).f1) < 1 then (some false) else (undercroftlaw10_ExtentGiven.l0 kj10 l0 a2 t230 (wrap64 (x10_1 + 1)) (wrap64 (((rd_T32 t230 x10_1).f1) - 1)) (wrap64 (x12_1 + 1)))) else (some false)) else (none)) else (none))) else (if 0 ≤ (wrap64 (x10_1 - 1)) then (if (wrap64 (x10_1 - 1)) < (t230.length : Int) then (if t236 = (wrap64 ((wrap64 (((rd_T32 t230 (wrap64 (x10_1 - 1))).f0) + ((rd_T32 t230 (wrap64 (x10_1 - 1))).f1))) - x11_1)) then (undercroftlaw10_ExtentGiven.l0 kj10 l0 a2 t230 x10_1 (wrap64 (x11_1 - 1)) (wrap64 (x12_1 + 1))) else (some false)) else (none)) else (none))) = some r := by rw [if_pos rfl] at H; exact H
         clear H;have H := H1;clear H1
         by_cases c16 : x11_1 = 0
         ·rw [if_pos c16] at H
          have c16b0 : (x11_1 == 0) = true := beq_iff_eq.mpr c16
          have c16b1 : (x11_1 != 0) = false := bne_eq_false_iff_eq.mpr c16
          clear c16
          by_cases c17 : x10_1 ≥ (t230.length : Int)
          ·rw [if_pos c17] at H
           have c17b0 : decide ((t230.length : Int) ≤ x10_1) = true := decide_eq_true c17
           clear c17;obtain rfl := Option.some.inj H
           go_wp2_with (first | (go_at_call 21; (with_reducible refine (extent_Find.calls kj10 _ _ l0 x12_1 t236 t237 true _ ?side1 ?side2 A14.out).mono ?_); (case side1 => repeat (first | exact (Kd.C_below HR0.out HB.out) | (with_reducible refine Kd.C_alloc ?_ _) | (with_reducible refine Kd.C_drewN ?_ _) | (with_reducible refine Kd.C_drew ?_))); (case side2 => exact HC0.out); rintro e w18 ⟨rfl, hb⟩; have n0_ := Aside0.mk (Kd.R_below (by (with_reducible repeat (first | apply Kd.R_alloc | apply Kd.R_drewN | apply Kd.R_drew)); exact HO_8.out) hb); have n1_ := Aside0.mk (below_step (by repeat (first | (with_reducible first | exact HB.out | apply below_alloc | apply pw_below_drewN | apply below_drew1) | exact HB.out)) hb); clear HO_8; clear HB; have HO_8 := n0_; have HB := n1_; clear n0_ n1_; (try clear hb); (try clear hb2); (try clear hk); (try clear hi); obtain ⟨Ao19, co19, eo19⟩ := Kd.R_slice HO_8.out; subst eo19))
           repeat (go_quiet (first | (go_at_call 21; (with_reducible refine (extent_Find.calls kj10 _ _ l0 x12_1 t236 t237 true _ ?side1 ?side2 A14.out).mono ?_); (case side1 => repeat (first | exact (Kd.C_below HR0.out HB.out) | (with_reducible refine Kd.C_alloc ?_ _) | (with_reducible refine Kd.C_drewN ?_ _) | (with_reducible refine Kd.C_drew ?_))); (case side2 => exact HC0.out); rintro e w18 ⟨rfl, hb⟩; have n0_ := Aside0.mk (Kd.R_below (by (with_reducible repeat (first | apply Kd.R_alloc | apply Kd.R_drewN | apply Kd.R_drew)); exact HO_8.out) hb); have n1_ := Aside0.mk (below_step (by repeat (first | (with_reducible first | exact HB.out | apply below_alloc | apply pw_below_drewN | apply below_drew1) | exact HB.out)) hb); clear HO_8; clear HB; have HO_8 := n0_; have HB := n1_; clear n0_ n1_; (try clear hb); (try clear hb2); (try clear hk); (try clear hi); obtain ⟨Ao19, co19, eo19⟩ := Kd.R_slice HO_8.out; subst eo19)); try go_wp2_with (first | (go_at_call 21; (with_reducible refine (extent_Find.calls kj10 _ _ l0 x12_1 t236 t237 true _ ?side1 ?side2 A14.out).mono ?_); (case side1 => repeat (first | exact (Kd.C_below HR0.out HB.out) | (with_reducible refine Kd.C_alloc ?_ _) | (with_reducible refine Kd.C_drewN ?_ _) | (with_reducible refine Kd.C_drew ?_))); (case side2 => exact HC0.out); rintro e w18 ⟨rfl, hb⟩; have n0_ := Aside0.mk (Kd.R_below (by (with_reducible repeat (first | apply Kd.R_alloc | apply Kd.R_drewN | apply Kd.R_drew)); exact HO_8.out) hb); have n1_ := Aside0.mk (below_step (by repeat (first | (with_reducible first | exact HB.out | apply below_alloc | apply pw_below_drewN | apply below_drew1) | exact HB.out)) hb); clear HO_8; clear HB; have HO_8 := n0_; have HB := n1_; clear n0_ n1_; (try clear hb); (try clear hb2); (try clear hk); (try clear hi); obtain ⟨Ao19, co19, eo19⟩ := Kd.R_slice HO_8.out; subst eo19)))
           go_ret
           exact ⟨by first | rfl | (simp [errW_none, errW_some] <;> rfl) | (simp only [← hji8]; first | rfl | (simp [errW_none, errW_some] <;> rfl)) | (simp [*, errW_none, errW_some] <;> rfl), by repeat (first | (with_reducible first | exact HB.out | apply below_alloc | apply pw_below_drewN | apply below_drew1) | exact HB.out)⟩
          ·rw [if_neg c17] at H
           have c17b0 : decide ((t230.length : Int) ≤ x10_1) = false := decide_eq_false c17
           clear c17
           by_cases c20 : 0 ≤ x10_1
           ·rw [if_pos c20] at H
            have c20b0 : decide (0 ≤ x10_1) = true := decide_eq_true c20
            clear c20
            by_cases c21 : x10_1 < (t230.length : Int)
            ·rw [if_pos c21] at H
             have c21b0 : decide (x10_1 < (t230.length : Int)) = true := decide_eq_true c21
             clear c21
             by_cases c22 : ((rd_T32 t230 x10_1).f0) = t236
             ·rw [if_pos c22] at H
              have c22b0 : (((rd_T32 t230 x10_1).f0) == t236) = true := beq_iff_eq.mpr c22
              have c22b1 : (((rd_T32 t230 x10_1).f0) != t236) = false := bne_eq_false_iff_eq.mpr c22
              clear c22
              by_cases c23 : ((rd_T32 t230 x10_1).f1) < 1
              ·rw [if_pos c23] at H
               have c23b0 : decide (((rd_T32 t230 x10_1).f1) < 1) = true := decide_eq_true c23
               clear c23;obtain rfl := Option.some.inj H
               go_wp2_with (first | (go_at_call 21; (with_reducible refine (extent_Find.calls kj10 _ _ l0 x12_1 t236 t237 true _ ?side1 ?side2 A14.out).mono ?_); (case side1 => repeat (first | exact (Kd.C_below HR0.out HB.out) | (with_reducible refine Kd.C_alloc ?_ _) | (with_reducible refine Kd.C_drewN ?_ _) | (with_reducible refine Kd.C_drew ?_))); (case side2 => exact HC0.out); rintro e w24 ⟨rfl, hb⟩; have n0_ := Aside0.mk (Kd.R_below (by (with_reducible repeat (first | apply Kd.R_alloc | apply Kd.R_drewN | apply Kd.R_drew)); exact HO_8.out) hb); have n1_ := Aside0.mk (below_step (by repeat (first | (with_reducible first | exact HB.out | apply below_alloc | apply pw_below_drewN | apply below_drew1) | exact HB.out)) hb); clear HO_8; clear HB; have HO_8 := n0_; have HB := n1_; clear n0_ n1_; (try clear hb); (try clear hb2); (try clear hk); (try clear hi); obtain ⟨Ao25, co25, eo25⟩ := Kd.R_slice HO_8.out; subst eo25; have p239 : 0 ≤ (x10_1 : Int) := of_decide_eq_true (by first | (with_reducible assumption) | assumption); have q239 : x10_1 < (t230.length : Int) := of_decide_eq_true (by first | (with_reducible assumption) | assumption); obtain ⟨ad239, e239, hx239_0, hx239_1⟩ := at_T32 (Kd.R_reads' HO_8.out).2.2 x10_1 p239 q239; cases e239; replace p239 := eq_true p239; replace q239 := eq_true q239; have p240 : 0 ≤ (x10_1 : Int) := of_decide_eq_true (by first | (with_reducible assumption) | assumption); have q240 : x10_1 < (t230.length : Int) := of_decide_eq_true (by first | (with_reducible assumption) | assumption); obtain ⟨ad240, e240, hx240_0, hx240_1⟩ := at_T32 (Kd.R_reads' HO_8.out).2.2 x10_1 p240 q240; obtain rfl : ad239 = ad240 := (by injection e240); replace p240 := eq_true p240; replace q240 := eq_true q240))
               repeat (go_quiet (first | (go_at_call 21; (with_reducible refine (extent_Find.calls kj10 _ _ l0 x12_1 t236 t237 true _ ?side1 ?side2 A14.out).mono ?_); (case side1 => repeat (first | exact (Kd.C_below HR0.out HB.out) | (with_reducible refine Kd.C_alloc ?_ _) | (with_reducible refine Kd.C_drewN ?_ _) | (with_reducible refine Kd.C_drew ?_))); (case side2 => exact HC0.out); rintro e w24 ⟨rfl, hb⟩; have n0_ := Aside0.mk (Kd.R_below (by (with_reducible repeat (first | apply Kd.R_alloc | apply Kd.R_drewN | apply Kd.R_drew)); exact HO_8.out) hb); have n1_ := Aside0.mk (below_step (by repeat (first | (with_reducible first | exact HB.out | apply below_alloc | apply pw_below_drewN | apply below_drew1) | exact HB.out)) hb); clear HO_8; clear HB; have HO_8 := n0_; have HB := n1_; clear n0_ n1_; (try clear hb); (try clear hb2); (try clear hk); (try clear hi); obtain ⟨Ao25, co25, eo25⟩ := Kd.R_slice HO_8.out; subst eo25; have p239 : 0 ≤ (x10_1 : Int) := of_decide_eq_true (by first | (with_reducible assumption) | assumption); have q239 : x10_1 < (t230.length : Int) := of_decide_eq_true (by first | (with_reducible assumption) | assumption); obtain ⟨ad239, e239, hx239_0, hx239_1⟩ := at_T32 (Kd.R_reads' HO_8.out).2.2 x10_1 p239 q239; cases e239; replace p239 := eq_true p239; replace q239 := eq_true q239; have p240 : 0 ≤ (x10_1 : Int) := of_decide_eq_true (by first | (with_reducible assumption) | assumption); have q240 : x10_1 < (t230.length : Int) := of_decide_eq_true (by first | (with_reducible assumption) | assumption); obtain ⟨ad240, e240, hx240_0, hx240_1⟩ := at_T32 (Kd.R_reads' HO_8.out).2.2 x10_1 p240 q240; obtain rfl : ad239 = ad240 := (by injection e240); replace p240 := eq_true p240; replace q240 := eq_true q240)); try go_wp2_with (first | (go_at_call 21; (with_reducible refine (extent_Find.calls kj10 _ _ l0 x12_1 t236 t237 true _ ?side1 ?side2 A14.out).mono ?_); (case side1 => repeat (first | exact (Kd.C_below HR0.out HB.out) | (with_reducible refine Kd.C_alloc ?_ _) | (with_reducible refine Kd.C_drewN ?_ _) | (with_reducible refine Kd.C_drew ?_))); (case side2 => exact HC0.out); rintro e w24 ⟨rfl, hb⟩; have n0_ := Aside0.mk (Kd.R_below (by (with_reducible repeat (first | apply Kd.R_alloc | apply Kd.R_drewN | apply Kd.R_drew)); exact HO_8.out) hb); have n1_ := Aside0.mk (below_step (by repeat (first | (with_reducible first | exact HB.out | apply below_alloc | apply pw_below_drewN | apply below_drew1) | exact HB.out)) hb); clear HO_8; clear HB; have HO_8 := n0_; have HB := n1_; clear n0_ n1_; (try clear hb); (try clear hb2); (try clear hk); (try clear hi); obtain ⟨Ao25, co25, eo25⟩ := Kd.R_slice HO_8.out; subst eo25; have p239 : 0 ≤ (x10_1 : Int) := of_decide_eq_true (by first | (with_reducible assumption) | assumption); have q239 : x10_1 < (t230.length : Int) := of_decide_eq_true (by first | (with_reducible assumption) | assumption); obtain ⟨ad239, e239, hx239_0, hx239_1⟩ := at_T32 (Kd.R_reads' HO_8.out).2.2 x10_1 p239 q239; cases e239; replace p239 := eq_true p239; replace q239 := eq_true q239; have p240 : 0 ≤ (x10_1 : Int) := of_decide_eq_true (by first | (with_reducible assumption) | assumption); have q240 : x10_1 < (t230.length : Int) := of_decide_eq_true (by first | (with_reducible assumption) | assumption); obtain ⟨ad240, e240, hx240_0, hx240_1⟩ := at_T32 (Kd.R_reads' HO_8.out).2.2 x10_1 p240 q240; obtain rfl : ad239 = ad240 := (by injection e240); replace p240 := eq_true p240; replace q240 := eq_true q240)))
               go_ret
               exact ⟨by first | rfl | (simp [errW_none, errW_some] <;> rfl) | (simp only [← hji8]; first | rfl | (simp [errW_none, errW_some] <;> rfl)) | (simp [*, errW_none, errW_some] <;> rfl), by repeat (first | (with_reducible first | exact HB.out | apply below_alloc | apply pw_below_drewN | apply below_drew1) | exact HB.out)⟩
              ·rw [if_neg c23] at H
               have c23b0 : decide (((rd_T32 t230 x10_1).f1) < 1) = false := decide_eq_false c23
               clear c23
               have H' := Aside0.mk H
               clear H
               go_wp2_with (first | (go_at_call 21; (with_reducible refine (extent_Find.calls kj10 _ _ l0 x12_1 t236 t237 true _ ?side1 ?side2 A14.out).mono ?_); (case side1 => repeat (first | exact (Kd.C_below HR0.out HB.out) | (with_reducible refine Kd.C_alloc ?_ _) | (with_reducible refine Kd.C_drewN ?_ _) | (with_reducible refine Kd.C_drew ?_))); (case side2 => exact HC0.out); rintro e w26 ⟨rfl, hb⟩; have n0_ := Aside0.mk (Kd.R_below (by (with_reducible repeat (first | apply Kd.R_alloc | apply Kd.R_drewN | apply Kd.R_drew)); exact HO_8.out) hb); have n1_ := Aside0.mk (below_step (by repeat (first | (with_reducible first | exact HB.out | apply below_alloc | apply pw_below_drewN | apply below_drew1) | exact HB.out)) hb); clear HO_8; clear HB; have HO_8 := n0_; have HB := n1_; clear n0_ n1_; (try clear hb); (try clear hb2); (try clear hk); (try clear hi); obtain ⟨Ao27, co27, eo27⟩ := Kd.R_slice HO_8.out; subst eo27; have p239 : 0 ≤ (x10_1 : Int) := of_decide_eq_true (by first | (with_reducible assumption) | assumption); have q239 : x10_1 < (t230.length : Int) := of_decide_eq_true (by first | (with_reducible assumption) | assumption); obtain ⟨ad239, e239, hx239_0, hx239_1⟩ := at_T32 (Kd.R_reads' HO_8.out).2.2 x10_1 p239 q239; cases e239; replace p239 := eq_true p239; replace q239 := eq_true q239; have p240 : 0 ≤ (x10_1 : Int) := of_decide_eq_true (by first | (with_reducible assumption) | assumption); have q240 : x10_1 < (t230.length : Int) := of_decide_eq_true (by first | (with_reducible assumption) | assumption); obtain ⟨ad240, e240, hx240_0, hx240_1⟩ := at_T32 (Kd.R_reads' HO_8.out).2.2 x10_1 p240 q240; obtain rfl : ad239 = ad240 := (by injection e240); replace p240 := eq_true p240; replace q240 := eq_true q240; have p241 : 0 ≤ (x10_1 : Int) := of_decide_eq_true (by first | (with_reducible assumption) | assumption); have q241 : x10_1 < (t230.length : Int) := of_decide_eq_true (by first | (with_reducible assumption) | assumption); obtain ⟨ad241, e241, hx241_0, hx241_1⟩ := at_T32 (Kd.R_reads' HO_8.out).2.2 x10_1 p241 q241; obtain rfl : ad239 = ad241 := (by injection e241); replace p241 := eq_true p241; replace q241 := eq_true q241))
               repeat (go_quiet (first | (go_at_call 21; (with_reducible refine (extent_Find.calls kj10 _ _ l0 x12_1 t236 t237 true _ ?side1 ?side2 A14.out).mono ?_); (case side1 => repeat (first | exact (Kd.C_below HR0.out HB.out) | (with_reducible refine Kd.C_alloc ?_ _) | (with_reducible refine Kd.C_drewN ?_ _) | (with_reducible refine Kd.C_drew ?_))); (case side2 => exact HC0.out); rintro e w26 ⟨rfl, hb⟩; have n0_ := Aside0.mk (Kd.R_below (by (with_reducible repeat (first | apply Kd.R_alloc | apply Kd.R_drewN | apply Kd.R_drew)); exact HO_8.out) hb); have n1_ := Aside0.mk (below_step (by repeat (first | (with_reducible first | exact HB.out | apply below_alloc | apply pw_below_drewN | apply below_drew1) | exact HB.out)) hb); clear HO_8; clear HB; have HO_8 := n0_; have HB := n1_; clear n0_ n1_; (try clear hb); (try clear hb2); (try clear hk); (try clear hi); obtain ⟨Ao27, co27, eo27⟩ := Kd.R_slice HO_8.out; subst eo27; have p239 : 0 ≤ (x10_1 : Int) := of_decide_eq_true (by first | (with_reducible assumption) | assumption); have q239 : x10_1 < (t230.length : Int) := of_decide_eq_true (by first | (with_reducible assumption) | assumption); obtain ⟨ad239, e239, hx239_0, hx239_1⟩ := at_T32 (Kd.R_reads' HO_8.out).2.2 x10_1 p239 q239; cases e239; replace p239 := eq_true p239; replace q239 := eq_true q239; have p240 : 0 ≤ (x10_1 : Int) := of_decide_eq_true (by first | (with_reducible assumption) | assumption); have q240 : x10_1 < (t230.length : Int) := of_decide_eq_true (by first | (with_reducible assumption) | assumption); obtain ⟨ad240, e240, hx240_0, hx240_1⟩ := at_T32 (Kd.R_reads' HO_8.out).2.2 x10_1 p240 q240; obtain rfl : ad239 = ad240 := (by injection e240); replace p240 := eq_true p240; replace q240 := eq_true q240; have p241 : 0 ≤ (x10_1 : Int) := of_decide_eq_true (by first | (with_reducible assumption) | assumption); have q241 : x10_1 < (t230.length : Int) := of_decide_eq_true (by first | (with_reducible assumption) | assumption); obtain ⟨ad241, e241, hx241_0, hx241_1⟩ := at_T32 (Kd.R_reads' HO_8.out).2.2 x10_1 p241 q241; obtain rfl : ad239 = ad241 := (by injection e241); replace p241 := eq_true p241; replace q241 := eq_true q241)); try go_wp2_with (first | (go_at_call 21; (with_reducible refine (extent_Find.calls kj10 _ _ l0 x12_1 t236 t237 true _ ?side1 ?side2 A14.out).mono ?_); (case side1 => repeat (first | exact (Kd.C_below HR0.out HB.out) | (with_reducible refine Kd.C_alloc ?_ _) | (with_reducible refine Kd.C_drewN ?_ _) | (with_reducible refine Kd.C_drew ?_))); (case side2 => exact HC0.out); rintro e w26 ⟨rfl, hb⟩; have n0_ := Aside0.mk (Kd.R_below (by (with_reducible repeat (first | apply Kd.R_alloc | apply Kd.R_drewN | apply Kd.R_drew)); exact HO_8.out) hb); have n1_ := Aside0.mk (below_step (by repeat (first | (with_reducible first | exact HB.out | apply below_alloc | apply pw_below_drewN | apply below_drew1) | exact HB.out)) hb); clear HO_8; clear HB; have HO_8 := n0_; have HB := n1_; clear n0_ n1_; (try clear hb); (try clear hb2); (try clear hk); (try clear hi); obtain ⟨Ao27, co27, eo27⟩ := Kd.R_slice HO_8.out; subst eo27; have p239 : 0 ≤ (x10_1 : Int) := of_decide_eq_true (by first | (with_reducible assumption) | assumption); have q239 : x10_1 < (t230.length : Int) := of_decide_eq_true (by first | (with_reducible assumption) | assumption); obtain ⟨ad239, e239, hx239_0, hx239_1⟩ := at_T32 (Kd.R_reads' HO_8.out).2.2 x10_1 p239 q239; cases e239; replace p239 := eq_true p239; replace q239 := eq_true q239; have p240 : 0 ≤ (x10_1 : Int) := of_decide_eq_true (by first | (with_reducible assumption) | assumption); have q240 : x10_1 < (t230.length : Int) := of_decide_eq_true (by first | (with_reducible assumption) | assumption); obtain ⟨ad240, e240, hx240_0, hx240_1⟩ := at_T32 (Kd.R_reads' HO_8.out).2.2 x10_1 p240 q240; obtain rfl : ad239 = ad240 := (by injection e240); replace p240 := eq_true p240; replace q240 := eq_true q240; have p241 : 0 ≤ (x10_1 : Int) := of_decide_eq_true (by first | (with_reducible assumption) | assumption); have q241 : x10_1 < (t230.length : Int) := of_decide_eq_true (by first | (with_reducible assumption) | assumption); obtain ⟨ad241, e241, hx241_0, hx241_1⟩ := at_T32 (Kd.R_reads' HO_8.out).2.2 x10_1 p241 q241; obtain rfl : ad239 = ad241 := (by injection e241); replace p241 := eq_true p241; replace q241 := eq_true q241)))
               go_roundg kj10
               case measure => have := HK1.out; have := HJ10.out; omega
               case rel => exact ⟨(wrap64 (x10_1 + 1)), (wrap64 (((rd_T32 t230 x10_1).f1) - 1)), (wrap64 (x12_1 + 1)), (by first | rfl | (simp; done) | (simp [*]; done)), (by first | rfl | (simp; done) | (simp [*]; done)), (by first | rfl | (simp; done) | (simp [*]; done)), H', ⟨by have := HK1.out; have := HJ10.out; omega⟩, ⟨by (with_reducible repeat (first | apply Kd.R_alloc | apply Kd.R_drewN | apply Kd.R_drew)); exact HO_8.out⟩, ⟨by repeat (first | (with_reducible first | exact HB.out | apply below_alloc | apply pw_below_drewN | apply below_drew1) | exact HB.out)⟩⟩
             ·rw [if_neg c22] at H
              have c22b0 : (((rd_T32 t230 x10_1).f0) == t236) = false := beq_eq_false_iff_ne.mpr c22
              have c22b1 : (((rd_T32 t230 x10_1).f0) != t236) = true := bne_iff_ne.mpr c22
              obtain rfl := Option.some.inj H
              go_wp2_with (first | (go_at_call 21; (with_reducible refine (extent_Find.calls kj10 _ _ l0 x12_1 t236 t237 true _ ?side1 ?side2 A14.out).mono ?_); (case side1 => repeat (first | exact (Kd.C_below HR0.out HB.out) | (with_reducible refine Kd.C_alloc ?_ _) | (with_reducible refine Kd.C_drewN ?_ _) | (with_reducible refine Kd.C_drew ?_))); (case side2 => exact HC0.out); rintro e w28 ⟨rfl, hb⟩; have n0_ := Aside0.mk (Kd.R_below (by (with_reducible repeat (first | apply Kd.R_alloc | apply Kd.R_drewN | apply Kd.R_drew)); exact HO_8.out) hb); have n1_ := Aside0.mk (below_step (by repeat (first | (with_reducible first | exact HB.out | apply below_alloc | apply pw_below_drewN | apply below_drew1) | exact HB.out)) hb); clear HO_8; clear HB; have HO_8 := n0_; have HB := n1_; clear n0_ n1_; (try clear hb); (try clear hb2); (try clear hk); (try clear hi); obtain ⟨Ao29, co29, eo29⟩ := Kd.R_slice HO_8.out; subst eo29; have p239 : 0 ≤ (x10_1 : Int) := of_decide_eq_true (by first | (with_reducible assumption) | assumption); have q239 : x10_1 < (t230.length : Int) := of_decide_eq_true (by first | (with_reducible assumption) | assumption); obtain ⟨ad239, e239, hx239_0, hx239_1⟩ := at_T32 (Kd.R_reads' HO_8.out).2.2 x10_1 p239 q239; cases e239; replace p239 := eq_true p239; replace q239 := eq_true q239))
              repeat (go_quiet (first | (go_at_call 21; (with_reducible refine (extent_Find.calls kj10 _ _ l0 x12_1 t236 t237 true _ ?side1 ?side2 A14.out).mono ?_); (case side1 => repeat (first | exact (Kd.C_below HR0.out HB.out) | (with_reducible refine Kd.C_alloc ?_ _) | (with_reducible refine Kd.C_drewN ?_ _) | (with_reducible refine Kd.C_drew ?_))); (case side2 => exact HC0.out); rintro e w28 ⟨rfl, hb⟩; have n0_ := Aside0.mk (Kd.R_below (by (with_reducible repeat (first | apply Kd.R_alloc | apply Kd.R_drewN | apply Kd.R_drew)); exact HO_8.out) hb); have n1_ := Aside0.mk (below_step (by repeat (first | (with_reducible first | exact HB.out | apply below_alloc | apply pw_below_drewN | apply below_drew1) | exact HB.out)) hb); clear HO_8; clear HB; have HO_8 := n0_; have HB := n1_; clear n0_ n1_; (try clear hb); (try clear hb2); (try clear hk); (try clear hi); obtain ⟨Ao29, co29, eo29⟩ := Kd.R_slice HO_8.out; subst eo29; have p239 : 0 ≤ (x10_1 : Int) := of_decide_eq_true (by first | (with_reducible assumption) | assumption); have q239 : x10_1 < (t230.length : Int) := of_decide_eq_true (by first | (with_reducible assumption) | assumption); obtain ⟨ad239, e239, hx239_0, hx239_1⟩ := at_T32 (Kd.R_reads' HO_8.out).2.2 x10_1 p239 q239; cases e239; replace p239 := eq_true p239; replace q239 := eq_true q239)); try go_wp2_with (first | (go_at_call 21; (with_reducible refine (extent_Find.calls kj10 _ _ l0 x12_1 t236 t237 true _ ?side1 ?side2 A14.out).mono ?_); (case side1 => repeat (first | exact (Kd.C_below HR0.out HB.out) | (with_reducible refine Kd.C_alloc ?_ _) | (with_reducible refine Kd.C_drewN ?_ _) | (with_reducible refine Kd.C_drew ?_))); (case side2 => exact HC0.out); rintro e w28 ⟨rfl, hb⟩; have n0_ := Aside0.mk (Kd.R_below (by (with_reducible repeat (first | apply Kd.R_alloc | apply Kd.R_drewN | apply Kd.R_drew)); exact HO_8.out) hb); have n1_ := Aside0.mk (below_step (by repeat (first | (with_reducible first | exact HB.out | apply below_alloc | apply pw_below_drewN | apply below_drew1) | exact HB.out)) hb); clear HO_8; clear HB; have HO_8 := n0_; have HB := n1_; clear n0_ n1_; (try clear hb); (try clear hb2); (try clear hk); (try clear hi); obtain ⟨Ao29, co29, eo29⟩ := Kd.R_slice HO_8.out; subst eo29; have p239 : 0 ≤ (x10_1 : Int) := of_decide_eq_true (by first | (with_reducible assumption) | assumption); have q239 : x10_1 < (t230.length : Int) := of_decide_eq_true (by first | (with_reducible assumption) | assumption); obtain ⟨ad239, e239, hx239_0, hx239_1⟩ := at_T32 (Kd.R_reads' HO_8.out).2.2 x10_1 p239 q239; cases e239; replace p239 := eq_true p239; replace q239 := eq_true q239)))
              go_ret
              exact ⟨by first | rfl | (simp [errW_none, errW_some] <;> rfl) | (simp only [← hji8]; first | rfl | (simp [errW_none, errW_some] <;> rfl)) | (simp [*, errW_none, errW_some] <;> rfl), by repeat (first | (with_reducible first | exact HB.out | apply below_alloc | apply pw_below_drewN | apply below_drew1) | exact HB.out)⟩
            ·rw [if_neg c21] at H
             exact absurd H (by simp)
           ·rw [if_neg c20] at H
            exact absurd H (by simp)
         ·rw [if_neg c16] at H
          have c16b0 : (x11_1 == 0) = false := beq_eq_false_iff_ne.mpr c16
          have c16b1 : (x11_1 != 0) = true := bne_iff_ne.mpr c16
          obtain ⟨ji30, hji30⟩ : ∃ j_ : Int, (wrap64 (x10_1 - 1)) = j_ := ⟨_, rfl⟩
          replace H : (if 0 ≤ (ji30) then (if (ji30) < (t230.length : Int) then (if t236 = (wrap64 ((wrap64 (((rd_T32 t230 (ji30)).f0) + ((rd_T32 t230 (ji30)).f1))) - x11_1)) then (undercroftlaw10_ExtentGiven.l0 kj10 l0 a2 t230 x10_1 (wrap64 (x11_1 - 1)) (wrap64 (x12_1 + 1))) else (some false)) else (none)) else (none)) = some r := by first | (rw [hji30] at H; exact H) | (simp only [hji30] at H ⊢; exact H)
          (try rw [hji30] at A14)
          have hji30w : (IntKind.i64.wrap (x10_1 - 1)) = ji30 := (i64_w _).trans hji30
          (try rw [hji30] at c7b0)
          (try rw [hji30] at c7b1)
          (try rw [hji30] at c16b0)
          (try rw [hji30] at c16b1)
          by_cases c31 : 0 ≤ (ji30)
          ·rw [if_pos c31] at H
           have c31b0 : decide (0 ≤ (ji30)) = true := decide_eq_true c31
           clear c31
           by_cases c32 : (ji30) < (t230.length : Int)
           ·rw [if_pos c32] at H
            have c32b0 : decide ((ji30) < (t230.length : Int)) = true := decide_eq_true c32
            clear c32
            by_cases c33 : t236 = (wrap64 ((wrap64 (((rd_T32 t230 (ji30)).f0) + ((rd_T32 t230 (ji30)).f1))) - x11_1))
            ·rw [if_pos c33] at H
             have c33b0 : (t236 == (wrap64 ((wrap64 (((rd_T32 t230 (ji30)).f0) + ((rd_T32 t230 (ji30)).f1))) - x11_1))) = true := beq_iff_eq.mpr c33
             have c33b1 : (t236 != (wrap64 ((wrap64 (((rd_T32 t230 (ji30)).f0) + ((rd_T32 t230 (ji30)).f1))) - x11_1))) = false := bne_eq_false_iff_eq.mpr c33
             clear c33
             have H' := Aside0.mk H
             clear H
             go_wp2_with (first | (go_at_call 21; (with_reducible refine (extent_Find.calls kj10 _ _ l0 x12_1 t236 t237 true _ ?side1 ?side2 A14.out).mono ?_); (case side1 => repeat (first | exact (Kd.C_below HR0.out HB.out) | (with_reducible refine Kd.C_alloc ?_ _) | (with_reducible refine Kd.C_drewN ?_ _) | (with_reducible refine Kd.C_drew ?_))); (case side2 => exact HC0.out); rintro e w34 ⟨rfl, hb⟩; have n0_ := Aside0.mk (Kd.R_below (by (with_reducible repeat (first | apply Kd.R_alloc | apply Kd.R_drewN | apply Kd.R_drew)); exact HO_8.out) hb); have n1_ := Aside0.mk (below_step (by repeat (first | (with_reducible first | exact HB.out | apply below_alloc | apply pw_below_drewN | apply below_drew1) | exact HB.out)) hb); clear HO_8; clear HB; have HO_8 := n0_; have HB := n1_; clear n0_ n1_; (try clear hb); (try clear hb2); (try clear hk); (try clear hi); obtain ⟨Ao35, co35, eo35⟩ := Kd.R_slice HO_8.out; subst eo35; have p242 : 0 ≤ ((ji30) : Int) := of_decide_eq_true (by first | (with_reducible assumption) | assumption); have q242 : (ji30) < (t230.length : Int) := of_decide_eq_true (by first | (with_reducible assumption) | assumption); obtain ⟨ad242, e242, hx242_0, hx242_1⟩ := at_T32 (Kd.R_reads' HO_8.out).2.2 (ji30) p242 q242; cases e242; replace p242 := eq_true p242; replace q242 := eq_true q242; have p243 : 0 ≤ ((ji30) : Int) := of_decide_eq_true (by first | (with_reducible assumption) | assumption); have q243 : (ji30) < (t230.length : Int) := of_decide_eq_true (by first | (with_reducible assumption) | assumption); obtain ⟨ad243, e243, hx243_0, hx243_1⟩ := at_T32 (Kd.R_reads' HO_8.out).2.2 (ji30) p243 q243; obtain rfl : ad242 = ad243 := (by injection e243); replace p243 := eq_true p243; replace q243 := eq_true q243))
             repeat (go_quiet (first | (go_at_call 21; (with_reducible refine (extent_Find.calls kj10 _ _ l0 x12_1 t236 t237 true _ ?side1 ?side2 A14.out).mono ?_); (case side1 => repeat (first | exact (Kd.C_below HR0.out HB.out) | (with_reducible refine Kd.C_alloc ?_ _) | (with_reducible refine Kd.C_drewN ?_ _) | (with_reducible refine Kd.C_drew ?_))); (case side2 => exact HC0.out); rintro e w34 ⟨rfl, hb⟩; have n0_ := Aside0.mk (Kd.R_below (by (with_reducible repeat (first | apply Kd.R_alloc | apply Kd.R_drewN | apply Kd.R_drew)); exact HO_8.out) hb); have n1_ := Aside0.mk (below_step (by repeat (first | (with_reducible first | exact HB.out | apply below_alloc | apply pw_below_drewN | apply below_drew1) | exact HB.out)) hb); clear HO_8; clear HB; have HO_8 := n0_; have HB := n1_; clear n0_ n1_; (try clear hb); (try clear hb2); (try clear hk); (try clear hi); obtain ⟨Ao35, co35, eo35⟩ := Kd.R_slice HO_8.out; subst eo35; have p242 : 0 ≤ ((ji30) : Int) := of_decide_eq_true (by first | (with_reducible assumption) | assumption); have q242 : (ji30) < (t230.length : Int) := of_decide_eq_true (by first | (with_reducible assumption) | assumption); obtain ⟨ad242, e242, hx242_0, hx242_1⟩ := at_T32 (Kd.R_reads' HO_8.out).2.2 (ji30) p242 q242; cases e242; replace p242 := eq_true p242; replace q242 := eq_true q242; have p243 : 0 ≤ ((ji30) : Int) := of_decide_eq_true (by first | (with_reducible assumption) | assumption); have q243 : (ji30) < (t230.length : Int) := of_decide_eq_true (by first | (with_reducible assumption) | assumption); obtain ⟨ad243, e243, hx243_0, hx243_1⟩ := at_T32 (Kd.R_reads' HO_8.out).2.2 (ji30) p243 q243; obtain rfl : ad242 = ad243 := (by injection e243); replace p243 := eq_true p243; replace q243 := eq_true q243)); try go_wp2_with (first | (go_at_call 21; (with_reducible refine (extent_Find.calls kj10 _ _ l0 x12_1 t236 t237 true _ ?side1 ?side2 A14.out).mono ?_); (case side1 => repeat (first | exact (Kd.C_below HR0.out HB.out) | (with_reducible refine Kd.C_alloc ?_ _) | (with_reducible refine Kd.C_drewN ?_ _) | (with_reducible refine Kd.C_drew ?_))); (case side2 => exact HC0.out); rintro e w34 ⟨rfl, hb⟩; have n0_ := Aside0.mk (Kd.R_below (by (with_reducible repeat (first | apply Kd.R_alloc | apply Kd.R_drewN | apply Kd.R_drew)); exact HO_8.out) hb); have n1_ := Aside0.mk (below_step (by repeat (first | (with_reducible first | exact HB.out | apply below_alloc | apply pw_below_drewN | apply below_drew1) | exact HB.out)) hb); clear HO_8; clear HB; have HO_8 := n0_; have HB := n1_; clear n0_ n1_; (try clear hb); (try clear hb2); (try clear hk); (try clear hi); obtain ⟨Ao35, co35, eo35⟩ := Kd.R_slice HO_8.out; subst eo35; have p242 : 0 ≤ ((ji30) : Int) := of_decide_eq_true (by first | (with_reducible assumption) | assumption); have q242 : (ji30) < (t230.length : Int) := of_decide_eq_true (by first | (with_reducible assumption) | assumption); obtain ⟨ad242, e242, hx242_0, hx242_1⟩ := at_T32 (Kd.R_reads' HO_8.out).2.2 (ji30) p242 q242; cases e242; replace p242 := eq_true p242; replace q242 := eq_true q242; have p243 : 0 ≤ ((ji30) : Int) := of_decide_eq_true (by first | (with_reducible assumption) | assumption); have q243 : (ji30) < (t230.length : Int) := of_decide_eq_true (by first | (with_reducible assumption) | assumption); obtain ⟨ad243, e243, hx243_0, hx243_1⟩ := at_T32 (Kd.R_reads' HO_8.out).2.2 (ji30) p243 q243; obtain rfl : ad242 = ad243 := (by injection e243); replace p243 := eq_true p243; replace q243 := eq_true q243)))
             go_roundg kj10
             case measure => have := HK1.out; have := HJ10.out; omega
             case rel => exact ⟨(x10_1), (wrap64 (x11_1 - 1)), (wrap64 (x12_1 + 1)), (by first | rfl | (simp; done) | (simp [*]; done)), (by first | rfl | (simp; done) | (simp [*]; done)), (by first | rfl | (simp; done) | (simp [*]; done)), H', ⟨by have := HK1.out; have := HJ10.out; omega⟩, ⟨by (with_reducible repeat (first | apply Kd.R_alloc | apply Kd.R_drewN | apply Kd.R_drew)); exact HO_8.out⟩, ⟨by repeat (first | (with_reducible first | exact HB.out | apply below_alloc | apply pw_below_drewN | apply below_drew1) | exact HB.out)⟩⟩
            ·rw [if_neg c33] at H
             have c33b0 : (t236 == (wrap64 ((wrap64 (((rd_T32 t230 (ji30)).f0) + ((rd_T32 t230 (ji30)).f1))) - x11_1))) = false := beq_eq_false_iff_ne.mpr c33
             have c33b1 : (t236 != (wrap64 ((wrap64 (((rd_T32 t230 (ji30)).f0) + ((rd_T32 t230 (ji30)).f1))) - x11_1))) = true := bne_iff_ne.mpr c33
             obtain rfl := Option.some.inj H
             go_wp2_with (first | (go_at_call 21; (with_reducible refine (extent_Find.calls kj10 _ _ l0 x12_1 t236 t237 true _ ?side1 ?side2 A14.out).mono ?_); (case side1 => repeat (first | exact (Kd.C_below HR0.out HB.out) | (with_reducible refine Kd.C_alloc ?_ _) | (with_reducible refine Kd.C_drewN ?_ _) | (with_reducible refine Kd.C_drew ?_))); (case side2 => exact HC0.out); rintro e w36 ⟨rfl, hb⟩; have n0_ := Aside0.mk (Kd.R_below (by (with_reducible repeat (first | apply Kd.R_alloc | apply Kd.R_drewN | apply Kd.R_drew)); exact HO_8.out) hb); have n1_ := Aside0.mk (below_step (by repeat (first | (with_reducible first | exact HB.out | apply below_alloc | apply pw_below_drewN | apply below_drew1) | exact HB.out)) hb); clear HO_8; clear HB; have HO_8 := n0_; have HB := n1_; clear n0_ n1_; (try clear hb); (try clear hb2); (try clear hk); (try clear hi); obtain ⟨Ao37, co37, eo37⟩ := Kd.R_slice HO_8.out; subst eo37; have p242 : 0 ≤ ((ji30) : Int) := of_decide_eq_true (by first | (with_reducible assumption) | assumption); have q242 : (ji30) < (t230.length : Int) := of_decide_eq_true (by first | (with_reducible assumption) | assumption); obtain ⟨ad242, e242, hx242_0, hx242_1⟩ := at_T32 (Kd.R_reads' HO_8.out).2.2 (ji30) p242 q242; cases e242; replace p242 := eq_true p242; replace q242 := eq_true q242; have p243 : 0 ≤ ((ji30) : Int) := of_decide_eq_true (by first | (with_reducible assumption) | assumption); have q243 : (ji30) < (t230.length : Int) := of_decide_eq_true (by first | (with_reducible assumption) | assumption); obtain ⟨ad243, e243, hx243_0, hx243_1⟩ := at_T32 (Kd.R_reads' HO_8.out).2.2 (ji30) p243 q243; obtain rfl : ad242 = ad243 := (by injection e243); replace p243 := eq_true p243; replace q243 := eq_true q243))
             repeat (go_quiet (first | (go_at_call 21; (with_reducible refine (extent_Find.calls kj10 _ _ l0 x12_1 t236 t237 true _ ?side1 ?side2 A14.out).mono ?_); (case side1 => repeat (first | exact (Kd.C_below HR0.out HB.out) | (with_reducible refine Kd.C_alloc ?_ _) | (with_reducible refine Kd.C_drewN ?_ _) | (with_reducible refine Kd.C_drew ?_))); (case side2 => exact HC0.out); rintro e w36 ⟨rfl, hb⟩; have n0_ := Aside0.mk (Kd.R_below (by (with_reducible repeat (first | apply Kd.R_alloc | apply Kd.R_drewN | apply Kd.R_drew)); exact HO_8.out) hb); have n1_ := Aside0.mk (below_step (by repeat (first | (with_reducible first | exact HB.out | apply below_alloc | apply pw_below_drewN | apply below_drew1) | exact HB.out)) hb); clear HO_8; clear HB; have HO_8 := n0_; have HB := n1_; clear n0_ n1_; (try clear hb); (try clear hb2); (try clear hk); (try clear hi); obtain ⟨Ao37, co37, eo37⟩ := Kd.R_slice HO_8.out; subst eo37; have p242 : 0 ≤ ((ji30) : Int) := of_decide_eq_true (by first | (with_reducible assumption) | assumption); have q242 : (ji30) < (t230.length : Int) := of_decide_eq_true (by first | (with_reducible assumption) | assumption); obtain ⟨ad242, e242, hx242_0, hx242_1⟩ := at_T32 (Kd.R_reads' HO_8.out).2.2 (ji30) p242 q242; cases e242; replace p242 := eq_true p242; replace q242 := eq_true q242; have p243 : 0 ≤ ((ji30) : Int) := of_decide_eq_true (by first | (with_reducible assumption) | assumption); have q243 : (ji30) < (t230.length : Int) := of_decide_eq_true (by first | (with_reducible assumption) | assumption); obtain ⟨ad243, e243, hx243_0, hx243_1⟩ := at_T32 (Kd.R_reads' HO_8.out).2.2 (ji30) p243 q243; obtain rfl : ad242 = ad243 := (by injection e243); replace p243 := eq_true p243; replace q243 := eq_true q243)); try go_wp2_with (first | (go_at_call 21; (with_reducible refine (extent_Find.calls kj10 _ _ l0 x12_1 t236 t237 true _ ?side1 ?side2 A14.out).mono ?_); (case side1 => repeat (first | exact (Kd.C_below HR0.out HB.out) | (with_reducible refine Kd.C_alloc ?_ _) | (with_reducible refine Kd.C_drewN ?_ _) | (with_reducible refine Kd.C_drew ?_))); (case side2 => exact HC0.out); rintro e w36 ⟨rfl, hb⟩; have n0_ := Aside0.mk (Kd.R_below (by (with_reducible repeat (first | apply Kd.R_alloc | apply Kd.R_drewN | apply Kd.R_drew)); exact HO_8.out) hb); have n1_ := Aside0.mk (below_step (by repeat (first | (with_reducible first | exact HB.out | apply below_alloc | apply pw_below_drewN | apply below_drew1) | exact HB.out)) hb); clear HO_8; clear HB; have HO_8 := n0_; have HB := n1_; clear n0_ n1_; (try clear hb); (try clear hb2); (try clear hk); (try clear hi); obtain ⟨Ao37, co37, eo37⟩ := Kd.R_slice HO_8.out; subst eo37; have p242 : 0 ≤ ((ji30) : Int) := of_decide_eq_true (by first | (with_reducible assumption) | assumption); have q242 : (ji30) < (t230.length : Int) := of_decide_eq_true (by first | (with_reducible assumption) | assumption); obtain ⟨ad242, e242, hx242_0, hx242_1⟩ := at_T32 (Kd.R_reads' HO_8.out).2.2 (ji30) p242 q242; cases e242; replace p242 := eq_true p242; replace q242 := eq_true q242; have p243 : 0 ≤ ((ji30) : Int) := of_decide_eq_true (by first | (with_reducible assumption) | assumption); have q243 : (ji30) < (t230.length : Int) := of_decide_eq_true (by first | (with_reducible assumption) | assumption); obtain ⟨ad243, e243, hx243_0, hx243_1⟩ := at_T32 (Kd.R_reads' HO_8.out).2.2 (ji30) p243 q243; obtain rfl : ad242 = ad243 := (by injection e243); replace p243 := eq_true p243; replace q243 := eq_true q243)))
             go_ret
             exact ⟨by first | rfl | (simp [errW_none, errW_some] <;> rfl) | (simp only [← hji8, ← hji30]; first | rfl | (simp [errW_none, errW_some] <;> rfl)) | (simp [*, errW_none, errW_some] <;> rfl), by repeat (first | (with_reducible first | exact HB.out | apply below_alloc | apply pw_below_drewN | apply below_drew1) | exact HB.out)⟩
           ·rw [if_neg c32] at H
            exact absurd H (by simp)
          ·rw [if_neg c31] at H
           exact absurd H (by simp)
        ·replace c15 := Bool.eq_false_iff.mpr c15
         subst c15
         have H1 : (undercroftlaw10_ExtentGiven.l0 kj10 l0 a2 t230 x10_1 x11_1 (wrap64 (x12_1 + 1))) = some r := by rw [if_neg (show ¬ (false = true) by decide)] at H; exact H
         clear H;have H := H1;clear H1
         have H' := Aside0.mk H
         clear H
         go_wp2_with (first | (go_at_call 21; (with_reducible refine (extent_Find.calls kj10 _ _ l0 x12_1 t236 t237 false _ ?side1 ?side2 A14.out).mono ?_); (case side1 => repeat (first | exact (Kd.C_below HR0.out HB.out) | (with_reducible refine Kd.C_alloc ?_ _) | (with_reducible refine Kd.C_drewN ?_ _) | (with_reducible refine Kd.C_drew ?_))); (case side2 => exact HC0.out); rintro e w38 ⟨rfl, hb⟩; have n0_ := Aside0.mk (Kd.R_below (by (with_reducible repeat (first | apply Kd.R_alloc | apply Kd.R_drewN | apply Kd.R_drew)); exact HO_8.out) hb); have n1_ := Aside0.mk (below_step (by repeat (first | (with_reducible first | exact HB.out | apply below_alloc | apply pw_below_drewN | apply below_drew1) | exact HB.out)) hb); clear HO_8; clear HB; have HO_8 := n0_; have HB := n1_; clear n0_ n1_; (try clear hb); (try clear hb2); (try clear hk); (try clear hi)))
         repeat (go_quiet (first | (go_at_call 21; (with_reducible refine (extent_Find.calls kj10 _ _ l0 x12_1 t236 t237 false _ ?side1 ?side2 A14.out).mono ?_); (case side1 => repeat (first | exact (Kd.C_below HR0.out HB.out) | (with_reducible refine Kd.C_alloc ?_ _) | (with_reducible refine Kd.C_drewN ?_ _) | (with_reducible refine Kd.C_drew ?_))); (case side2 => exact HC0.out); rintro e w38 ⟨rfl, hb⟩; have n0_ := Aside0.mk (Kd.R_below (by (with_reducible repeat (first | apply Kd.R_alloc | apply Kd.R_drewN | apply Kd.R_drew)); exact HO_8.out) hb); have n1_ := Aside0.mk (below_step (by repeat (first | (with_reducible first | exact HB.out | apply below_alloc | apply pw_below_drewN | apply below_drew1) | exact HB.out)) hb); clear HO_8; clear HB; have HO_8 := n0_; have HB := n1_; clear n0_ n1_; (try clear hb); (try clear hb2); (try clear hk); (try clear hi))); try go_wp2_with (first | (go_at_call 21; (with_reducible refine (extent_Find.calls kj10 _ _ l0 x12_1 t236 t237 false _ ?side1 ?side2 A14.out).mono ?_); (case side1 => repeat (first | exact (Kd.C_below HR0.out HB.out) | (with_reducible refine Kd.C_alloc ?_ _) | (with_reducible refine Kd.C_drewN ?_ _) | (with_reducible refine Kd.C_drew ?_))); (case side2 => exact HC0.out); rintro e w38 ⟨rfl, hb⟩; have n0_ := Aside0.mk (Kd.R_below (by (with_reducible repeat (first | apply Kd.R_alloc | apply Kd.R_drewN | apply Kd.R_drew)); exact HO_8.out) hb); have n1_ := Aside0.mk (below_step (by repeat (first | (with_reducible first | exact HB.out | apply below_alloc | apply pw_below_drewN | apply below_drew1) | exact HB.out)) hb); clear HO_8; clear HB; have HO_8 := n0_; have HB := n1_; clear n0_ n1_; (try clear hb); (try clear hb2); (try clear hk); (try clear hi))))
         go_roundg kj10
         case measure => have := HK1.out; have := HJ10.out; omega
         case rel => exact ⟨(x10_1), (x11_1), (wrap64 (x12_1 + 1)), (by first | rfl | (simp; done) | (simp [*]; done)), (by first | rfl | (simp; done) | (simp [*]; done)), (by first | rfl | (simp; done) | (simp [*]; done)), H', ⟨by have := HK1.out; have := HJ10.out; omega⟩, ⟨by (with_reducible repeat (first | apply Kd.R_alloc | apply Kd.R_drewN | apply Kd.R_drew)); exact HO_8.out⟩, ⟨by repeat (first | (with_reducible first | exact HB.out | apply below_alloc | apply pw_below_drewN | apply below_drew1) | exact HB.out)⟩⟩
       ·replace c13 := Bool.eq_false_iff.mpr c13
        subst c13
        have H1 : (if x11_1 = 0 then (some (x10_1 == (t230.length : Int))) else (some false)) = some r := by rw [if_neg (show ¬ (false = true) by decide)] at H; exact H
        clear H;have H := H1;clear H1
        by_cases c39 : x11_1 = 0
        ·rw [if_pos c39] at H
         have c39b0 : (x11_1 == 0) = true := beq_iff_eq.mpr c39
         have c39b1 : (x11_1 != 0) = false := bne_eq_false_iff_eq.mpr c39
         clear c39;obtain rfl := Option.some.inj H
         obtain ⟨Ao40, co40, eo40⟩ := Kd.R_slice HO_8.out
         subst eo40
         go_wp2
         repeat (go_quiet (fail); try go_wp2)
         go_ret
         exact ⟨by first | rfl | (simp [errW_none, errW_some] <;> rfl) | (simp only [← hji8]; first | rfl | (simp [errW_none, errW_some] <;> rfl)) | (simp [*, errW_none, errW_some] <;> rfl), by repeat (first | (with_reducible first | exact HB.out | apply below_alloc | apply pw_below_drewN | apply below_drew1) | exact HB.out)⟩
        ·rw [if_neg c39] at H
         have c39b0 : (x11_1 == 0) = false := beq_eq_false_iff_ne.mpr c39
         have c39b1 : (x11_1 != 0) = true := bne_iff_ne.mpr c39
         obtain rfl := Option.some.inj H;go_wp2
         repeat (go_quiet (fail); try go_wp2)
         go_ret
         exact ⟨by first | rfl | (simp [errW_none, errW_some] <;> rfl) | (simp only [← hji8]; first | rfl | (simp [errW_none, errW_some] <;> rfl)) | (simp [*, errW_none, errW_some] <;> rfl), by repeat (first | (with_reducible first | exact HB.out | apply below_alloc | apply pw_below_drewN | apply below_drew1) | exact HB.out)⟩
  ·rw [if_neg c7] at H
   have c7b0 : (t231 == 0) = false := beq_eq_false_iff_ne.mpr c7
   have c7b1 : (t231 != 0) = true := bne_iff_ne.mpr c7
   obtain rfl := Option.some.inj H
   go_enter Try.func5, Try.ntmps5
   go_wp2_with (first | (go_at_call 11; (with_reducible refine (undercroftlaw10_alive.calls k  true _ A4.out).mono ?_); rintro e w41 ⟨rfl, hb⟩; have n0_ := Aside0.mk (below_step (by repeat (first | (with_reducible first | exact HB.out | apply below_alloc | apply pw_below_drewN | apply below_drew1) | exact HB.out)) hb); clear HB; have HB := n0_; clear n0_; (try clear hb); (try clear hb2); (try clear hk); (try clear hi)) | (go_at_call 13; (with_reducible refine (extent_Cut.calls k _ _ l0 a1 a2 t229 t230 t231 _ ?side1 ?side2 A6.out).mono ?_); (case side1 => repeat (first | exact (Kd.C_below HR0.out HB.out) | (with_reducible refine Kd.C_alloc ?_ _) | (with_reducible refine Kd.C_drewN ?_ _) | (with_reducible refine Kd.C_drew ?_))); (case side2 => exact HC0.out); rintro e w42 ⟨v232, v234, rfl, ho0, ho1, hb⟩; have n0_ := Aside0.mk (Kd.R_lower ho0 (below_size (by repeat (first | (with_reducible first | exact HB.out | apply below_alloc | apply pw_below_drewN | apply below_drew1) | exact HB.out)))); have n1_ := Aside0.mk (Kd.R_lower ho1 (below_size (by repeat (first | (with_reducible first | exact HB.out | apply below_alloc | apply pw_below_drewN | apply below_drew1) | exact HB.out)))); have n2_ := Aside0.mk (below_step (by repeat (first | (with_reducible first | exact HB.out | apply below_alloc | apply pw_below_drewN | apply below_drew1) | exact HB.out)) hb); clear HB; have HO233 := n0_; have HO235 := n1_; have HB := n2_; clear n0_ n1_ n2_; (try clear hb); (try clear hb2); (try clear hk); (try clear hi); (try clear ho0); (try clear ho1); obtain ⟨Ao43, co43, eo43⟩ := Kd.R_slice HO235.out; subst eo43))
   repeat (go_quiet (first | (go_at_call 11; (with_reducible refine (undercroftlaw10_alive.calls k  true _ A4.out).mono ?_); rintro e w41 ⟨rfl, hb⟩; have n0_ := Aside0.mk (below_step (by repeat (first | (with_reducible first | exact HB.out | apply below_alloc | apply pw_below_drewN | apply below_drew1) | exact HB.out)) hb); clear HB; have HB := n0_; clear n0_; (try clear hb); (try clear hb2); (try clear hk); (try clear hi)) | (go_at_call 13; (with_reducible refine (extent_Cut.calls k _ _ l0 a1 a2 t229 t230 t231 _ ?side1 ?side2 A6.out).mono ?_); (case side1 => repeat (first | exact (Kd.C_below HR0.out HB.out) | (with_reducible refine Kd.C_alloc ?_ _) | (with_reducible refine Kd.C_drewN ?_ _) | (with_reducible refine Kd.C_drew ?_))); (case side2 => exact HC0.out); rintro e w42 ⟨v232, v234, rfl, ho0, ho1, hb⟩; have n0_ := Aside0.mk (Kd.R_lower ho0 (below_size (by repeat (first | (with_reducible first | exact HB.out | apply below_alloc | apply pw_below_drewN | apply below_drew1) | exact HB.out)))); have n1_ := Aside0.mk (Kd.R_lower ho1 (below_size (by repeat (first | (with_reducible first | exact HB.out | apply below_alloc | apply pw_below_drewN | apply below_drew1) | exact HB.out)))); have n2_ := Aside0.mk (below_step (by repeat (first | (with_reducible first | exact HB.out | apply below_alloc | apply pw_below_drewN | apply below_drew1) | exact HB.out)) hb); clear HB; have HO233 := n0_; have HO235 := n1_; have HB := n2_; clear n0_ n1_ n2_; (try clear hb); (try clear hb2); (try clear hk); (try clear hi); (try clear ho0); (try clear ho1); obtain ⟨Ao43, co43, eo43⟩ := Kd.R_slice HO235.out; subst eo43)); try go_wp2_with (first | (go_at_call 11; (with_reducible refine (undercroftlaw10_alive.calls k  true _ A4.out).mono ?_); rintro e w41 ⟨rfl, hb⟩; have n0_ := Aside0.mk (below_step (by repeat (first | (with_reducible first | exact HB.out | apply below_alloc | apply pw_below_drewN | apply below_drew1) | exact HB.out)) hb); clear HB; have HB := n0_; clear n0_; (try clear hb); (try clear hb2); (try clear hk); (try clear hi)) | (go_at_call 13; (with_reducible refine (extent_Cut.calls k _ _ l0 a1 a2 t229 t230 t231 _ ?side1 ?side2 A6.out).mono ?_); (case side1 => repeat (first | exact (Kd.C_below HR0.out HB.out) | (with_reducible refine Kd.C_alloc ?_ _) | (with_reducible refine Kd.C_drewN ?_ _) | (with_reducible refine Kd.C_drew ?_))); (case side2 => exact HC0.out); rintro e w42 ⟨v232, v234, rfl, ho0, ho1, hb⟩; have n0_ := Aside0.mk (Kd.R_lower ho0 (below_size (by repeat (first | (with_reducible first | exact HB.out | apply below_alloc | apply pw_below_drewN | apply below_drew1) | exact HB.out)))); have n1_ := Aside0.mk (Kd.R_lower ho1 (below_size (by repeat (first | (with_reducible first | exact HB.out | apply below_alloc | apply pw_below_drewN | apply below_drew1) | exact HB.out)))); have n2_ := Aside0.mk (below_step (by repeat (first | (with_reducible first | exact HB.out | apply below_alloc | apply pw_below_drewN | apply below_drew1) | exact HB.out)) hb); clear HB; have HO233 := n0_; have HO235 := n1_; have HB := n2_; clear n0_ n1_ n2_; (try clear hb); (try clear hb2); (try clear hk); (try clear hi); (try clear ho0); (try clear ho1); obtain ⟨Ao43, co43, eo43⟩ := Kd.R_slice HO235.out; subst eo43)))
   go_ret
   exact ⟨by first | rfl | (simp [errW_none, errW_some] <;> rfl) | (simp [*, errW_none, errW_some] <;> rfl), by repeat (first | (with_reducible first | exact HB.out | apply below_alloc | apply pw_below_drewN | apply below_drew1) | exact HB.out)⟩
 ·replace c5 := Bool.eq_false_iff.mpr c5
  subst c5
  have H1 : (some false) = some r := by rw [if_neg (show ¬ (false = true) by decide)] at H; exact H
  clear H;have H := H1;clear H1;obtain rfl := Option.some.inj H
  go_enter Try.func5, Try.ntmps5
  go_wp2_with (first | (go_at_call 11; (with_reducible refine (undercroftlaw10_alive.calls k  false _ A4.out).mono ?_); rintro e w44 ⟨rfl, hb⟩; have n0_ := Aside0.mk (below_step (by repeat (first | (with_reducible first | exact HB.out | apply below_alloc | apply pw_below_drewN | apply below_drew1) | exact HB.out)) hb); clear HB; have HB := n0_; clear n0_; (try clear hb); (try clear hb2); (try clear hk); (try clear hi)))
  repeat (go_quiet (first | (go_at_call 11; (with_reducible refine (undercroftlaw10_alive.calls k  false _ A4.out).mono ?_); rintro e w44 ⟨rfl, hb⟩; have n0_ := Aside0.mk (below_step (by repeat (first | (with_reducible first | exact HB.out | apply below_alloc | apply pw_below_drewN | apply below_drew1) | exact HB.out)) hb); clear HB; have HB := n0_; clear n0_; (try clear hb); (try clear hb2); (try clear hk); (try clear hi))); try go_wp2_with (first | (go_at_call 11; (with_reducible refine (undercroftlaw10_alive.calls k  false _ A4.out).mono ?_); rintro e w44 ⟨rfl, hb⟩; have n0_ := Aside0.mk (below_step (by repeat (first | (with_reducible first | exact HB.out | apply below_alloc | apply pw_below_drewN | apply below_drew1) | exact HB.out)) hb); clear HB; have HB := n0_; clear n0_; (try clear hb); (try clear hb2); (try clear hk); (try clear hi))))
  go_ret
  exact ⟨by first | rfl | (simp [errW_none, errW_some] <;> rfl) | (simp [*, errW_none, errW_some] <;> rfl), by repeat (first | (with_reducible first | exact HB.out | apply below_alloc | apply pw_below_drewN | apply below_drew1) | exact HB.out)⟩
end Go.Proofs.Ytopmjjnkolfciaa.Pr
end
section
namespace Go.Proofs.Ytopmjjnkolfciaa.Pr
open Go.RowKit Go.Proofs.YtopmjjnkolfciaaW.PrintWords Go.Proofs.YtopmjjnkolfciaaW.PrintLast Go.Proofs.YtopmjjnkolfciaaW.PrintMore
set_option linter.unusedVariables false
set_option linter.unusedSimpArgs false
theorem rds {s A C : List SP} {x : SP} (h : s = A ++ x :: C) : rd_T32 s ((A.length : Nat) : Int) = x := by
  show s.getD A.length z32 = x
  rw [h, List.getD_eq_getElem?_getD, List.getElem?_append_right (Nat.le_refl _), Nat.sub_self]; rfl
theorem findX_at {l : List EX} (hc : chkB l = true) {y : Int} (h : 0 ≤ y) : findX l y = findR l y := if_pos ⟨hc, h⟩
theorem given_none {l : List EX} (hc : chkB l = true) {b : Int} {s : List SP} {K L y : Int} (h0 : 0 ≤ y) (h1 : y < b) (h2 : y < 256) (hf : (findR l y).2.2 = false) {r : Bool}
    (h : Ev (fun k => undercroftlaw10_ExtentGiven.l0 k l b s K L (y + 1)) r) : Ev (fun k => undercroftlaw10_ExtentGiven.l0 k l b s K L y) r := by
  have hw : wrap64 (y + 1) = y + 1 := w64 (by omega) (by omega)
  refine Ev.succ ?_
  simp only [undercroftlaw10_ExtentGiven.l0, if_pos h1, decide_eq_true h2]
  refine Ev.succ ?_
  simp only [undercroftlaw10_ExtentGiven.j1, if_true]
  refine Ev.bind (find_ev l y) ?_
  rw [findX_at hc h0, hf]
  simp only [Bool.false_eq_true, if_false, hw]
  exact h
theorem given_end {l : List EX} {b : Int} {s : List SP} {y : Int} (h : b ≤ y ∨ 256 ≤ y) : Ev (fun k => undercroftlaw10_ExtentGiven.l0 k l b s (s.length : Int) 0 y) true := by
  have key : Ev (fun k => undercroftlaw10_ExtentGiven.j1 k l b s (s.length : Int) 0 y false) true := by
    refine Ev.succ ?_
    simp only [undercroftlaw10_ExtentGiven.j1, Bool.false_eq_true, if_false, if_true, beq_self_eq_true]
    exact Ev.now _
  refine Ev.succ ?_
  by_cases h1 : y < b
  · simp only [undercroftlaw10_ExtentGiven.l0, if_pos h1, decide_eq_false (show ¬ y < 256 by omega)]
    exact key
  · simp only [undercroftlaw10_ExtentGiven.l0, if_neg h1]
    exact key
theorem given_start {l : List EX} (hc : chkB l = true) {b : Int} {s A C : List SP} {y d m : Int} {u : Bool} (hs : s = A ++ ⟨d, m⟩ :: C) (hn : s.length ≤ 1000) (h0 : 0 ≤ y) (h1 : y < b) (h2 : y < 256) (hf : findR l y = (d, u, true)) (hm : 1 ≤ m) (hm2 : m ≤ 256) {r : Bool}
    (h : Ev (fun k => undercroftlaw10_ExtentGiven.l0 k l b s ((A.length + 1 : Nat) : Int) (m - 1) (y + 1)) r) : Ev (fun k => undercroftlaw10_ExtentGiven.l0 k l b s (A.length : Int) 0 y) r := by
  have hw : wrap64 (y + 1) = y + 1 := w64 (by omega) (by omega)
  have hw2 : wrap64 (m - 1) = m - 1 := w64 (by omega) (by omega)
  have hl : s.length = A.length + (C.length + 1) := by rw [hs, List.length_append, List.length_cons]
  have hw3 : wrap64 ((A.length : Int) + 1) = ((A.length + 1 : Nat) : Int) := by unfold wrap64; omega
  have a1 : ¬ (A.length : Int) ≥ (s.length : Int) := by omega
  have a2 : (0 : Int) ≤ (A.length : Int) := by omega
  have a3 : (A.length : Int) < (s.length : Int) := by omega
  have a4 : ¬ m < 1 := by omega
  refine Ev.succ ?_
  simp only [undercroftlaw10_ExtentGiven.l0, if_pos h1, decide_eq_true h2]
  refine Ev.succ ?_
  simp only [undercroftlaw10_ExtentGiven.j1, if_true]
  refine Ev.bind (find_ev l y) ?_
  rw [findX_at hc h0, hf]
  simp only [if_true, if_neg a1, if_pos a2, if_pos a3, rds hs, if_neg a4, hw, hw2, hw3]
  exact h
theorem given_next {l : List EX} (hc : chkB l = true) {b : Int} {s A C : List SP} {y d d0 m L : Int} {u : Bool} (hs : s = A ++ ⟨d0, m⟩ :: C) (hn : s.length ≤ 1000) (h0 : 0 ≤ y) (h1 : y < b) (h2 : y < 256) (hf : findR l y = (d, u, true)) (hL : 1 ≤ L) (hd : d = d0 + m - L) (hd0 : 0 ≤ d0) (hd1 : d0 ≤ 1024) (hm : L ≤ m) (hm2 : m ≤ 256) {r : Bool}
    (h : Ev (fun k => undercroftlaw10_ExtentGiven.l0 k l b s ((A.length + 1 : Nat) : Int) (L - 1) (y + 1)) r) : Ev (fun k => undercroftlaw10_ExtentGiven.l0 k l b s ((A.length + 1 : Nat) : Int) L y) r := by
  have hw : wrap64 (y + 1) = y + 1 := w64 (by omega) (by omega)
  have hw2 : wrap64 (L - 1) = L - 1 := w64 (by omega) (by omega)
  have hl : s.length = A.length + (C.length + 1) := by rw [hs, List.length_append, List.length_cons]
  have hw3 : wrap64 (((A.length + 1 : Nat) : Int) - 1) = (A.length : Int) := by unfold wrap64; omega
  have hw4 : wrap64 (wrap64 (d0 + m) - L) = d := by rw [w64 (n := d0 + m) (by omega) (by omega), w64 (by omega) (by omega), hd]
  have a2 : (0 : Int) ≤ (A.length : Int) := by omega
  have a3 : (A.length : Int) < (s.length : Int) := by omega
  have a4 : ¬ L = 0 := by omega
  refine Ev.succ ?_
  simp only [undercroftlaw10_ExtentGiven.l0, if_pos h1, decide_eq_true h2]
  refine Ev.succ ?_
  simp only [undercroftlaw10_ExtentGiven.j1, if_true]
  refine Ev.bind (find_ev l y) ?_
  rw [findX_at hc h0, hf]
  simp only [if_true, if_neg a4, hw3, if_pos a2, if_pos a3, rds hs, hw, hw2, hw4]
  exact h
theorem given_gap {l : List EX} (hc : chkB l = true) {b : Int} {s : List SP} {K : Int} {r : Bool} : ∀ (n : Nat) (y : Int), 0 ≤ y → y + n ≤ b → y + n ≤ 256 → (∀ z : Int, y ≤ z → z < y + n → ∀ e ∈ l, ¬ (e.f0 ≤ z ∧ z < e.f0 + e.f2)) →
    Ev (fun k => undercroftlaw10_ExtentGiven.l0 k l b s K 0 (y + n)) r → Ev (fun k => undercroftlaw10_ExtentGiven.l0 k l b s K 0 y) r
  | 0, y, _, _, _, _, h => by simpa using h
  | n + 1, y, h0, h1, h2, hn, h => by
    have hn0 := hn y (Int.le_refl _) (by omega)
    refine given_none hc h0 (by omega) (by omega) ?_ (given_gap hc n (y + 1) (by omega) (by omega) (by omega) (fun z h3 h4 => hn z (by omega) (by omega)) ?_)
    · unfold findR
      have : l.find? (fun e => decide (e.f0 ≤ y ∧ y < e.f0 + e.f2)) = none := List.find?_eq_none.2 fun e he hd => hn0 e he (of_decide_eq_true hd)
      rw [this]
    · have : y + ((n + 1 : Nat) : Int) = y + 1 + (n : Int) := by omega
      rwa [this] at h
theorem find_in {l : List EX} (hr : Risen l) {e : EX} (he : e ∈ l) {z : Int} (h0 : 0 ≤ z) (h1 : e.f0 ≤ z) (h2 : z < e.f0 + e.f2) : findR l z = (e.f1 + (z - e.f0), !e.f3, true) := by
  obtain ⟨n, rfl⟩ : ∃ n : Nat, z = (n : Int) := ⟨z.toNat, by omega⟩
  exact findR_some hr.2 hr.1 ⟨e, he, h1, h2, rfl, rfl⟩
theorem given_run {l : List EX} (hc : chkB l = true) {b : Int} {s A C : List SP} {e : EX} (he : e ∈ l) {p q : Int} (hs : s = A ++ ⟨e.f1 + p - e.f0, q - p⟩ :: C) (hn : s.length ≤ 1000) (h0 : 0 ≤ p) (hp : e.f0 ≤ p) (hq : q ≤ e.f0 + e.f2) (hb : q ≤ b) {r : Bool}
    (h : Ev (fun k => undercroftlaw10_ExtentGiven.l0 k l b s ((A.length + 1 : Nat) : Int) 0 q) r) : ∀ (n : Nat) (y : Int), p < y → y + n = q → Ev (fun k => undercroftlaw10_ExtentGiven.l0 k l b s ((A.length + 1 : Nat) : Int) (n : Int) y) r
  | 0, y, _, hy => by
    have : y = q := by simpa using hy
    rw [this]; exact h
  | n + 1, y, h1, hy => by
    have hm := mayE_facts ((chk_risen hc).1 e he)
    have hf := find_in (chk_risen hc) he (z := y) (by omega) (by omega) (by omega)
    have e1 : ((n + 1 : Nat) : Int) - 1 = (n : Int) := by omega
    refine given_next hc hs hn (by omega) (by omega) (by omega) hf (by omega) (by omega) (by omega) (by omega) (by omega) (by omega) ?_
    rw [e1]
    exact given_run hc he hs hn h0 hp hq hb h n (y + 1) (by omega) (by omega)
theorem spans_none {C : List EX} {a b : Int} (h : ∀ e ∈ C, cutS e a b = []) : C.flatMap (fun e => cutS e a b) = [] := by
  induction C with
  | nil => rfl
  | cons e C ih => rw [List.flatMap_cons, h e List.mem_cons_self, ih fun x hx => h x (List.mem_cons_of_mem _ hx)]; rfl
theorem given_all {l : List EX} (hc : chkB l = true) {a b : Int} {s : List SP} (hs : s = l.flatMap (fun e => cutS e a b)) (ha : 0 ≤ a) : ∀ (C A : List EX), l = A ++ C → ∀ y : Int, a ≤ y → (∀ e ∈ A, e.f0 + e.f2 ≤ y) → (∀ e ∈ C, y ≤ max e.f0 a) →
    Ev (fun k => undercroftlaw10_ExtentGiven.l0 k l b s ((A.flatMap (fun e => cutS e a b)).length : Int) 0 y) true := by
  intro C
  have hr := chk_risen hc
  have hlen : s.length ≤ 1000 := by
    have := cutS_len l a b
    have := (chk_ok hc).1
    rw [hs]; omega
  have fin : ∀ (A C : List EX), l = A ++ C → ∀ y : Int, (b ≤ y ∨ 256 ≤ y) → (∀ e ∈ C, cutS e a b = []) → Ev (fun k => undercroftlaw10_ExtentGiven.l0 k l b s ((A.flatMap (fun e => cutS e a b)).length : Int) 0 y) true := by
    intro A C hl y hy hn
    have : s = A.flatMap (fun e => cutS e a b) := by rw [hs, hl, List.flatMap_append, spans_none hn, List.append_nil]
    rw [← this]
    exact given_end hy
  have gap : ∀ (A C : List EX), l = A ++ C → ∀ y : Int, a ≤ y → (∀ e ∈ l, ∀ z, y ≤ z → z < b → ¬ (e.f0 ≤ z ∧ z < e.f0 + e.f2)) → (∀ e ∈ C, cutS e a b = []) → Ev (fun k => undercroftlaw10_ExtentGiven.l0 k l b s ((A.flatMap (fun e => cutS e a b)).length : Int) 0 y) true := by
    intro A C hl y hy hg hn
    by_cases c : b ≤ y ∨ 256 ≤ y
    · exact fin A C hl y c hn
    · refine given_gap hc (min b 256 - y).toNat y (by omega) (by omega) (by omega) (fun z h1 h2 e he => hg e he z h1 (by omega)) ?_
      exact fin A C hl _ (by omega) hn
  induction C with
  | nil =>
    intro A hl y hy hA hC
    refine gap A [] hl y hy (fun e he z h1 h2 h3 => ?_) fun e he => by cases he
    rw [hl, List.append_nil] at he
    have := hA e he
    omega
  | cons e C ih =>
    intro A hl y hy hA hC
    have he : e ∈ l := by rw [hl]; simp
    have hm := mayE_facts (hr.1 e he)
    have hl2 : l = (A ++ [e]) ++ C := by rw [hl]; simp
    have hrise := hr.2
    rw [hl] at hrise
    have hp := List.pairwise_append.1 hrise
    have hpc := List.pairwise_cons.1 hp.2.1
    have hye := hC e List.mem_cons_self
    have hCl : ∀ x ∈ C, x ∈ l := fun x hx => by rw [hl]; simp [hx]
    have sp0 : ∀ A : List EX, (A ++ [e]).flatMap (fun e => cutS e a b) = A.flatMap (fun e => cutS e a b) ++ cutS e a b := fun A => by rw [List.flatMap_append, List.flatMap_cons, List.flatMap_nil, List.append_nil]
    by_cases c : max e.f0 a < min (e.f0 + e.f2) b
    ·
      obtain ⟨p, hpe⟩ : ∃ p, p = max e.f0 a := ⟨_, rfl⟩
      obtain ⟨q, hqe⟩ : ∃ q, q = min (e.f0 + e.f2) b := ⟨_, rfl⟩
      have hcs : cutS e a b = [⟨e.f1 + p - e.f0, q - p⟩] := by unfold cutS; rw [if_pos c, ← hpe, ← hqe]
      have hsp : s = A.flatMap (fun e => cutS e a b) ++ ⟨e.f1 + p - e.f0, q - p⟩ :: C.flatMap (fun e => cutS e a b) := by
        rw [hs, hl, List.flatMap_append, List.flatMap_cons, hcs]; rfl
      have hgap : Ev (fun k => undercroftlaw10_ExtentGiven.l0 k l b s ((A.flatMap (fun e => cutS e a b)).length : Int) 0 p) true → Ev (fun k => undercroftlaw10_ExtentGiven.l0 k l b s ((A.flatMap (fun e => cutS e a b)).length : Int) 0 y) true := by
        intro h
        refine given_gap hc (p - y).toNat y (by omega) (by omega) (by omega) (fun z h1 h2 x hx h3 => ?_) (by rwa [show y + ((p - y).toNat : Int) = p by omega])
        rw [hl] at hx
        rcases List.mem_append.1 hx with hx | hx
        · have := hA x hx; omega
        · rcases List.mem_cons.1 hx with rfl | hx
          · omega
          · have := hpc.1 x hx; omega
      refine hgap ?_
      have hf := find_in hr he (z := p) (by omega) (by omega) (by omega)
      have e1 : e.f1 + (p - e.f0) = e.f1 + p - e.f0 := by omega
      rw [e1] at hf
      refine given_start hc hsp hlen (by omega) (by omega) (by omega) hf (by omega) (by omega) ?_
      have hrun := given_run hc (b := b) (p := p) (q := q) he hsp hlen (by omega) (by omega) (by omega) (by omega) (r := true) ?_ (q - p - 1).toNat (p + 1) (by omega) (by omega)
      · rwa [show (((q - p - 1).toNat : Nat) : Int) = q - p - 1 by omega] at hrun
      · have hk : ((A.flatMap (fun e => cutS e a b)).length + 1) = ((A ++ [e]).flatMap (fun e => cutS e a b)).length := by rw [sp0, hcs, List.length_append]; rfl
        rw [hk]
        by_cases c2 : b ≤ q
        · refine fin (A ++ [e]) C hl2 q (Or.inl c2) fun x hx => ?_
          have h1 := hpc.1 x hx
          unfold cutS
          rw [if_neg (by omega)]
        · refine ih (A ++ [e]) hl2 q (by omega) (fun x hx => ?_) fun x hx => ?_
          · rcases List.mem_append.1 hx with hx | hx
            · have := hA x hx; omega
            · rw [List.mem_singleton.1 hx]; omega
          · have := hpc.1 x hx; omega
    · have hcs : cutS e a b = [] := by unfold cutS; rw [if_neg c]
      by_cases c1 : e.f0 + e.f2 ≤ a
      · have := ih (A ++ [e]) hl2 y hy (fun x hx => by
          rcases List.mem_append.1 hx with hx | hx
          · exact hA x hx
          · rw [List.mem_singleton.1 hx]; omega) fun x hx => hC x (List.mem_cons_of_mem _ hx)
        rw [sp0, hcs, List.append_nil] at this
        exact this
      · refine gap A (e :: C) hl y hy (fun x hx z h1 h2 h3 => ?_) fun x hx => ?_
        · rw [hl] at hx
          rcases List.mem_append.1 hx with hx | hx
          · have := hA x hx; omega
          · rcases List.mem_cons.1 hx with rfl | hx
            · omega
            · have := hpc.1 x hx; omega
        · rcases List.mem_cons.1 hx with rfl | hx
          · exact hcs
          · have := hpc.1 x hx
            unfold cutS
            rw [if_neg (by omega)]
theorem ExtentGiven (l : List EX) (a b : Int) : ∃ k, undercroftlaw10_ExtentGiven.f k l a b = some true := by
  refine Ev.rounds ?_
  unfold undercroftlaw10_ExtentGiven.f
  refine Ev.bind alive_ev ?_
  simp only [if_true]
  refine Ev.bind (cut_ev l a b) ?_
  unfold cutX
  by_cases h : chkB l = true ∧ 0 ≤ a ∧ a ≤ b
  · rw [if_pos h]
    unfold cutR
    by_cases h2 : (fitL (mergeL (leftL l a b))).2 = 0
    · rw [if_pos h2]
      simp only [if_true]
      have e1 : mx a 0 = a := by unfold mx; omega
      rw [e1, spansL_eq (chk_risen h.1).1]
      have := given_all h.1 (a := a) (b := b) rfl h.2.1 l [] rfl a (Int.le_refl _) (fun e he => by cases he) (fun e he => by omega)
      exact this
    · rw [if_neg h2]
      simp only [if_neg h2]
      exact Ev.now _
  · rw [if_neg h]
    simp only [if_neg (show ¬ ((1 : Int) = 0) by decide)]
    exact Ev.now _
end Go.Proofs.Ytopmjjnkolfciaa.Pr
end
section
namespace Go.Proofs.Ytopmjjnkolfciaa.extentGiven
open Go.ChangeShapes Go.WideShapes Go.ChangeAt Go.RowKit Go.Proofs.YtopmjjnkolfciaaW.PrintWords Go.Proofs.Ytopmjjnkolfciaa.Pr Go.Proofs.Ytopmjjnkolfciaa.Op Go.Joins
open Go.ChangeMaps (open_string shut_string)
set_option linter.unusedVariables false
theorem own : ownKnob Try.prog.godebug = none := by kernel_rfl
theorem laidOut : laidOutB Try.prog = true := by kernel_rfl
set_option maxRecDepth 100000 in
theorem contract (H : Type) (enc : TypeId × Value → H) (W : World) (base : Nat) (args : Array Value) (ds gs : List (DataW H)) (before : List MemPlace)
    (hval : ∀ (j : Nat) t v, Try.f5.params[j]? = some t → args[j]? = some v → Value.okWide Try.prog W .any base t v)
    (hW : DataW.Whole enc Try.prog Try.f5.params.toList Rows.extentGivenSpec.vars false W args.toList ds gs before)
    (hsz : (DataW.weightsEach Try.prog (Try.f5.params.toList ++ Rows.extentGivenSpec.plain.varTypes Try.prog) (ds ++ gs)).all (· ≤ reachBytes) = true) :
    Calls Try.prog 5 args W fun e W' => ∃ v, e = .returned v ∧ Rows.extentGivenSpec.post enc Try.prog Try.f5 false true false false W args v W' := by
  have hW' := hW
  obtain ⟨p, q, hA0, hV, rfl, hfz, hnd⟩ := hW
  have hA : DataW.TrodAll enc Try.prog W 0 (fun _ => true) true Try.f5.params.toList args.toList ds p := hA0
  rw [Try.params5] at hA hval hsz
  obtain ⟨v0, vs0, d0, ds0, p0, q0, hargs, rfl, rfl, h0, r0⟩ := trodAll_cons hA
  obtain ⟨v1, vs1, d1, ds1, p1, q1, rfl, rfl, rfl, h1, r1⟩ := trodAll_cons r0
  obtain ⟨v2, vs2, d2, ds2, p2, q2, rfl, rfl, rfl, h2, r2⟩ := trodAll_cons r1
  obtain ⟨rfl, rfl, rfl⟩ := trodAll_nil r2
  obtain rfl : args = #[v0, v1, v2] := by cases args; simp_all
  obtain ⟨rfl, rfl⟩ := trodVars_none hV
  have lt0 : ∀ x ∈ p0, x.block < W.heap.size := by obtain ⟨m, hm⟩ := h0; exact DataW.trod_lt m _ _ _ hm
  have k0 := h0
  obtain ⟨A0, l0, c0, rfl, hc0, hr0, hs0⟩ := arg_slice Try.underlying22 Pr.o24 (hval 0 22 v0 rfl rfl) h0 hsz (j := 0) (t := 22) rfl rfl
  have lt1 : ∀ x ∈ p1, x.block < W.heap.size := by obtain ⟨m, hm⟩ := h1; exact DataW.trod_lt m _ _ _ hm
  have k1 := h1
  obtain ⟨a1, rfl, rfl, rfl, w1⟩ := open_int Try.underlying3 (hval 1 3 v1 rfl rfl) h1
  have b1 := bounds_i64 w1
  have lt2 : ∀ x ∈ p2, x.block < W.heap.size := by obtain ⟨m, hm⟩ := h2; exact DataW.trod_lt m _ _ _ hm
  have k2 := h2
  obtain ⟨a2, rfl, rfl, rfl, w2⟩ := open_int Try.underlying3 (hval 2 3 v2 rfl rfl) h2
  have b2 := bounds_i64 w2
  clear hA0
  obtain ⟨k, hk⟩ := Pr.ExtentGiven l0 a1 a2
  refine (undercroftlaw10_ExtentGiven.calls k A0 c0 l0 a1 a2 true W hr0 hc0 hk).mono fun e W' ⟨he, bel⟩ => ?_
  subst he
  exact ⟨_, rfl, _, _, _, [], _, [], hW', trodAll_mk1 (shut_bool Try.underlying4 _), (trodAll_cons_mk (Below.trod laidOut (by kernel_rfl) (of_decide_eq_true (by kernel_rfl)) k0 bel lt0) (trodAll_cons_mk (Below.trod laidOut (by kernel_rfl) (of_decide_eq_true (by kernel_rfl)) k1 bel lt1) (trodAll_cons_mk (Below.trod laidOut (by kernel_rfl) (of_decide_eq_true (by kernel_rfl)) k2 bel lt2) trodAll_mk0))), rfl, bel.frame _, fun h => by cases h⟩
set_option maxRecDepth 100000 in
theorem lifted (os : Os) (started : os.Started) (H : Type) (enc : TypeId × Value → H) :
    ReturnsInHanded {} Try.checked os 5 .any (Rows.extentGivenSpec.pre6 enc Try.prog Try.f5 Rows.extentGivenRow.domain false) (Rows.extentGivenSpec.post enc Try.prog Try.f5 false true false false) := by
  refine returnsInHanded_of_change_sized (C := Try.checked) own started (by kernel_rfl) Try.func5
    (ChangeSpec.witness6 (enc := enc) (C := Try.checked) false ⟨#[], #[.slice none 0 0, .int .i64 0, .int .i64 0], []⟩ 8 (by kernel_rfl) (by kernel_rfl) (by kernel_rfl) (by kernel_rfl)) ?_
  intro W base args ds gs before hval hW _ hsz _
  exact contract H enc W base args ds gs before hval hW hsz
theorem over : Rows.extentGivenRow.holds Try.pinned (OpenSpec.ofChange Rows.extentGivenSpec) :=
  OpenClaim.holds_of_wide 5 Try.f5 rfl rfl rfl rfl rfl rfl rfl ⟨rfl, rfl, rfl, rfl, rfl⟩ rfl rfl rfl rfl rfl (by kernel_rfl) Try.func5 (by kernel_rfl)
    (of_decide_eq_true (by kernel_rfl)) (by unfold Func.isWrapper; first | (rw [if_pos (by decide +kernel)]; kernel_rfl) | (rw [if_neg (by decide +kernel)]; exact ⟨rfl, rfl⟩))
    (fun os started H enc _ => lifted os started H enc)
theorem proved : Rows.ExtentGivenSaid := over
end Go.Proofs.Ytopmjjnkolfciaa.extentGiven
namespace Go.Proofs.Ytopmjjnkolfciaa
theorem extentGiven_holds : Rows.ExtentGivenSaid := extentGiven.proved
end Go.Proofs.Ytopmjjnkolfciaa
end
