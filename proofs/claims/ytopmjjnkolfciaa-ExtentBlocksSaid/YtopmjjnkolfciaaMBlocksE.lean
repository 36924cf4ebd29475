/- MBlocks: this session's texts for the one law, put together (part 5 of 6): what its program computes, function by function, and that this answers true; the row stands at the end of the last part. Conditions: those that each theorem names; the last theorem has none. -/
import Derived.Test.YtopmjjnkolfciaaMBlocksD
section
namespace Go.Proofs.Ytopmjjnkolfciaa.Pr
open Go.RowKit Go.Proofs.YtopmjjnkolfciaaW.PrintWords Go.Proofs.YtopmjjnkolfciaaW.PrintLast Go.Proofs.YtopmjjnkolfciaaW.PrintMore
attribute [local go_sem] max2_int min2_int max_two min_two max_three min_three max_four min_four
attribute [local go_sem] Go.Proofs.Ytopmjjnkolfciaa.Hl.str_geq Go.Proofs.Ytopmjjnkolfciaa.Hl.str_gtr Go.Proofs.Ytopmjjnkolfciaa.Hl.str_leq
set_option linter.unusedVariables false
set_option linter.unusedSimpArgs false
attribute [local go_sem high] eqA24 eqA32
def undercroftlaw10_alive.f (k : Nat)  : Option (Bool) := (extent_Put.f k (([(⟨2, 52, 3, false⟩ : S24)] : List (S24))) 0 50 2 false).bind fun bt142 => ((extent_Cut.f k bt142.1 1 3).bind fun bt146 => (if bt142.2 = 0 then (if (bt142.1.length : Int) = 1 then (if 0 < (bt142.1.length : Int) then (if (((rd_T24 bt142.1 0).f0) == 0 && (((rd_T24 bt142.1 0).f1) == 50 && (((rd_T24 bt142.1 0).f2) == 5 && (!((rd_T24 bt142.1 0).f3))))) = true then (if bt146.2.2 = 0 then (if (bt146.1.length : Int) = 2 then (if 1 < (bt146.1.length : Int) then (if (((rd_T24 bt146.1 1).f0) == 3 && (((rd_T24 bt146.1 1).f1) == 53 && (((rd_T24 bt146.1 1).f2) == 2 && (!((rd_T24 bt146.1 1).f3))))) = true then (if (bt146.2.1.length : Int) = 1 then (if 0 < (bt146.2.1.length : Int) then (some (((rd_T32 bt146.2.1 0).f0) == 51 && (((rd_T32 bt146.2.1 0).f1) == 2))) else (none)) else (some false)) else (some false)) else (none)) else (some false)) else (some false)) else (some false)) else (none)) else (some false)) else (some false)))
set_option maxHeartbeats 8000000 in
set_option maxRecDepth 100000 in
theorem undercroftlaw10_alive.calls (k : Nat)  (r : Bool) (w : World) (h : undercroftlaw10_alive.f k  = some r) :
  Calls Try.prog 11 #[] w fun e w' => e = .returned (.bool r) ∧ Below w.heap.size w w' := by
 have hu24 := Try.underlying24
 have hu32 := Try.underlying32
 have HB := Aside0.mk (Below.refl w.heap.size w)
 have H : ((extent_Put.f k (([(⟨2, 52, 3, false⟩ : S24)] : List (S24))) 0 50 2 false).bind fun bt142 => ((extent_Cut.f k bt142.1 1 3).bind fun bt146 => (if bt142.2 = 0 then (if (bt142.1.length : Int) = 1 then (if 0 < (bt142.1.length : Int) then (if (((rd_T24 bt142.1 0).f0) == 0 && (((rd_T24 bt142.1 0).f1) == 50 && (((rd_T24 bt142.1 0).f2) == 5 && (!((rd_T24 bt142.1 0).f3))))) = true then (if bt146.2.2 = 0 then (if (bt146.1.length : Int) = 2 then (if 1 < (bt146.1.length : Int) then (if (((rd_T24 bt146.1 1).f0) == 3 && (((rd_T24 bt146.1 1).f1) == 53 && (((rd_T24 bt146.1 1).f2) == 2 && (!((rd_T24 bt146.1 1).f3))))) = true then (if (bt146.2.1.length : Int) = 1 then (if 0 < (bt146.2.1.length : Int) then (some (((rd_T32 bt146.2.1 0).f0) == 51 && (((rd_T32 bt146.2.1 0).f1) == 2))) else (none)) else (some false)) else (some false)) else (none)) else (some false)) else (some false)) else (some false)) else (none)) else (some false)) else (some false)))) = some r := h
 clear h
 obtain ⟨y139, hy139⟩ : ∃ y_ : List (S24), y_ = (([(⟨2, 52, 3, false⟩ : S24)] : List (S24))) := ⟨_, rfl⟩
 replace H : ((extent_Put.f k y139 0 50 2 false).bind fun bt142 => ((extent_Cut.f k bt142.1 1 3).bind fun bt146 => (if bt142.2 = 0 then (if (bt142.1.length : Int) = 1 then (if 0 < (bt142.1.length : Int) then (if (((rd_T24 bt142.1 0).f0) == 0 && (((rd_T24 bt142.1 0).f1) == 50 && (((rd_T24 bt142.1 0).f2) == 5 && (!((rd_T24 bt142.1 0).f3))))) = true then (if bt146.2.2 = 0 then (if (bt146.1.length : Int) = 2 then (if 1 < (bt146.1.length : Int) then (if (((rd_T24 bt146.1 1).f0) == 3 && (((rd_T24 bt146.1 1).f1) == 53 && (((rd_T24 bt146.1 1).f2) == 2 && (!((rd_T24 bt146.1 1).f3))))) = true then (if (bt146.2.1.length : Int) = 1 then (if 0 < (bt146.2.1.length : Int) then (some (((rd_T32 bt146.2.1 0).f0) == 51 && (((rd_T32 bt146.2.1 0).f1) == 2))) else (none)) else (some false)) else (some false)) else (none)) else (some false)) else (some false)) else (some false)) else (none)) else (some false)) else (some false)))) = some r := by first | (rw [hy139]; with_reducible exact H) | (have H2_ := (Option.bind_some _ _).symm.trans H; rw [hy139]; with_reducible exact H2_) | (have H2_ := (Option.bind_some _ _).symm.trans H; with_reducible exact H2_) | with_reducible exact H | (rw [hy139]; exact H) | exact H
 have Ny139 := Aside0.mk hy139
 clear hy139
 replace H := Option.bind_eq_some_iff.mp H
 obtain ⟨⟨t142, t145⟩, A10, H⟩ := H
 replace H : ((extent_Cut.f k t142 1 3).bind fun bt146 => (if t145 = 0 then (if (t142.length : Int) = 1 then (if 0 < (t142.length : Int) then (if (((rd_T24 t142 0).f0) == 0 && (((rd_T24 t142 0).f1) == 50 && (((rd_T24 t142 0).f2) == 5 && (!((rd_T24 t142 0).f3))))) = true then (if bt146.2.2 = 0 then (if (bt146.1.length : Int) = 2 then (if 1 < (bt146.1.length : Int) then (if (((rd_T24 bt146.1 1).f0) == 3 && (((rd_T24 bt146.1 1).f1) == 53 && (((rd_T24 bt146.1 1).f2) == 2 && (!((rd_T24 bt146.1 1).f3))))) = true then (if (bt146.2.1.length : Int) = 1 then (if 0 < (bt146.2.1.length : Int) then (some (((rd_T32 bt146.2.1 0).f0) == 51 && (((rd_T32 bt146.2.1 0).f1) == 2))) else (none)) else (some false)) else (some false)) else (none)) else (some false)) else (some false)) else (some false)) else (none)) else (some false)) else (some false))) = some r := H
 have A1 := Aside0.mk A10
 clear A10
 replace H := Option.bind_eq_some_iff.mp H
 obtain ⟨⟨t146, t147, t148⟩, A20, H⟩ := H
 replace H : (if t145 = 0 then (if (t142.length : Int) = 1 then (if 0 < (t142.length : Int) then (if (((rd_T24 t142 0).f0) == 0 && (((rd_T24 t142 0).f1) == 50 && (((rd_T24 t142 0).f2) == 5 && (!((rd_T24 t142 0).f3))))) = true then (if t148 = 0 then (if (t146.length : Int) = 2 then (if 1 < (t146.length : Int) then (if (((rd_T24 t146 1).f0) == 3 && (((rd_T24 t146 1).f1) == 53 && (((rd_T24 t146 1).f2) == 2 && (!((rd_T24 t146 1).f3))))) = true then (if (t147.length : Int) = 1 then (if 0 < (t147.length : Int) then (some (((rd_T32 t147 0).f0) == 51 && (((rd_T32 t147 0).f1) == 2))) else (none)) else (some false)) else (some false)) else (none)) else (some false)) else (some false)) else (some false)) else (none)) else (some false)) else (some false)) = some r := H
 have A2 := Aside0.mk A20
 clear A20
 by_cases c3 : t145 = 0
 ·rw [if_pos c3] at H
  have c3b0 : (t145 == 0) = true := beq_iff_eq.mpr c3
  have c3b1 : (t145 != 0) = false := bne_eq_false_iff_eq.mpr c3
  clear c3
  by_cases c4 : (t142.length : Int) = 1
  ·rw [if_pos c4] at H
   have c4b0 : ((t142.length : Int) == 1) = true := beq_iff_eq.mpr c4
   have c4b1 : ((t142.length : Int) != 1) = false := bne_eq_false_iff_eq.mpr c4
   clear c4
   by_cases c5 : 0 < (t142.length : Int)
   ·rw [if_pos c5] at H
    have c5b0 : decide (0 < (t142.length : Int)) = true := decide_eq_true c5
    have c5b1 : decide (0 < t142.length) = true := decide_eq_true (by omega)
    clear c5
    by_cases c6 : (((rd_T24 t142 0).f0) == 0 && (((rd_T24 t142 0).f1) == 50 && (((rd_T24 t142 0).f2) == 5 && (!((rd_T24 t142 0).f3))))) = true
    ·rw [if_pos c6] at H
     have c6b0 : (((rd_T24 t142 0).f0) == 0 && (((rd_T24 t142 0).f1) == 50 && (((rd_T24 t142 0).f2) == 5 && (!((rd_T24 t142 0).f3))))) = true := c6
     (try (have c6b1 : decide (((rd_T24 t142 0).f0) = 0 && (((rd_T24 t142 0).f1) == 50 && (((rd_T24 t142 0).f2) == 5 && (!((rd_T24 t142 0).f3))))) = true := by simpa using c6))
     (try (have c6b2 : (((rd_T24 t142 0).f0) == 0 && (((rd_T24 t142 0).f1) == 50 && (((rd_T24 t142 0).f2) == 5 && (!((rd_T24 t142 0).f3))))) = true := by simpa using c6))
     clear c6
     by_cases c7 : t148 = 0
     ·rw [if_pos c7] at H
      have c7b0 : (t148 == 0) = true := beq_iff_eq.mpr c7
      have c7b1 : (t148 != 0) = false := bne_eq_false_iff_eq.mpr c7
      clear c7
      by_cases c8 : (t146.length : Int) = 2
      ·rw [if_pos c8] at H
       have c8b0 : ((t146.length : Int) == 2) = true := beq_iff_eq.mpr c8
       have c8b1 : ((t146.length : Int) != 2) = false := bne_eq_false_iff_eq.mpr c8
       clear c8
       by_cases c9 : 1 < (t146.length : Int)
       ·rw [if_pos c9] at H
        have c9b0 : decide (1 < (t146.length : Int)) = true := decide_eq_true c9
        have c9b1 : decide (1 < t146.length) = true := decide_eq_true (by omega)
        clear c9
        by_cases c10 : (((rd_T24 t146 1).f0) == 3 && (((rd_T24 t146 1).f1) == 53 && (((rd_T24 t146 1).f2) == 2 && (!((rd_T24 t146 1).f3))))) = true
        ·rw [if_pos c10] at H
         have c10b0 : (((rd_T24 t146 1).f0) == 3 && (((rd_T24 t146 1).f1) == 53 && (((rd_T24 t146 1).f2) == 2 && (!((rd_T24 t146 1).f3))))) = true := c10
         (try (have c10b1 : decide (((rd_T24 t146 1).f0) = 3 && (((rd_T24 t146 1).f1) == 53 && (((rd_T24 t146 1).f2) == 2 && (!((rd_T24 t146 1).f3))))) = true := by simpa using c10))
         (try (have c10b2 : (((rd_T24 t146 1).f0) == 3 && (((rd_T24 t146 1).f1) == 53 && (((rd_T24 t146 1).f2) == 2 && (!((rd_T24 t146 1).f3))))) = true := by simpa using c10))
         clear c10
         by_cases c11 : (t147.length : Int) = 1
         ·rw [if_pos c11] at H
          have c11b0 : ((t147.length : Int) == 1) = true := beq_iff_eq.mpr c11
          have c11b1 : ((t147.length : Int) != 1) = false := bne_eq_false_iff_eq.mpr c11
          clear c11
          by_cases c12 : 0 < (t147.length : Int)
          ·rw [if_pos c12] at H
           have c12b0 : decide (0 < (t147.length : Int)) = true := decide_eq_true c12
           have c12b1 : decide (0 < t147.length) = true := decide_eq_true (by omega)
           clear c12;obtain rfl := Option.some.inj H
           go_enter Try.func11, Try.ntmps11
           go_wp2_with (first | ((with_reducible refine gate_dst (N := 8) rfl ?_); (try (refine gate_guard (by rfl) ?_; dsimp only)); refine Kd.R_lit k24 _ 24 ?hg (N := 8) ?hd (xs := ([(⟨2, 52, 3, false⟩ : S24)] : List (S24))) (inner := [.int .i64 2, .int .i64 52, .int .i64 3, .bool false]) (ok := fun _ => True) (okp := fun _ => True) ?hr ?hp (fun _ hk => hk) trivial (Below.refl _ _) (Nat.le_refl _) (by simp) ?_; (case hd => rfl); (case hg => rfl); (case hr => first | (go_simp; done) | (go_simp; rfl)); (case hp => exact (Reps.c4 (show Kd.M k24 _ _ _ (⟨2, 52, 3, false⟩ : S24) [.int .i64 2, .int .i64 52, .int .i64 3, .bool false] from (k24_mkM _ _ _ (⟨2, 52, 3, false⟩ : S24) )) (Reps.none _ _))); intro v140 w13 ho14 hb hg_ hnew_; clear hg_ hnew_; (first | rw [← Ny139.out] at ho14 | (simp only [Int.reduceToNat] at ho14; rw [← Ny139.out] at ho14)); have n0_ := Aside0.mk (Kd.R_lower ho14 (below_size (by repeat (first | (with_reducible first | exact HB.out | apply below_alloc | apply pw_below_drewN | apply below_drew1) | exact HB.out)))); have n1_ := Aside0.mk (below_step (by repeat (first | (with_reducible first | exact HB.out | apply below_alloc | apply pw_below_drewN | apply below_drew1) | exact HB.out)) hb); clear HB; have HO141 := n0_; have HB := n1_; clear n0_ n1_; clear hb ho14; obtain ⟨Ao15, co15, eo15⟩ := Kd.R_slice HO141.out; subst eo15) | ((with_reducible refine gate_callee (f := 14) rfl ?_); refine goesL_ (some 10) rfl rfl Try.func14 (by kernel_rfl) rfl #[.slice Ao15 y139.length co15, .agg #[.int .i64 0, .int .i64 50, .int .i64 2, .bool false]] rfl (by (try simp only [List.map_toArray, List.map_cons, List.map_nil]); first | done | rfl | (simp only [List.length_drop, List.length_take]; rfl)) ?_; (with_reducible refine (extent_Put.calls k _ _ y139 0 50 2 false t142 t145 _ ?side1 ?side2 A1.out).mono ?_); (case side1 => repeat (first | exact (Kd.R_reads' HO141.out).2.2 | (with_reducible refine Kd.C_alloc ?_ _) | (with_reducible refine Kd.C_drewN ?_ _) | (with_reducible refine Kd.C_drew ?_))); (case side2 => exact (Kd.R_reads' HO141.out).2.1); rintro e w16 ⟨v143, rfl, ho0, hb⟩; refine ⟨_, rfl, ?_⟩; have n0_ := Aside0.mk (Kd.R_elder' (by (with_reducible repeat (first | apply Kd.R_alloc | apply Kd.R_drewN | apply Kd.R_drew)); exact HO141.out) (Kd.R_base ho0) hb); have n1_ := Aside0.mk (Kd.R_lower (Kd.R_new' ho0 (Kd.R_lt (by (with_reducible repeat (first | apply Kd.R_alloc | apply Kd.R_drewN | apply Kd.R_drew)); exact HO141.out))) (below_size (by repeat (first | (with_reducible first | exact HB.out | apply below_alloc | apply pw_below_drewN | apply below_drew1) | exact HB.out)))); have n2_ := Aside0.mk (below_step (by repeat (first | (with_reducible first | exact HB.out | apply below_alloc | apply pw_below_drewN | apply below_drew1) | exact HB.out)) hb); clear HO141; clear HB; have HO141 := n0_; have HO144 := n1_; have HB := n2_; clear n0_ n1_ n2_; (try clear hb); (try clear hb2); (try clear hk); (try clear hi); (try clear ho0); obtain ⟨Ao17, co17, eo17⟩ := Kd.R_slice HO144.out; subst eo17) | ((with_reducible refine gate_callee (f := 13) rfl ?_); refine goesL_ (some 15) rfl rfl Try.func13 (by kernel_rfl) rfl #[.slice Ao17 t142.length co17, .int .i64 1, .int .i64 3] rfl (by (try simp only [List.map_toArray, List.map_cons, List.map_nil]); first | done | rfl | (simp only [List.length_drop, List.length_take]; rfl)) ?_; (with_reducible refine (extent_Cut.calls k _ _ t142 1 3 t146 t147 t148 _ ?side1 ?side2 A2.out).mono ?_); (case side1 => repeat (first | exact (Kd.R_reads' HO144.out).2.2 | (with_reducible refine Kd.C_alloc ?_ _) | (with_reducible refine Kd.C_drewN ?_ _) | (with_reducible refine Kd.C_drew ?_))); (case side2 => exact (Kd.R_reads' HO144.out).2.1); rintro e w18 ⟨v149, v151, rfl, ho0, ho1, hb⟩; refine ⟨_, rfl, ?_⟩; have n0_ := Aside0.mk (Kd.R_elder' (by (with_reducible repeat (first | apply Kd.R_alloc | apply Kd.R_drewN | apply Kd.R_drew)); exact HO141.out) (Kd.R_base ho0) hb); have n1_ := Aside0.mk (Kd.R_elder' (by (with_reducible repeat (first | apply Kd.R_alloc | apply Kd.R_drewN | apply Kd.R_drew)); exact HO144.out) (Kd.R_base ho0) hb); have n2_ := Aside0.mk (Kd.R_lower (Kd.R_new' (Kd.R_new' ho0 (Kd.R_lt (by (with_reducible repeat (first | apply Kd.R_alloc | apply Kd.R_drewN | apply Kd.R_drew)); exact HO141.out))) (Kd.R_lt (by (with_reducible repeat (first | apply Kd.R_alloc | apply Kd.R_drewN | apply Kd.R_drew)); exact HO144.out))) (below_size (by repeat (first | (with_reducible first | exact HB.out | apply below_alloc | apply pw_below_drewN | apply below_drew1) | exact HB.out)))); have n3_ := Aside0.mk (Kd.R_lower ho1 (below_size (by repeat (first | (with_reducible first | exact HB.out | apply below_alloc | apply pw_below_drewN | apply below_drew1) | exact HB.out)))); have n4_ := Aside0.mk (below_step (by repeat (first | (with_reducible first | exact HB.out | apply below_alloc | apply pw_below_drewN | apply below_drew1) | exact HB.out)) hb); clear HO141; clear HO144; clear HB; have HO141 := n0_; have HO144 := n1_; have HO150 := n2_; have HO152 := n3_; have HB := n4_; clear n0_ n1_ n2_ n3_ n4_; (try clear hb); (try clear hb2); (try clear hk); (try clear hi); (try clear ho0); (try clear ho1); have p153 : 0 ≤ (0 : Int) := (by omega); have q153 : 0 < (t142.length : Int) := of_decide_eq_true (by first | (with_reducible assumption) | assumption); obtain ⟨ad153, e153, hx153_0, hx153_1, hx153_2, hx153_3⟩ := at_T24 (Kd.R_reads' HO144.out).2.2 0 p153 q153; cases e153; have qi153 : (0 < t142.length) = True := eq_true (by omega); (try rw [show ((0 : Int)).toNat = 0 from rfl] at hx153_0); (try rw [show 0 * 4 = 0 from rfl] at hx153_0); (try rw [Addr.add_zero'] at hx153_0); (try rw [show ((0 : Int)).toNat = 0 from rfl] at hx153_1); (try rw [show 0 * 4 = 0 from rfl] at hx153_1); (try rw [Addr.add_zero'] at hx153_1); (try rw [show ((0 : Int)).toNat = 0 from rfl] at hx153_2); (try rw [show 0 * 4 = 0 from rfl] at hx153_2); (try rw [Addr.add_zero'] at hx153_2); (try rw [show ((0 : Int)).toNat = 0 from rfl] at hx153_3); (try rw [show 0 * 4 = 0 from rfl] at hx153_3); (try rw [Addr.add_zero'] at hx153_3); replace p153 := eq_true p153; replace q153 := eq_true q153; obtain ⟨Ao19, co19, eo19⟩ := Kd.R_slice HO150.out; subst eo19; have p154 : 0 ≤ (1 : Int) := (by omega); have q154 : 1 < (t146.length : Int) := of_decide_eq_true (by first | (with_reducible assumption) | assumption); obtain ⟨ad154, e154, hx154_0, hx154_1, hx154_2, hx154_3⟩ := at_T24 (Kd.R_reads' HO150.out).2.2 1 p154 q154; cases e154; (try simp only [show (1 : Int).toNat = 1 from rfl, Nat.reduceMul, Nat.reduceEqDiff, Go.Addr.add, ↓reduceIte] at hx154_0); (try simp only [show (1 : Int).toNat = 1 from rfl, Nat.reduceMul, Nat.reduceEqDiff, Go.Addr.add, ↓reduceIte] at hx154_1); (try simp only [show (1 : Int).toNat = 1 from rfl, Nat.reduceMul, Nat.reduceEqDiff, Go.Addr.add, ↓reduceIte] at hx154_2); (try simp only [show (1 : Int).toNat = 1 from rfl, Nat.reduceMul, Nat.reduceEqDiff, Go.Addr.add, ↓reduceIte] at hx154_3); have qi154 : (1 < t146.length) = True := eq_true (by omega); (try rw [show ((1 : Int)).toNat = 1 from rfl] at hx154_0); (try rw [show 1 * 4 = 4 from rfl] at hx154_0); (try rw [show ((1 : Int)).toNat = 1 from rfl] at hx154_1); (try rw [show 1 * 4 = 4 from rfl] at hx154_1); (try rw [show ((1 : Int)).toNat = 1 from rfl] at hx154_2); (try rw [show 1 * 4 = 4 from rfl] at hx154_2); (try rw [show ((1 : Int)).toNat = 1 from rfl] at hx154_3); (try rw [show 1 * 4 = 4 from rfl] at hx154_3); replace p154 := eq_true p154; replace q154 := eq_true q154; obtain ⟨Ao20, co20, eo20⟩ := Kd.R_slice HO152.out; subst eo20; have p155 : 0 ≤ (0 : Int) := (by omega); have q155 : 0 < (t147.length : Int) := of_decide_eq_true (by first | (with_reducible assumption) | assumption); obtain ⟨ad155, e155, hx155_0, hx155_1⟩ := at_T32 (Kd.R_reads' HO152.out).2.2 0 p155 q155; cases e155; have qi155 : (0 < t147.length) = True := eq_true (by omega); (try rw [show ((0 : Int)).toNat = 0 from rfl] at hx155_0); (try rw [show 0 * 2 = 0 from rfl] at hx155_0); (try rw [Addr.add_zero'] at hx155_0); (try rw [show ((0 : Int)).toNat = 0 from rfl] at hx155_1); (try rw [show 0 * 2 = 0 from rfl] at hx155_1); (try rw [Addr.add_zero'] at hx155_1); replace p155 := eq_true p155; replace q155 := eq_true q155))
           go_ret
           exact ⟨by first | rfl | (simp [errW_none, errW_some] <;> rfl) | (simp [*, errW_none, errW_some] <;> rfl), by repeat (first | (with_reducible first | exact HB.out | apply below_alloc | apply pw_below_drewN | apply below_drew1) | exact HB.out)⟩
          ·rw [if_neg c12] at H
           exact absurd H (by simp)
         ·rw [if_neg c11] at H
          have c11b0 : ((t147.length : Int) == 1) = false := beq_eq_false_iff_ne.mpr c11
          have c11b1 : ((t147.length : Int) != 1) = true := bne_iff_ne.mpr c11
          obtain rfl := Option.some.inj H
          go_enter Try.func11, Try.ntmps11
          go_wp2_with (first | ((with_reducible refine gate_dst (N := 8) rfl ?_); (try (refine gate_guard (by rfl) ?_; dsimp only)); refine Kd.R_lit k24 _ 24 ?hg (N := 8) ?hd (xs := ([(⟨2, 52, 3, false⟩ : S24)] : List (S24))) (inner := [.int .i64 2, .int .i64 52, .int .i64 3, .bool false]) (ok := fun _ => True) (okp := fun _ => True) ?hr ?hp (fun _ hk => hk) trivial (Below.refl _ _) (Nat.le_refl _) (by simp) ?_; (case hd => rfl); (case hg => rfl); (case hr => first | (go_simp; done) | (go_simp; rfl)); (case hp => exact (Reps.c4 (show Kd.M k24 _ _ _ (⟨2, 52, 3, false⟩ : S24) [.int .i64 2, .int .i64 52, .int .i64 3, .bool false] from (k24_mkM _ _ _ (⟨2, 52, 3, false⟩ : S24) )) (Reps.none _ _))); intro v140 w21 ho22 hb hg_ hnew_; clear hg_ hnew_; (first | rw [← Ny139.out] at ho22 | (simp only [Int.reduceToNat] at ho22; rw [← Ny139.out] at ho22)); have n0_ := Aside0.mk (Kd.R_lower ho22 (below_size (by repeat (first | (with_reducible first | exact HB.out | apply below_alloc | apply pw_below_drewN | apply below_drew1) | exact HB.out)))); have n1_ := Aside0.mk (below_step (by repeat (first | (with_reducible first | exact HB.out | apply below_alloc | apply pw_below_drewN | apply below_drew1) | exact HB.out)) hb); clear HB; have HO141 := n0_; have HB := n1_; clear n0_ n1_; clear hb ho22; obtain ⟨Ao23, co23, eo23⟩ := Kd.R_slice HO141.out; subst eo23) | ((with_reducible refine gate_callee (f := 14) rfl ?_); refine goesL_ (some 10) rfl rfl Try.func14 (by kernel_rfl) rfl #[.slice Ao23 y139.length co23, .agg #[.int .i64 0, .int .i64 50, .int .i64 2, .bool false]] rfl (by (try simp only [List.map_toArray, List.map_cons, List.map_nil]); first | done | rfl | (simp only [List.length_drop, List.length_take]; rfl)) ?_; (with_reducible refine (extent_Put.calls k _ _ y139 0 50 2 false t142 t145 _ ?side1 ?side2 A1.out).mono ?_); (case side1 => repeat (first | exact (Kd.R_reads' HO141.out).2.2 | (with_reducible refine Kd.C_alloc ?_ _) | (with_reducible refine Kd.C_drewN ?_ _) | (with_reducible refine Kd.C_drew ?_))); (case side2 => exact (Kd.R_reads' HO141.out).2.1); rintro e w24 ⟨v143, rfl, ho0, hb⟩; refine ⟨_, rfl, ?_⟩; have n0_ := Aside0.mk (Kd.R_elder' (by (with_reducible repeat (first | apply Kd.R_alloc | apply Kd.R_drewN | apply Kd.R_drew)); exact HO141.out) (Kd.R_base ho0) hb); have n1_ := Aside0.mk (Kd.R_lower (Kd.R_new' ho0 (Kd.R_lt (by (with_reducible repeat (first | apply Kd.R_alloc | apply Kd.R_drewN | apply Kd.R_drew)); exact HO141.out))) (below_size (by repeat (first | (with_reducible first | exact HB.out | apply below_alloc | apply pw_below_drewN | apply below_drew1) | exact HB.out)))); have n2_ := Aside0.mk (below_step (by repeat (first | (with_reducible first | exact HB.out | apply below_alloc | apply pw_below_drewN | apply below_drew1) | exact HB.out)) hb); clear HO141; clear HB; have HO141 := n0_; have HO144 := n1_; have HB := n2_; clear n0_ n1_ n2_; (try clear hb); (try clear hb2); (try clear hk); (try clear hi); (try clear ho0); obtain ⟨Ao25, co25, eo25⟩ := Kd.R_slice HO144.out; subst eo25) | ((with_reducible refine gate_callee (f := 13) rfl ?_); refine goesL_ (some 15) rfl rfl Try.func13 (by kernel_rfl) rfl #[.slice Ao25 t142.length co25, .int .i64 1, .int .i64 3] rfl (by (try simp only [List.map_toArray, List.map_cons, List.map_nil]); first | done | rfl | (simp only [List.length_drop, List.length_take]; rfl)) ?_; (with_reducible refine (extent_Cut.calls k _ _ t142 1 3 t146 t147 t148 _ ?side1 ?side2 A2.out).mono ?_); (case side1 => repeat (first | exact (Kd.R_reads' HO144.out).2.2 | (with_reducible refine Kd.C_alloc ?_ _) | (with_reducible refine Kd.C_drewN ?_ _) | (with_reducible refine Kd.C_drew ?_))); (case side2 => exact (Kd.R_reads' HO144.out).2.1); rintro e w26 ⟨v149, v151, rfl, ho0, ho1, hb⟩; refine ⟨_, rfl, ?_⟩; have n0_ := Aside0.mk (Kd.R_elder' (by (with_reducible repeat (first | apply Kd.R_alloc | apply Kd.R_drewN | apply Kd.R_drew)); exact HO141.out) (Kd.R_base ho0) hb); have n1_ := Aside0.mk (Kd.R_elder' (by (with_reducible repeat (first | apply Kd.R_alloc | apply Kd.R_drewN | apply Kd.R_drew)); exact HO144.out) (Kd.R_base ho0) hb); have n2_ := Aside0.mk (Kd.R_lower (Kd.R_new' (Kd.R_new' ho0 (Kd.R_lt (by (with_reducible repeat (first | apply Kd.R_alloc | apply Kd.R_drewN | apply Kd.R_drew)); exact HO141.out))) (Kd.R_lt (by (with_reducible repeat (first | apply Kd.R_alloc | apply Kd.R_drewN | apply Kd.R_drew)); exact HO144.out))) (below_size (by repeat (first | (with_reducible first | exact HB.out | apply below_alloc | apply pw_below_drewN | apply below_drew1) | exact HB.out)))); have n3_ := Aside0.mk (Kd.R_lower ho1 (below_size (by repeat (first | (with_reducible first | exact HB.out | apply below_alloc | apply pw_below_drewN | apply below_drew1) | exact HB.out)))); have n4_ := Aside0.mk (below_step (by repeat (first | (with_reducible first | exact HB.out | apply below_alloc | apply pw_below_drewN | apply below_drew1) | exact HB.out)) hb); clear HO141; clear HO144; clear HB; have HO141 := n0_; have HO144 := n1_; have HO150 := n2_; have HO152 := n3_; have HB := n4_; clear n0_ n1_ n2_ n3_ n4_; (try clear hb); (try clear hb2); (try clear hk); (try clear hi); (try clear ho0); (try clear ho1); have p153 : 0 ≤ (0 : Int) := (by omega); have q153 : 0 < (t142.length : Int) := of_decide_eq_true (by first | (with_reducible assumption) | assumption); obtain ⟨ad153, e153, hx153_0, hx153_1, hx153_2, hx153_3⟩ := at_T24 (Kd.R_reads' HO144.out).2.2 0 p153 q153; cases e153; have qi153 : (0 < t142.length) = True := eq_true (by omega); (try rw [show ((0 : Int)).toNat = 0 from rfl] at hx153_0); (try rw [show 0 * 4 = 0 from rfl] at hx153_0); (try rw [Addr.add_zero'] at hx153_0); (try rw [show ((0 : Int)).toNat = 0 from rfl] at hx153_1); (try rw [show 0 * 4 = 0 from rfl] at hx153_1); (try rw [Addr.add_zero'] at hx153_1); (try rw [show ((0 : Int)).toNat = 0 from rfl] at hx153_2); (try rw [show 0 * 4 = 0 from rfl] at hx153_2); (try rw [Addr.add_zero'] at hx153_2); (try rw [show ((0 : Int)).toNat = 0 from rfl] at hx153_3); (try rw [show 0 * 4 = 0 from rfl] at hx153_3); (try rw [Addr.add_zero'] at hx153_3); replace p153 := eq_true p153; replace q153 := eq_true q153; obtain ⟨Ao27, co27, eo27⟩ := Kd.R_slice HO150.out; subst eo27; have p154 : 0 ≤ (1 : Int) := (by omega); have q154 : 1 < (t146.length : Int) := of_decide_eq_true (by first | (with_reducible assumption) | assumption); obtain ⟨ad154, e154, hx154_0, hx154_1, hx154_2, hx154_3⟩ := at_T24 (Kd.R_reads' HO150.out).2.2 1 p154 q154; cases e154; (try simp only [show (1 : Int).toNat = 1 from rfl, Nat.reduceMul, Nat.reduceEqDiff, Go.Addr.add, ↓reduceIte] at hx154_0); (try simp only [show (1 : Int).toNat = 1 from rfl, Nat.reduceMul, Nat.reduceEqDiff, Go.Addr.add, ↓reduceIte] at hx154_1); (try simp only [show (1 : Int).toNat = 1 from rfl, Nat.reduceMul, Nat.reduceEqDiff, Go.Addr.add, ↓reduceIte] at hx154_2); (try simp only [show (1 : Int).toNat = 1 from rfl, Nat.reduceMul, Nat.reduceEqDiff, Go.Addr.add, ↓reduceIte] at hx154_3); have qi154 : (1 < t146.length) = True := eq_true (by omega); (try rw [show ((1 : Int)).toNat = 1 from rfl] at hx154_0); (try rw [show 1 * 4 = 4 from rfl] at hx154_0); (try rw [show ((1 : Int)).toNat = 1 from rfl] at hx154_1); (try rw [show 1 * 4 = 4 from rfl] at hx154_1); (try rw [show ((1 : Int)).toNat = 1 from rfl] at hx154_2); (try rw [show 1 * 4 = 4 from rfl] at hx154_2); (try rw [show ((1 : Int)).toNat = 1 from rfl] at hx154_3); (try rw [show 1 * 4 = 4 from rfl] at hx154_3); replace p154 := eq_true p154; replace q154 := eq_true q154; obtain ⟨Ao28, co28, eo28⟩ := Kd.R_slice HO152.out; subst eo28))
          go_ret
          exact ⟨by first | rfl | (simp [errW_none, errW_some] <;> rfl) | (simp [*, errW_none, errW_some] <;> rfl), by repeat (first | (with_reducible first | exact HB.out | apply below_alloc | apply pw_below_drewN | apply below_drew1) | exact HB.out)⟩
        ·rw [if_neg c10] at H
         have c10b0 : (((rd_T24 t146 1).f0) == 3 && (((rd_T24 t146 1).f1) == 53 && (((rd_T24 t146 1).f2) == 2 && (!((rd_T24 t146 1).f3))))) = false := by simpa using c10
         (try (have c10b1 : decide (((rd_T24 t146 1).f0) = 3 && (((rd_T24 t146 1).f1) == 53 && (((rd_T24 t146 1).f2) == 2 && (!((rd_T24 t146 1).f3))))) = false := by simpa using c10))
         (try (have c10b2 : (((rd_T24 t146 1).f0) == 3 && (((rd_T24 t146 1).f1) == 53 && (((rd_T24 t146 1).f2) == 2 && (!((rd_T24 t146 1).f3))))) = false := by simpa using c10))
         (try (have c10b3 : ¬ (((rd_T24 t146 1).f0) = 3 && (((rd_T24 t146 1).f1) == 53 && (((rd_T24 t146 1).f2) == 2 && (!((rd_T24 t146 1).f3))))) := by simpa using c10))
         clear c10;obtain rfl := Option.some.inj H
         go_enter Try.func11, Try.ntmps11
         go_wp2_with (first | ((with_reducible refine gate_dst (N := 8) rfl ?_); (try (refine gate_guard (by rfl) ?_; dsimp only)); refine Kd.R_lit k24 _ 24 ?hg (N := 8) ?hd (xs := ([(⟨2, 52, 3, false⟩ : S24)] : List (S24))) (inner := [.int .i64 2, .int .i64 52, .int .i64 3, .bool false]) (ok := fun _ => True) (okp := fun _ => True) ?hr ?hp (fun _ hk => hk) trivial (Below.refl _ _) (Nat.le_refl _) (by simp) ?_; (case hd => rfl); (case hg => rfl); (case hr => first | (go_simp; done) | (go_simp; rfl)); (case hp => exact (Reps.c4 (show Kd.M k24 _ _ _ (⟨2, 52, 3, false⟩ : S24) [.int .i64 2, .int .i64 52, .int .i64 3, .bool false] from (k24_mkM _ _ _ (⟨2, 52, 3, false⟩ : S24) )) (Reps.none _ _))); intro v140 w29 ho30 hb hg_ hnew_; clear hg_ hnew_; (first | rw [← Ny139.out] at ho30 | (simp only [Int.reduceToNat] at ho30; rw [← Ny139.out] at ho30)); have n0_ := Aside0.mk (Kd.R_lower ho30 (below_size (by repeat (first | (with_reducible first | exact HB.out | apply below_alloc | apply pw_below_drewN | apply below_drew1) | exact HB.out)))); have n1_ := Aside0.mk (below_step (by repeat (first | (with_reducible first | exact HB.out | apply below_alloc | apply pw_below_drewN | apply below_drew1) | exact HB.out)) hb); clear HB; have HO141 := n0_; have HB := n1_; clear n0_ n1_; clear hb ho30; obtain ⟨Ao31, co31, eo31⟩ := Kd.R_slice HO141.out; subst eo31) | ((with_reducible refine gate_callee (f := 14) rfl ?_); refine goesL_ (some 10) rfl rfl Try.func14 (by kernel_rfl) rfl #[.slice Ao31 y139.length co31, .agg #[.int .i64 0, .int .i64 50, .int .i64 2, .bool false]] rfl (by (try simp only [List.map_toArray, List.map_cons, List.map_nil]); first | done | rfl | (simp only [List.length_drop, List.length_take]; rfl)) ?_; (with_reducible refine (extent_Put.calls k _ _ y139 0 50 2 false t142 t145 _ ?side1 ?side2 A1.out).mono ?_); (case side1 => repeat (first | exact (Kd.R_reads' HO141.out).2.2 | (with_reducible refine Kd.C_alloc ?_ _) | (with_reducible refine Kd.C_drewN ?_ _) | (with_reducible refine Kd.C_drew ?_))); (case side2 => exact (Kd.R_reads' HO141.out).2.1); rintro e w32 ⟨v143, rfl, ho0, hb⟩; refine ⟨_, rfl, ?_⟩; have n0_ := Aside0.mk (Kd.R_elder' (by (with_reducible repeat (first | apply Kd.R_alloc | apply Kd.R_drewN | apply Kd.R_drew)); exact HO141.out) (Kd.R_base ho0) hb); have n1_ := Aside0.mk (Kd.R_lower (Kd.R_new' ho0 (Kd.R_lt (by (with_reducible repeat (first | apply Kd.R_alloc | apply Kd.R_drewN | apply Kd.R_drew)); exact HO141.out))) (below_size (by repeat (first | (with_reducible first | exact HB.out | apply below_alloc | apply pw_below_drewN | apply below_drew1) | exact HB.out)))); have n2_ := Aside0.mk (below_step (by repeat (first | (with_reducible first | exact HB.out | apply below_alloc | apply pw_below_drewN | apply below_drew1) | exact HB.out)) hb); clear HO141; clear HB; have HO141 := n0_; have HO144 := n1_; have HB := n2_; clear n0_ n1_ n2_; (try clear hb); (try clear hb2); (try clear hk); (try clear hi); (try clear ho0); obtain ⟨Ao33, co33, eo33⟩ := Kd.R_slice HO144.out; subst eo33) | ((with_reducible refine gate_callee (f := 13) rfl ?_); refine goesL_ (some 15) rfl rfl Try.func13 (by kernel_rfl) rfl #[.slice Ao33 t142.length co33, .int .i64 1, .int .i64 3] rfl (by (try simp only [List.map_toArray, List.map_cons, List.map_nil]); first | done | rfl | (simp only [List.length_drop, List.length_take]; rfl)) ?_; (with_reducible refine (extent_Cut.calls k _ _ t142 1 3 t146 t147 t148 _ ?side1 ?side2 A2.out).mono ?_); (case side1 => repeat (first | exact (Kd.R_reads' HO144.out).2.2 | (with_reducible refine Kd.C_alloc ?_ _) | (with_reducible refine Kd.C_drewN ?_ _) | (with_reducible refine Kd.C_drew ?_))); (case side2 => exact (Kd.R_reads' HO144.out).2.1); rintro e w34 ⟨v149, v151, rfl, ho0, ho1, hb⟩; refine ⟨_, rfl, ?_⟩; have n0_ := Aside0.mk (Kd.R_elder' (by (with_reducible repeat (first | apply Kd.R_alloc | apply Kd.R_drewN | apply Kd.R_drew)); exact HO141.out) (Kd.R_base ho0) hb); have n1_ := Aside0.mk (Kd.R_elder' (by (with_reducible repeat (first | apply Kd.R_alloc | apply Kd.R_drewN | apply Kd.R_drew)); exact HO144.out) (Kd.R_base ho0) hb); have n2_ := Aside0.mk (Kd.R_lower (Kd.R_new' (Kd.R_new' ho0 (Kd.R_lt (by (with_reducible repeat (first | apply Kd.R_alloc | apply Kd.R_drewN | apply Kd.R_drew)); exact HO141.out))) (Kd.R_lt (by (with_reducible repeat (first | apply Kd.R_alloc | apply Kd.R_drewN | apply Kd.R_drew)); exact HO144.out))) (below_size (by repeat (first | (with_reducible first | exact HB.out | apply below_alloc | apply pw_below_drewN | apply below_drew1) | exact HB.out)))); have n3_ := Aside0.mk (Kd.R_lower ho1 (below_size (by repeat (first | (with_reducible first | exact HB.out | apply below_alloc | apply pw_below_drewN | apply below_drew1) | exact HB.out)))); have n4_ := Aside0.mk (below_step (by repeat (first | (with_reducible first | exact HB.out | apply below_alloc | apply pw_below_drewN | apply below_drew1) | exact HB.out)) hb); clear HO141; clear HO144; clear HB; have HO141 := n0_; have HO144 := n1_; have HO150 := n2_; have HO152 := n3_; have HB := n4_; clear n0_ n1_ n2_ n3_ n4_; (try clear hb); (try clear hb2); (try clear hk); (try clear hi); (try clear ho0); (try clear ho1); have p153 : 0 ≤ (0 : Int) := (by omega); have q153 : 0 < (t142.length : Int) := of_decide_eq_true (by first | (with_reducible assumption) | assumption); obtain ⟨ad153, e153, hx153_0, hx153_1, hx153_2, hx153_3⟩ := at_T24 (Kd.R_reads' HO144.out).2.2 0 p153 q153; cases e153; have qi153 : (0 < t142.length) = True := eq_true (by omega); (try rw [show ((0 : Int)).toNat = 0 from rfl] at hx153_0); (try rw [show 0 * 4 = 0 from rfl] at hx153_0); (try rw [Addr.add_zero'] at hx153_0); (try rw [show ((0 : Int)).toNat = 0 from rfl] at hx153_1); (try rw [show 0 * 4 = 0 from rfl] at hx153_1); (try rw [Addr.add_zero'] at hx153_1); (try rw [show ((0 : Int)).toNat = 0 from rfl] at hx153_2); (try rw [show 0 * 4 = 0 from rfl] at hx153_2); (try rw [Addr.add_zero'] at hx153_2); (try rw [show ((0 : Int)).toNat = 0 from rfl] at hx153_3); (try rw [show 0 * 4 = 0 from rfl] at hx153_3); (try rw [Addr.add_zero'] at hx153_3); replace p153 := eq_true p153; replace q153 := eq_true q153; obtain ⟨Ao35, co35, eo35⟩ := Kd.R_slice HO150.out; subst eo35; have p154 : 0 ≤ (1 : Int) := (by omega); have q154 : 1 < (t146.length : Int) := of_decide_eq_true (by first | (with_reducible assumption) | assumption); obtain ⟨ad154, e154, hx154_0, hx154_1, hx154_2, hx154_3⟩ := at_T24 (Kd.R_reads' HO150.out).2.2 1 p154 q154; cases e154; (try simp only [show (1 : Int).toNat = 1 from rfl, Nat.reduceMul, Nat.reduceEqDiff, Go.Addr.add, ↓reduceIte] at hx154_0); (try simp only [show (1 : Int).toNat = 1 from rfl, Nat.reduceMul, Nat.reduceEqDiff, Go.Addr.add, ↓reduceIte] at hx154_1); (try simp only [show (1 : Int).toNat = 1 from rfl, Nat.reduceMul, Nat.reduceEqDiff, Go.Addr.add, ↓reduceIte] at hx154_2); (try simp only [show (1 : Int).toNat = 1 from rfl, Nat.reduceMul, Nat.reduceEqDiff, Go.Addr.add, ↓reduceIte] at hx154_3); have qi154 : (1 < t146.length) = True := eq_true (by omega); (try rw [show ((1 : Int)).toNat = 1 from rfl] at hx154_0); (try rw [show 1 * 4 = 4 from rfl] at hx154_0); (try rw [show ((1 : Int)).toNat = 1 from rfl] at hx154_1); (try rw [show 1 * 4 = 4 from rfl] at hx154_1); (try rw [show ((1 : Int)).toNat = 1 from rfl] at hx154_2); (try rw [show 1 * 4 = 4 from rfl] at hx154_2); (try rw [show ((1 : Int)).toNat = 1 from rfl] at hx154_3); (try rw [show 1 * 4 = 4 from rfl] at hx154_3); replace p154 := eq_true p154; replace q154 := eq_true q154))
         go_ret
         exact ⟨by first | rfl | (simp [errW_none, errW_some] <;> rfl) | (simp [*, errW_none, errW_some] <;> rfl), by repeat (first | (with_reducible first | exact HB.out | apply below_alloc | apply pw_below_drewN | apply below_drew1) | exact HB.out)⟩
       ·rw [if_neg c9] at H
        exact absurd H (by simp)
      ·rw [if_neg c8] at H
       have c8b0 : ((t146.length : Int) == 2) = false := beq_eq_false_iff_ne.mpr c8
       have c8b1 : ((t146.length : Int) != 2) = true := bne_iff_ne.mpr c8
       obtain rfl := Option.some.inj H
       go_enter Try.func11, Try.ntmps11
       go_wp2_with (first | ((with_reducible refine gate_dst (N := 8) rfl ?_); (try (refine gate_guard (by rfl) ?_; dsimp only)); refine Kd.R_lit k24 _ 24 ?hg (N := 8) ?hd (xs := ([(⟨2, 52, 3, false⟩ : S24)] : List (S24))) (inner := [.int .i64 2, .int .i64 52, .int .i64 3, .bool false]) (ok := fun _ => True) (okp := fun _ => True) ?hr ?hp (fun _ hk => hk) trivial (Below.refl _ _) (Nat.le_refl _) (by simp) ?_; (case hd => rfl); (case hg => rfl); (case hr => first | (go_simp; done) | (go_simp; rfl)); (case hp => exact (Reps.c4 (show Kd.M k24 _ _ _ (⟨2, 52, 3, false⟩ : S24) [.int .i64 2, .int .i64 52, .int .i64 3, .bool false] from (k24_mkM _ _ _ (⟨2, 52, 3, false⟩ : S24) )) (Reps.none _ _))); intro v140 w36 ho37 hb hg_ hnew_; clear hg_ hnew_; (first | rw [← Ny139.out] at ho37 | (simp only [Int.reduceToNat] at ho37; rw [← Ny139.out] at ho37)); have n0_ := Aside0.mk (Kd.R_lower ho37 (below_size (by repeat (first | (with_reducible first | exact HB.out | apply below_alloc | apply pw_below_drewN | apply below_drew1) | exact HB.out)))); have n1_ := Aside0.mk (below_step (by repeat (first | (with_reducible first | exact HB.out | apply below_alloc | apply pw_below_drewN | apply below_drew1) | exact HB.out)) hb); clear HB; have HO141 := n0_; have HB := n1_; clear n0_ n1_; clear hb ho37; obtain ⟨Ao38, co38, eo38⟩ := Kd.R_slice HO141.out; subst eo38) | ((with_reducible refine gate_callee (f := 14) rfl ?_); refine goesL_ (some 10) rfl rfl Try.func14 (by kernel_rfl) rfl #[.slice Ao38 y139.length co38, .agg #[.int .i64 0, .int .i64 50, .int .i64 2, .bool false]] rfl (by (try simp only [List.map_toArray, List.map_cons, List.map_nil]); first | done | rfl | (simp only [List.length_drop, List.length_take]; rfl)) ?_; (with_reducible refine (extent_Put.calls k _ _ y139 0 50 2 false t142 t145 _ ?side1 ?side2 A1.out).mono ?_); (case side1 => repeat (first | exact (Kd.R_reads' HO141.out).2.2 | (with_reducible refine Kd.C_alloc ?_ _) | (with_reducible refine Kd.C_drewN ?_ _) | (with_reducible refine Kd.C_drew ?_))); (case side2 => exact (Kd.R_reads' HO141.out).2.1); rintro e w39 ⟨v143, rfl, ho0, hb⟩; refine ⟨_, rfl, ?_⟩; have n0_ := Aside0.mk (Kd.R_elder' (by (with_reducible repeat (first | apply Kd.R_alloc | apply Kd.R_drewN | apply Kd.R_drew)); exact HO141.out) (Kd.R_base ho0) hb); have n1_ := Aside0.mk (Kd.R_lower (Kd.R_new' ho0 (Kd.R_lt (by (with_reducible repeat (first | apply Kd.R_alloc | apply Kd.R_drewN | apply Kd.R_drew)); exact HO141.out))) (below_size (by repeat (first | (with_reducible first | exact HB.out | apply below_alloc | apply pw_below_drewN | apply below_drew1) | exact HB.out)))); have n2_ := Aside0.mk (below_step (by repeat (first | (with_reducible first | exact HB.out | apply below_alloc | apply pw_below_drewN | apply below_drew1) | exact HB.out)) hb); clear HO141; clear HB; have HO141 := n0_; have HO144 := n1_; have HB := n2_; clear n0_ n1_ n2_; (try clear hb); (try clear hb2); (try clear hk); (try clear hi); (try clear ho0); obtain ⟨Ao40, co40, eo40⟩ := Kd.R_slice HO144.out; subst eo40) | ((with_reducible refine gate_callee (f := 13) rfl ?_); refine goesL_ (some 15) rfl rfl Try.func13 (by kernel_rfl) rfl #[.slice Ao40 t142.length co40, .int .i64 1, .int .i64 3] rfl (by (try simp only [List.map_toArray, List.map_cons, List.map_nil]); first | done | rfl | (simp only [List.length_drop, List.length_take]; rfl)) ?_; (with_reducible refine (extent_Cut.calls k _ _ t142 1 3 t146 t147 t148 _ ?side1 ?side2 A2.out).mono ?_); (case side1 => repeat (first | exact (Kd.R_reads' HO144.out).2.2 | (with_reducible refine Kd.C_alloc ?_ _) | (with_reducible refine Kd.C_drewN ?_ _) | (with_reducible refine Kd.C_drew ?_))); (case side2 => exact (Kd.R_reads' HO144.out).2.1); rintro e w41 ⟨v149, v151, rfl, ho0, ho1, hb⟩; refine ⟨_, rfl, ?_⟩; have n0_ := Aside0.mk (Kd.R_elder' (by (with_reducible repeat (first | apply Kd.R_alloc | apply Kd.R_drewN | apply Kd.R_drew)); exact HO141.out) (Kd.R_base ho0) hb); have n1_ := Aside0.mk (Kd.R_elder' (by (with_reducible repeat (first | apply Kd.R_alloc | apply Kd.R_drewN | apply Kd.R_drew)); exact HO144.out) (Kd.R_base ho0) hb); have n2_ := Aside0.mk (Kd.R_lower (Kd.R_new' (Kd.R_new' ho0 (Kd.R_lt (by (with_reducible repeat (first | apply Kd.R_alloc | apply Kd.R_drewN | apply Kd.R_drew)); exact HO141.out))) (Kd.R_lt (by (with_reducible repeat (first | apply Kd.R_alloc | apply Kd.R_drewN | apply Kd.R_drew)); exact HO144.out))) (below_size (by repeat (first | (with_reducible first | exact HB.out | apply below_alloc | apply pw_below_drewN | apply below_drew1) | exact HB.out)))); have n3_ := Aside0.mk (Kd.R_lower ho1 (below_size (by repeat (first | (with_reducible first | exact HB.out | apply below_alloc | apply pw_below_drewN | apply below_drew1) | exact HB.out)))); have n4_ := Aside0.mk (below_step (by repeat (first | (with_reducible first | exact HB.out | apply below_alloc | apply pw_below_drewN | apply below_drew1) | exact HB.out)) hb); clear HO141; clear HO144; clear HB; have HO141 := n0_; have HO144 := n1_; have HO150 := n2_; have HO152 := n3_; have HB := n4_; clear n0_ n1_ n2_ n3_ n4_; (try clear hb); (try clear hb2); (try clear hk); (try clear hi); (try clear ho0); (try clear ho1); have p153 : 0 ≤ (0 : Int) := (by omega); have q153 : 0 < (t142.length : Int) := of_decide_eq_true (by first | (with_reducible assumption) | assumption); obtain ⟨ad153, e153, hx153_0, hx153_1, hx153_2, hx153_3⟩ := at_T24 (Kd.R_reads' HO144.out).2.2 0 p153 q153; cases e153; have qi153 : (0 < t142.length) = True := eq_true (by omega); (try rw [show ((0 : Int)).toNat = 0 from rfl] at hx153_0); (try rw [show 0 * 4 = 0 from rfl] at hx153_0); (try rw [Addr.add_zero'] at hx153_0); (try rw [show ((0 : Int)).toNat = 0 from rfl] at hx153_1); (try rw [show 0 * 4 = 0 from rfl] at hx153_1); (try rw [Addr.add_zero'] at hx153_1); (try rw [show ((0 : Int)).toNat = 0 from rfl] at hx153_2); (try rw [show 0 * 4 = 0 from rfl] at hx153_2); (try rw [Addr.add_zero'] at hx153_2); (try rw [show ((0 : Int)).toNat = 0 from rfl] at hx153_3); (try rw [show 0 * 4 = 0 from rfl] at hx153_3); (try rw [Addr.add_zero'] at hx153_3); replace p153 := eq_true p153; replace q153 := eq_true q153; obtain ⟨Ao42, co42, eo42⟩ := Kd.R_slice HO150.out; subst eo42))
       go_ret
       exact ⟨by first | rfl | (simp [errW_none, errW_some] <;> rfl) | (simp [*, errW_none, errW_some] <;> rfl), by repeat (first | (with_reducible first | exact HB.out | apply below_alloc | apply pw_below_drewN | apply below_drew1) | exact HB.out)⟩
     ·rw [if_neg c7] at H
      have c7b0 : (t148 == 0) = false := beq_eq_false_iff_ne.mpr c7
      have c7b1 : (t148 != 0) = true := bne_iff_ne.mpr c7
      obtain rfl := Option.some.inj H
      go_enter Try.func11, Try.ntmps11
      go_wp2_with (first | ((with_reducible refine gate_dst (N := 8) rfl ?_); (try (refine gate_guard (by rfl) ?_; dsimp only)); refine Kd.R_lit k24 _ 24 ?hg (N := 8) ?hd (xs := ([(⟨2, 52, 3, false⟩ : S24)] : List (S24))) (inner := [.int .i64 2, .int .i64 52, .int .i64 3, .bool false]) (ok := fun _ => True) (okp := fun _ => True) ?hr ?hp (fun _ hk => hk) trivial (Below.refl _ _) (Nat.le_refl _) (by simp) ?_; (case hd => rfl); (case hg => rfl); (case hr => first | (go_simp; done) | (go_simp; rfl)); (case hp => exact (Reps.c4 (show Kd.M k24 _ _ _ (⟨2, 52, 3, false⟩ : S24) [.int .i64 2, .int .i64 52, .int .i64 3, .bool false] from (k24_mkM _ _ _ (⟨2, 52, 3, false⟩ : S24) )) (Reps.none _ _))); intro v140 w43 ho44 hb hg_ hnew_; clear hg_ hnew_; (first | rw [← Ny139.out] at ho44 | (simp only [Int.reduceToNat] at ho44; rw [← Ny139.out] at ho44)); have n0_ := Aside0.mk (Kd.R_lower ho44 (below_size (by repeat (first | (with_reducible first | exact HB.out | apply below_alloc | apply pw_below_drewN | apply below_drew1) | exact HB.out)))); have n1_ := Aside0.mk (below_step (by repeat (first | (with_reducible first | exact HB.out | apply below_alloc | apply pw_below_drewN | apply below_drew1) | exact HB.out)) hb); clear HB; have HO141 := n0_; have HB := n1_; clear n0_ n1_; clear hb ho44; obtain ⟨Ao45, co45, eo45⟩ := Kd.R_slice HO141.out; subst eo45) | ((with_reducible refine gate_callee (f := 14) rfl ?_); refine goesL_ (some 10) rfl rfl Try.func14 (by kernel_rfl) rfl #[.slice Ao45 y139.length co45, .agg #[.int .i64 0, .int .i64 50, .int .i64 2, .bool false]] rfl (by (try simp only [List.map_toArray, List.map_cons, List.map_nil]); first | done | rfl | (simp only [List.length_drop, List.length_take]; rfl)) ?_; (with_reducible refine (extent_Put.calls k _ _ y139 0 50 2 false t142 t145 _ ?side1 ?side2 A1.out).mono ?_); (case side1 => repeat (first | exact (Kd.R_reads' HO141.out).2.2 | (with_reducible refine Kd.C_alloc ?_ _) | (with_reducible refine Kd.C_drewN ?_ _) | (with_reducible refine Kd.C_drew ?_))); (case side2 => exact (Kd.R_reads' HO141.out).2.1); rintro e w46 ⟨v143, rfl, ho0, hb⟩; refine ⟨_, rfl, ?_⟩; have n0_ := Aside0.mk (Kd.R_elder' (by (with_reducible repeat (first | apply Kd.R_alloc | apply Kd.R_drewN | apply Kd.R_drew)); exact HO141.out) (Kd.R_base ho0) hb); have n1_ := Aside0.mk (Kd.R_lower (Kd.R_new' ho0 (Kd.R_lt (by (with_reducible repeat (first | apply Kd.R_alloc | apply Kd.R_drewN | apply Kd.R_drew)); exact HO141.out))) (below_size (by repeat (first | (with_reducible first | exact HB.out | apply below_alloc | apply pw_below_drewN | apply below_drew1) | exact HB.out)))); have n2_ := Aside0.mk (below_step (by repeat (first | (with_reducible first | exact HB.out | apply below_alloc | apply pw_below_drewN | apply below_drew1) | exact HB.out)) hb); clear HO141; clear HB; have HO141 := n0_; have HO144 := n1_; have HB := n2_; clear n0_ n1_ n2_; (try clear hb); (try clear hb2); (try clear hk); (try clear hi); (try clear ho0); obtain ⟨Ao47, co47, eo47⟩ := Kd.R_slice HO144.out; subst eo47) | ((with_reducible refine gate_callee (f := 13) rfl ?_); refine goesL_ (some 15) rfl rfl Try.func13 (by kernel_rfl) rfl #[.slice Ao47 t142.length co47, .int .i64 1, .int .i64 3] rfl (by (try simp only [List.map_toArray, List.map_cons, List.map_nil]); first | done | rfl | (simp only [List.length_drop, List.length_take]; rfl)) ?_; (with_reducible refine (extent_Cut.calls k _ _ t142 1 3 t146 t147 t148 _ ?side1 ?side2 A2.out).mono ?_); (case side1 => repeat (first | exact (Kd.R_reads' HO144.out).2.2 | (with_reducible refine Kd.C_alloc ?_ _) | (with_reducible refine Kd.C_drewN ?_ _) | (with_reducible refine Kd.C_drew ?_))); (case side2 => exact (Kd.R_reads' HO144.out).2.1); rintro e w48 ⟨v149, v151, rfl, ho0, ho1, hb⟩; refine ⟨_, rfl, ?_⟩; have n0_ := Aside0.mk (Kd.R_elder' (by (with_reducible repeat (first | apply Kd.R_alloc | apply Kd.R_drewN | apply Kd.R_drew)); exact HO141.out) (Kd.R_base ho0) hb); have n1_ := Aside0.mk (Kd.R_elder' (by (with_reducible repeat (first | apply Kd.R_alloc | apply Kd.R_drewN | apply Kd.R_drew)); exact HO144.out) (Kd.R_base ho0) hb); have n2_ := Aside0.mk (Kd.R_lower (Kd.R_new' (Kd.R_new' ho0 (Kd.R_lt (by (with_reducible repeat (first | apply Kd.R_alloc | apply Kd.R_drewN | apply Kd.R_drew)); exact HO141.out))) (Kd.R_lt (by (with_reducible repeat (first | apply Kd.R_alloc | apply Kd.R_drewN | apply Kd.R_drew)); exact HO144.out))) (below_size (by repeat (first | (with_reducible first | exact HB.out | apply below_alloc | apply pw_below_drewN | apply below_drew1) | exact HB.out)))); have n3_ := Aside0.mk (Kd.R_lower ho1 (below_size (by repeat (first | (with_reducible first | exact HB.out | apply below_alloc | apply pw_below_drewN | apply below_drew1) | exact HB.out)))); have n4_ := Aside0.mk (below_step (by repeat (first | (with_reducible first | exact HB.out | apply below_alloc | apply pw_below_drewN | apply below_drew1) | exact HB.out)) hb); clear HO141; clear HO144; clear HB; have HO141 := n0_; have HO144 := n1_; have HO150 := n2_; have HO152 := n3_; have HB := n4_; clear n0_ n1_ n2_ n3_ n4_; (try clear hb); (try clear hb2); (try clear hk); (try clear hi); (try clear ho0); (try clear ho1); have p153 : 0 ≤ (0 : Int) := (by omega); have q153 : 0 < (t142.length : Int) := of_decide_eq_true (by first | (with_reducible assumption) | assumption); obtain ⟨ad153, e153, hx153_0, hx153_1, hx153_2, hx153_3⟩ := at_T24 (Kd.R_reads' HO144.out).2.2 0 p153 q153; cases e153; have qi153 : (0 < t142.length) = True := eq_true (by omega); (try rw [show ((0 : Int)).toNat = 0 from rfl] at hx153_0); (try rw [show 0 * 4 = 0 from rfl] at hx153_0); (try rw [Addr.add_zero'] at hx153_0); (try rw [show ((0 : Int)).toNat = 0 from rfl] at hx153_1); (try rw [show 0 * 4 = 0 from rfl] at hx153_1); (try rw [Addr.add_zero'] at hx153_1); (try rw [show ((0 : Int)).toNat = 0 from rfl] at hx153_2); (try rw [show 0 * 4 = 0 from rfl] at hx153_2); (try rw [Addr.add_zero'] at hx153_2); (try rw [show ((0 : Int)).toNat = 0 from rfl] at hx153_3); (try rw [show 0 * 4 = 0 from rfl] at hx153_3); (try rw [Addr.add_zero'] at hx153_3); replace p153 := eq_true p153; replace q153 := eq_true q153))
      go_ret
      exact ⟨by first | rfl | (simp [errW_none, errW_some] <;> rfl) | (simp [*, errW_none, errW_some] <;> rfl), by repeat (first | (with_reducible first | exact HB.out | apply below_alloc | apply pw_below_drewN | apply below_drew1) | exact HB.out)⟩
    ·rw [if_neg c6] at H
     have c6b0 : (((rd_T24 t142 0).f0) == 0 && (((rd_T24 t142 0).f1) == 50 && (((rd_T24 t142 0).f2) == 5 && (!((rd_T24 t142 0).f3))))) = false := by simpa using c6
     (try (have c6b1 : decide (((rd_T24 t142 0).f0) = 0 && (((rd_T24 t142 0).f1) == 50 && (((rd_T24 t142 0).f2) == 5 && (!((rd_T24 t142 0).f3))))) = false := by simpa using c6))
     (try (have c6b2 : (((rd_T24 t142 0).f0) == 0 && (((rd_T24 t142 0).f1) == 50 && (((rd_T24 t142 0).f2) == 5 && (!((rd_T24 t142 0).f3))))) = false := by simpa using c6))
     (try (have c6b3 : ¬ (((rd_T24 t142 0).f0) = 0 && (((rd_T24 t142 0).f1) == 50 && (((rd_T24 t142 0).f2) == 5 && (!((rd_T24 t142 0).f3))))) := by simpa using c6))
     clear c6;obtain rfl := Option.some.inj H
     go_enter Try.func11, Try.ntmps11
     go_wp2_with (first | ((with_reducible refine gate_dst (N := 8) rfl ?_); (try (refine gate_guard (by rfl) ?_; dsimp only)); refine Kd.R_lit k24 _ 24 ?hg (N := 8) ?hd (xs := ([(⟨2, 52, 3, false⟩ : S24)] : List (S24))) (inner := [.int .i64 2, .int .i64 52, .int .i64 3, .bool false]) (ok := fun _ => True) (okp := fun _ => True) ?hr ?hp (fun _ hk => hk) trivial (Below.refl _ _) (Nat.le_refl _) (by simp) ?_; (case hd => rfl); (case hg => rfl); (case hr => first | (go_simp; done) | (go_simp; rfl)); (case hp => exact (Reps.c4 (show Kd.M k24 _ _ _ (⟨2, 52, 3, false⟩ : S24) [.int .i64 2, .int .i64 52, .int .i64 3, .bool false] from (k24_mkM _ _ _ (⟨2, 52, 3, false⟩ : S24) )) (Reps.none _ _))); intro v140 w49 ho50 hb hg_ hnew_; clear hg_ hnew_; (first | rw [← Ny139.out] at ho50 | (simp only [Int.reduceToNat] at ho50; rw [← Ny139.out] at ho50)); have n0_ := Aside0.mk (Kd.R_lower ho50 (below_size (by repeat (first | (with_reducible first | exact HB.out | apply below_alloc | apply pw_below_drewN | apply below_drew1) | exact HB.out)))); have n1_ := Aside0.mk (below_step (by repeat (first | (with_reducible first | exact HB.out | apply below_alloc | apply pw_below_drewN | apply below_drew1) | exact HB.out)) hb); clear HB; have HO141 := n0_; have HB := n1_; clear n0_ n1_; clear hb ho50; obtain ⟨Ao51, co51, eo51⟩ := Kd.R_slice HO141.out; subst eo51) | ((with_reducible refine gate_callee (f := 14) rfl ?_); refine goesL_ (some 10) rfl rfl Try.func14 (by kernel_rfl) rfl #[.slice Ao51 y139.length co51, .agg #[.int .i64 0, .int .i64 50, .int .i64 2, .bool false]] rfl (by (try simp only [List.map_toArray, List.map_cons, List.map_nil]); first | done | rfl | (simp only [List.length_drop, List.length_take]; rfl)) ?_; (with_reducible refine (extent_Put.calls k _ _ y139 0 50 2 false t142 t145 _ ?side1 ?side2 A1.out).mono ?_); (case side1 => repeat (first | exact (Kd.R_reads' HO141.out).2.2 | (with_reducible refine Kd.C_alloc ?_ _) | (with_reducible refine Kd.C_drewN ?_ _) | (with_reducible refine Kd.C_drew ?_))); (case side2 => exact (Kd.R_reads' HO141.out).2.1); rintro e w52 ⟨v143, rfl, ho0, hb⟩; refine ⟨_, rfl, ?_⟩; have n0_ := Aside0.mk (Kd.R_elder' (by (with_reducible repeat (first | apply Kd.R_alloc | apply Kd.R_drewN | apply Kd.R_drew)); exact HO141.out) (Kd.R_base ho0) hb); have n1_ := Aside0.mk (Kd.R_lower (Kd.R_new' ho0 (Kd.R_lt (by (with_reducible repeat (first | apply Kd.R_alloc | apply Kd.R_drewN | apply Kd.R_drew)); exact HO141.out))) (below_size (by repeat (first | (with_reducible first | exact HB.out | apply below_alloc | apply pw_below_drewN | apply below_drew1) | exact HB.out)))); have n2_ := Aside0.mk (below_step (by repeat (first | (with_reducible first | exact HB.out | apply below_alloc | apply pw_below_drewN | apply below_drew1) | exact HB.out)) hb); clear HO141; clear HB; have HO141 := n0_; have HO144 := n1_; have HB := n2_; clear n0_ n1_ n2_; (try clear hb); (try clear hb2); (try clear hk); (try clear hi); (try clear ho0); obtain ⟨Ao53, co53, eo53⟩ := Kd.R_slice HO144.out; subst eo53) | ((with_reducible refine gate_callee (f := 13) rfl ?_); refine goesL_ (some 15) rfl rfl Try.func13 (by kernel_rfl) rfl #[.slice Ao53 t142.length co53, .int .i64 1, .int .i64 3] rfl (by (try simp only [List.map_toArray, List.map_cons, List.map_nil]); first | done | rfl | (simp only [List.length_drop, List.length_take]; rfl)) ?_; (with_reducible refine (extent_Cut.calls k _ _ t142 1 3 t146 t147 t148 _ ?side1 ?side2 A2.out).mono ?_); (case side1 => repeat (first | exact (Kd.R_reads' HO144.out).2.2 | (with_reducible refine Kd.C_alloc ?_ _) | (with_reducible refine Kd.C_drewN ?_ _) | (with_reducible refine Kd.C_drew ?_))); (case side2 => exact (Kd.R_reads' HO144.out).2.1); rintro e w54 ⟨v149, v151, rfl, ho0, ho1, hb⟩; refine ⟨_, rfl, ?_⟩; have n0_ := Aside0.mk (Kd.R_elder' (by (with_reducible repeat (first | apply Kd.R_alloc | apply Kd.R_drewN | apply Kd.R_drew)); exact HO141.out) (Kd.R_base ho0) hb); have n1_ := Aside0.mk (Kd.R_elder' (by (with_reducible repeat (first | apply Kd.R_alloc | apply Kd.R_drewN | apply Kd.R_drew)); exact HO144.out) (Kd.R_base ho0) hb); have n2_ := Aside0.mk (Kd.R_lower (Kd.R_new' (Kd.R_new' ho0 (Kd.R_lt (by (with_reducible repeat (first | apply Kd.R_alloc | apply Kd.R_drewN | apply Kd.R_drew)); exact HO141.out))) (Kd.R_lt (by (with_reducible repeat (first | apply Kd.R_alloc | apply Kd.R_drewN | apply Kd.R_drew)); exact HO144.out))) (below_size (by repeat (first | (with_reducible first | exact HB.out | apply below_alloc | apply pw_below_drewN | apply below_drew1) | exact HB.out)))); have n3_ := Aside0.mk (Kd.R_lower ho1 (below_size (by repeat (first | (with_reducible first | exact HB.out | apply below_alloc | apply pw_below_drewN | apply below_drew1) | exact HB.out)))); have n4_ := Aside0.mk (below_step (by repeat (first | (with_reducible first | exact HB.out | apply below_alloc | apply pw_below_drewN | apply below_drew1) | exact HB.out)) hb); clear HO141; clear HO144; clear HB; have HO141 := n0_; have HO144 := n1_; have HO150 := n2_; have HO152 := n3_; have HB := n4_; clear n0_ n1_ n2_ n3_ n4_; (try clear hb); (try clear hb2); (try clear hk); (try clear hi); (try clear ho0); (try clear ho1); have p153 : 0 ≤ (0 : Int) := (by omega); have q153 : 0 < (t142.length : Int) := of_decide_eq_true (by first | (with_reducible assumption) | assumption); obtain ⟨ad153, e153, hx153_0, hx153_1, hx153_2, hx153_3⟩ := at_T24 (Kd.R_reads' HO144.out).2.2 0 p153 q153; cases e153; have qi153 : (0 < t142.length) = True := eq_true (by omega); (try rw [show ((0 : Int)).toNat = 0 from rfl] at hx153_0); (try rw [show 0 * 4 = 0 from rfl] at hx153_0); (try rw [Addr.add_zero'] at hx153_0); (try rw [show ((0 : Int)).toNat = 0 from rfl] at hx153_1); (try rw [show 0 * 4 = 0 from rfl] at hx153_1); (try rw [Addr.add_zero'] at hx153_1); (try rw [show ((0 : Int)).toNat = 0 from rfl] at hx153_2); (try rw [show 0 * 4 = 0 from rfl] at hx153_2); (try rw [Addr.add_zero'] at hx153_2); (try rw [show ((0 : Int)).toNat = 0 from rfl] at hx153_3); (try rw [show 0 * 4 = 0 from rfl] at hx153_3); (try rw [Addr.add_zero'] at hx153_3); replace p153 := eq_true p153; replace q153 := eq_true q153))
     go_ret
     exact ⟨by first | rfl | (simp [errW_none, errW_some] <;> rfl) | (simp [*, errW_none, errW_some] <;> rfl), by repeat (first | (with_reducible first | exact HB.out | apply below_alloc | apply pw_below_drewN | apply below_drew1) | exact HB.out)⟩
   ·rw [if_neg c5] at H
    exact absurd H (by simp)
  ·rw [if_neg c4] at H
   have c4b0 : ((t142.length : Int) == 1) = false := beq_eq_false_iff_ne.mpr c4
   have c4b1 : ((t142.length : Int) != 1) = true := bne_iff_ne.mpr c4
   obtain rfl := Option.some.inj H
   go_enter Try.func11, Try.ntmps11
   go_wp2_with (first | ((with_reducible refine gate_dst (N := 8) rfl ?_); (try (refine gate_guard (by rfl) ?_; dsimp only)); refine Kd.R_lit k24 _ 24 ?hg (N := 8) ?hd (xs := ([(⟨2, 52, 3, false⟩ : S24)] : List (S24))) (inner := [.int .i64 2, .int .i64 52, .int .i64 3, .bool false]) (ok := fun _ => True) (okp := fun _ => True) ?hr ?hp (fun _ hk => hk) trivial (Below.refl _ _) (Nat.le_refl _) (by simp) ?_; (case hd => rfl); (case hg => rfl); (case hr => first | (go_simp; done) | (go_simp; rfl)); (case hp => exact (Reps.c4 (show Kd.M k24 _ _ _ (⟨2, 52, 3, false⟩ : S24) [.int .i64 2, .int .i64 52, .int .i64 3, .bool false] from (k24_mkM _ _ _ (⟨2, 52, 3, false⟩ : S24) )) (Reps.none _ _))); intro v140 w55 ho56 hb hg_ hnew_; clear hg_ hnew_; (first | rw [← Ny139.out] at ho56 | (simp only [Int.reduceToNat] at ho56; rw [← Ny139.out] at ho56)); have n0_ := Aside0.mk (Kd.R_lower ho56 (below_size (by repeat (first | (with_reducible first | exact HB.out | apply below_alloc | apply pw_below_drewN | apply below_drew1) | exact HB.out)))); have n1_ := Aside0.mk (below_step (by repeat (first | (with_reducible first | exact HB.out | apply below_alloc | apply pw_below_drewN | apply below_drew1) | exact HB.out)) hb); clear HB; have HO141 := n0_; have HB := n1_; clear n0_ n1_; clear hb ho56; obtain ⟨Ao57, co57, eo57⟩ := Kd.R_slice HO141.out; subst eo57) | ((with_reducible refine gate_callee (f := 14) rfl ?_); refine goesL_ (some 10) rfl rfl Try.func14 (by kernel_rfl) rfl #[.slice Ao57 y139.length co57, .agg #[.int .i64 0, .int .i64 50, .int .i64 2, .bool false]] rfl (by (try simp only [List.map_toArray, List.map_cons, List.map_nil]); first | done | rfl | (simp only [List.length_drop, List.length_take]; rfl)) ?_; (with_reducible refine (extent_Put.calls k _ _ y139 0 50 2 false t142 t145 _ ?side1 ?side2 A1.out).mono ?_); (case side1 => repeat (first | exact (Kd.R_reads' HO141.out).2.2 | (with_reducible refine Kd.C_alloc ?_ _) | (with_reducible refine Kd.C_drewN ?_ _) | (with_reducible refine Kd.C_drew ?_))); (case side2 => exact (Kd.R_reads' HO141.out).2.1); rintro e w58 ⟨v143, rfl, ho0, hb⟩; refine ⟨_, rfl, ?_⟩; have n0_ := Aside0.mk (Kd.R_elder' (by (with_reducible repeat (first | apply Kd.R_alloc | apply Kd.R_drewN | apply Kd.R_drew)); exact HO141.out) (Kd.R_base ho0) hb); have n1_ := Aside0.mk (Kd.R_lower (Kd.R_new' ho0 (Kd.R_lt (by (with_reducible repeat (first | apply Kd.R_alloc | apply Kd.R_drewN | apply Kd.R_drew)); exact HO141.out))) (below_size (by repeat (first | (with_reducible first | exact HB.out | apply below_alloc | apply pw_below_drewN | apply below_drew1) | exact HB.out)))); have n2_ := Aside0.mk (below_step (by repeat (first | (with_reducible first | exact HB.out | apply below_alloc | apply pw_below_drewN | apply below_drew1) | exact HB.out)) hb); clear HO141; clear HB; have HO141 := n0_; have HO144 := n1_; have HB := n2_; clear n0_ n1_ n2_; (try clear hb); (try clear hb2); (try clear hk); (try clear hi); (try clear ho0); obtain ⟨Ao59, co59, eo59⟩ := Kd.R_slice HO144.out; subst eo59) | ((with_reducible refine gate_callee (f := 13) rfl ?_); refine goesL_ (some 15) rfl rfl Try.func13 (by kernel_rfl) rfl #[.slice Ao59 t142.length co59, .int .i64 1, .int .i64 3] rfl (by (try simp only [List.map_toArray, List.map_cons, List.map_nil]); first | done | rfl | (simp only [List.length_drop, List.length_take]; rfl)) ?_; (with_reducible refine (extent_Cut.calls k _ _ t142 1 3 t146 t147 t148 _ ?side1 ?side2 A2.out).mono ?_); (case side1 => repeat (first | exact (Kd.R_reads' HO144.out).2.2 | (with_reducible refine Kd.C_alloc ?_ _) | (with_reducible refine Kd.C_drewN ?_ _) | (with_reducible refine Kd.C_drew ?_))); (case side2 => exact (Kd.R_reads' HO144.out).2.1); rintro e w60 ⟨v149, v151, rfl, ho0, ho1, hb⟩; refine ⟨_, rfl, ?_⟩; have n0_ := Aside0.mk (Kd.R_elder' (by (with_reducible repeat (first | apply Kd.R_alloc | apply Kd.R_drewN | apply Kd.R_drew)); exact HO141.out) (Kd.R_base ho0) hb); have n1_ := Aside0.mk (Kd.R_elder' (by (with_reducible repeat (first | apply Kd.R_alloc | apply Kd.R_drewN | apply Kd.R_drew)); exact HO144.out) (Kd.R_base ho0) hb); have n2_ := Aside0.mk (Kd.R_lower (Kd.R_new' (Kd.R_new' ho0 (Kd.R_lt (by (with_reducible repeat (first | apply Kd.R_alloc | apply Kd.R_drewN | apply Kd.R_drew)); exact HO141.out))) (Kd.R_lt (by (with_reducible repeat (first | apply Kd.R_alloc | apply Kd.R_drewN | apply Kd.R_drew)); exact HO144.out))) (below_size (by repeat (first | (with_reducible first | exact HB.out | apply below_alloc | apply pw_below_drewN | apply below_drew1) | exact HB.out)))); have n3_ := Aside0.mk (Kd.R_lower ho1 (below_size (by repeat (first | (with_reducible first | exact HB.out | apply below_alloc | apply pw_below_drewN | apply below_drew1) | exact HB.out)))); have n4_ := Aside0.mk (below_step (by repeat (first | (with_reducible first | exact HB.out | apply below_alloc | apply pw_below_drewN | apply below_drew1) | exact HB.out)) hb); clear HO141; clear HO144; clear HB; have HO141 := n0_; have HO144 := n1_; have HO150 := n2_; have HO152 := n3_; have HB := n4_; clear n0_ n1_ n2_ n3_ n4_; (try clear hb); (try clear hb2); (try clear hk); (try clear hi); (try clear ho0); (try clear ho1)))
   go_ret
   exact ⟨by first | rfl | (simp [errW_none, errW_some] <;> rfl) | (simp [*, errW_none, errW_some] <;> rfl), by repeat (first | (with_reducible first | exact HB.out | apply below_alloc | apply pw_below_drewN | apply below_drew1) | exact HB.out)⟩
 ·rw [if_neg c3] at H
  have c3b0 : (t145 == 0) = false := beq_eq_false_iff_ne.mpr c3
  have c3b1 : (t145 != 0) = true := bne_iff_ne.mpr c3
  obtain rfl := Option.some.inj H
  go_enter Try.func11, Try.ntmps11
  go_wp2_with (first | ((with_reducible refine gate_dst (N := 8) rfl ?_); (try (refine gate_guard (by rfl) ?_; dsimp only)); refine Kd.R_lit k24 _ 24 ?hg (N := 8) ?hd (xs := ([(⟨2, 52, 3, false⟩ : S24)] : List (S24))) (inner := [.int .i64 2, .int .i64 52, .int .i64 3, .bool false]) (ok := fun _ => True) (okp := fun _ => True) ?hr ?hp (fun _ hk => hk) trivial (Below.refl _ _) (Nat.le_refl _) (by simp) ?_; (case hd => rfl); (case hg => rfl); (case hr => first | (go_simp; done) | (go_simp; rfl)); (case hp => exact (Reps.c4 (show Kd.M k24 _ _ _ (⟨2, 52, 3, false⟩ : S24) [.int .i64 2, .int .i64 52, .int .i64 3, .bool false] from (k24_mkM _ _ _ (⟨2, 52, 3, false⟩ : S24) )) (Reps.none _ _))); intro v140 w61 ho62 hb hg_ hnew_; clear hg_ hnew_; (first | rw [← Ny139.out] at ho62 | (simp only [Int.reduceToNat] at ho62; rw [← Ny139.out] at ho62)); have n0_ := Aside0.mk (Kd.R_lower ho62 (below_size (by repeat (first | (with_reducible first | exact HB.out | apply below_alloc | apply pw_below_drewN | apply below_drew1) | exact HB.out)))); have n1_ := Aside0.mk (below_step (by repeat (first | (with_reducible first | exact HB.out | apply below_alloc | apply pw_below_drewN | apply below_drew1) | exact HB.out)) hb); clear HB; have HO141 := n0_; have HB := n1_; clear n0_ n1_; clear hb ho62; obtain ⟨Ao63, co63, eo63⟩ := Kd.R_slice HO141.out; subst eo63) | ((with_reducible refine gate_callee (f := 14) rfl ?_); refine goesL_ (some 10) rfl rfl Try.func14 (by kernel_rfl) rfl #[.slice Ao63 y139.length co63, .agg #[.int .i64 0, .int .i64 50, .int .i64 2, .bool false]] rfl (by (try simp only [List.map_toArray, List.map_cons, List.map_nil]); first | done | rfl | (simp only [List.length_drop, List.length_take]; rfl)) ?_; (with_reducible refine (extent_Put.calls k _ _ y139 0 50 2 false t142 t145 _ ?side1 ?side2 A1.out).mono ?_); (case side1 => repeat (first | exact (Kd.R_reads' HO141.out).2.2 | (with_reducible refine Kd.C_alloc ?_ _) | (with_reducible refine Kd.C_drewN ?_ _) | (with_reducible refine Kd.C_drew ?_))); (case side2 => exact (Kd.R_reads' HO141.out).2.1); rintro e w64 ⟨v143, rfl, ho0, hb⟩; refine ⟨_, rfl, ?_⟩; have n0_ := Aside0.mk (Kd.R_elder' (by (with_reducible repeat (first | apply Kd.R_alloc | apply Kd.R_drewN | apply Kd.R_drew)); exact HO141.out) (Kd.R_base ho0) hb); have n1_ := Aside0.mk (Kd.R_lower (Kd.R_new' ho0 (Kd.R_lt (by (with_reducible repeat (first | apply Kd.R_alloc | apply Kd.R_drewN | apply Kd.R_drew)); exact HO141.out))) (below_size (by repeat (first | (with_reducible first | exact HB.out | apply below_alloc | apply pw_below_drewN | apply below_drew1) | exact HB.out)))); have n2_ := Aside0.mk (below_step (by repeat (first | (with_reducible first | exact HB.out | apply below_alloc | apply pw_below_drewN | apply below_drew1) | exact HB.out)) hb); clear HO141; clear HB; have HO141 := n0_; have HO144 := n1_; have HB := n2_; clear n0_ n1_ n2_; (try clear hb); (try clear hb2); (try clear hk); (try clear hi); (try clear ho0); obtain ⟨Ao65, co65, eo65⟩ := Kd.R_slice HO144.out; subst eo65) | ((with_reducible refine gate_callee (f := 13) rfl ?_); refine goesL_ (some 15) rfl rfl Try.func13 (by kernel_rfl) rfl #[.slice Ao65 t142.length co65, .int .i64 1, .int .i64 3] rfl (by (try simp only [List.map_toArray, List.map_cons, List.map_nil]); first | done | rfl | (simp only [List.length_drop, List.length_take]; rfl)) ?_; (with_reducible refine (extent_Cut.calls k _ _ t142 1 3 t146 t147 t148 _ ?side1 ?side2 A2.out).mono ?_); (case side1 => repeat (first | exact (Kd.R_reads' HO144.out).2.2 | (with_reducible refine Kd.C_alloc ?_ _) | (with_reducible refine Kd.C_drewN ?_ _) | (with_reducible refine Kd.C_drew ?_))); (case side2 => exact (Kd.R_reads' HO144.out).2.1); rintro e w66 ⟨v149, v151, rfl, ho0, ho1, hb⟩; refine ⟨_, rfl, ?_⟩; have n0_ := Aside0.mk (Kd.R_elder' (by (with_reducible repeat (first | apply Kd.R_alloc | apply Kd.R_drewN | apply Kd.R_drew)); exact HO141.out) (Kd.R_base ho0) hb); have n1_ := Aside0.mk (Kd.R_elder' (by (with_reducible repeat (first | apply Kd.R_alloc | apply Kd.R_drewN | apply Kd.R_drew)); exact HO144.out) (Kd.R_base ho0) hb); have n2_ := Aside0.mk (Kd.R_lower (Kd.R_new' (Kd.R_new' ho0 (Kd.R_lt (by (with_reducible repeat (first | apply Kd.R_alloc | apply Kd.R_drewN | apply Kd.R_drew)); exact HO141.out))) (Kd.R_lt (by (with_reducible repeat (first | apply Kd.R_alloc | apply Kd.R_drewN | apply Kd.R_drew)); exact HO144.out))) (below_size (by repeat (first | (with_reducible first | exact HB.out | apply below_alloc | apply pw_below_drewN | apply below_drew1) | exact HB.out)))); have n3_ := Aside0.mk (Kd.R_lower ho1 (below_size (by repeat (first | (with_reducible first | exact HB.out | apply below_alloc | apply pw_below_drewN | apply below_drew1) | exact HB.out)))); have n4_ := Aside0.mk (below_step (by repeat (first | (with_reducible first | exact HB.out | apply below_alloc | apply pw_below_drewN | apply below_drew1) | exact HB.out)) hb); clear HO141; clear HO144; clear HB; have HO141 := n0_; have HO144 := n1_; have HO150 := n2_; have HO152 := n3_; have HB := n4_; clear n0_ n1_ n2_ n3_ n4_; (try clear hb); (try clear hb2); (try clear hk); (try clear hi); (try clear ho0); (try clear ho1)))
  go_ret
  exact ⟨by first | rfl | (simp [errW_none, errW_some] <;> rfl) | (simp [*, errW_none, errW_some] <;> rfl), by repeat (first | (with_reducible first | exact HB.out | apply below_alloc | apply pw_below_drewN | apply below_drew1) | exact HB.out)⟩
end Go.Proofs.Ytopmjjnkolfciaa.Pr
end
section
namespace Go.Proofs.Ytopmjjnkolfciaa.Pr
open Go.RowKit Go.Proofs.YtopmjjnkolfciaaW.PrintWords Go.Proofs.YtopmjjnkolfciaaW.PrintLast Go.Proofs.YtopmjjnkolfciaaW.PrintMore
set_option linter.unusedVariables false
set_option linter.unusedSimpArgs false
def Fits (l : List EX) : Prop := l.length ≤ 4398046510976
theorem o24 : Op.Opens Try.prog 22 (Kd.slice 24 k24) Fits :=
  Op.opens_imp (Op.opens_slice Try.underlying22 (by kernel_rfl) (B := 32) (by kernel_rfl)
    (Op.opens_iso (T := fun _ : EX => True) (fun x => ⟨x.1, x.2.1, x.2.2.1, x.2.2.2⟩) (fun _ => rfl) (fun _ _ => trivial)
      (Op.opens_struct Try.underlying24 (by kernel_rfl) (Op.opensAt_cons rfl (by kernel_rfl) (Op.opens_int Try.underlying3) (Op.opensAt_cons rfl (by kernel_rfl) (Op.opens_int Try.underlying3) (Op.opensAt_cons rfl (by kernel_rfl) (Op.opens_int Try.underlying3) (Op.opensAt_last rfl (by kernel_rfl) (Op.opens_bool Try.underlying4))))))))
    (fun l h => by unfold Fits; omega)
theorem alive_ev : Ev (fun k => undercroftlaw10_alive.f k) true := by
  unfold undercroftlaw10_alive.f
  have h1 : putX [(⟨2, 52, 3, false⟩ : EX)] ⟨0, 50, 2, false⟩ = ([⟨0, 50, 5, false⟩], 0) := by kernel_rfl
  have h2 : cutX [(⟨0, 50, 5, false⟩ : EX)] 1 3 = ([⟨0, 50, 1, false⟩, ⟨3, 53, 2, false⟩], [⟨51, 2⟩], 0) := by kernel_rfl
  have hp := put_ev [(⟨2, 52, 3, false⟩ : EX)] ⟨0, 50, 2, false⟩
  rw [h1] at hp
  have hc := cut_ev [(⟨0, 50, 5, false⟩ : EX)] 1 3
  rw [h2] at hc
  refine Ev.bind hp ?_
  refine Ev.bind hc ?_
  exact Ev.now _
end Go.Proofs.Ytopmjjnkolfciaa.Pr
end
section
namespace Go.Proofs.Ytopmjjnkolfciaa.Pr
open Go.RowKit Go.Proofs.YtopmjjnkolfciaaW.PrintWords Go.Proofs.YtopmjjnkolfciaaW.PrintLast Go.Proofs.YtopmjjnkolfciaaW.PrintMore
set_option linter.unusedVariables false
set_option linter.unusedSimpArgs false
def Risen (l : List EX) : Prop := (∀ e ∈ l, mayE e = true) ∧ riseL l
def adjL (l : List EX) : Prop := ∀ (i : Nat) (a b : EX), l[i]? = some a → l[i + 1]? = some b → goesR a b = false
theorem goes_facts {a b : EX} (ha : mayE a = true) (hg : goesR a b = true) : a.f0 + a.f2 = b.f0 ∧ a.f1 + a.f2 = b.f1 ∧ a.f3 = b.f3 := by
  have := mayE_facts ha
  unfold goesR at hg
  rw [Bool.and_eq_true, Bool.and_eq_true, beq_iff_eq, beq_iff_eq, beq_iff_eq, w64 (by omega) (by omega), w64 (by omega) (by omega)] at hg
  exact hg
theorem addE_nil (b : EX) : addE [] b = [b] := rfl
theorem addE_snoc (m : List EX) (a b : EX) : addE (m ++ [a]) b = if goesR a b = true then m ++ [⟨a.f0, a.f1, wrap64 (a.f2 + b.f2), a.f3⟩] else m ++ [a] ++ [b] := by
  have hl : (m ++ [a]).length = m.length + 1 := by simp
  have hgd : (m ++ [a]).getD ((m ++ [a]).length - 1) z24 = a := by rw [hl, Nat.add_sub_cancel, List.getD_eq_getElem?_getD]; simp
  unfold addE
  rw [if_neg (by omega), hgd]
  by_cases h : goesR a b = true
  · rw [if_pos h, if_pos h, hl, Nat.add_sub_cancel, List.set_append_right _ _ (Nat.le_refl _), Nat.sub_self]; rfl
  · rw [if_neg h, if_neg h]
theorem AtB_app (l m : List EX) (x : Nat) (d : Int) (u : Bool) : AtB (l ++ m) x d u ↔ AtB l x d u ∨ AtB m x d u := by
  unfold AtB
  constructor
  · rintro ⟨e, he, h⟩
    rcases List.mem_append.1 he with he | he
    · exact Or.inl ⟨e, he, h⟩
    · exact Or.inr ⟨e, he, h⟩
  · rintro (⟨e, he, h⟩ | ⟨e, he, h⟩)
    · exact ⟨e, List.mem_append_left _ he, h⟩
    · exact ⟨e, List.mem_append_right _ he, h⟩
theorem AtB_one (e : EX) (x : Nat) (d : Int) (u : Bool) : AtB [e] x d u ↔ (e.f0 ≤ (x : Int) ∧ (x : Int) < e.f0 + e.f2 ∧ d = e.f1 + ((x : Int) - e.f0) ∧ u = e.f3) := by
  unfold AtB
  constructor
  · rintro ⟨y, hy, h⟩
    rw [List.mem_singleton.1 hy] at h
    exact h
  · intro h
    exact ⟨e, List.mem_singleton.2 rfl, h⟩
theorem end_at {e : EX} (he : mayE e = true) : ∃ (x : Nat) (d : Int), AtB [e] x d e.f3 ∧ (x : Int) + 1 = e.f0 + e.f2 := by
  have := mayE_facts he
  refine ⟨(e.f0 + e.f2 - 1).toNat, _, (AtB_one _ _ _ _).2 ⟨by omega, by omega, rfl, rfl⟩, by omega⟩
theorem Risen.left {l m : List EX} (h : Risen (l ++ m)) : Risen l := ⟨fun e he => h.1 e (List.mem_append_left _ he), (List.pairwise_append.1 h.2).1⟩
theorem snoc_rec {P : List EX → Prop} (h0 : P []) (h1 : ∀ l e, P l → P (l ++ [e])) (l : List EX) : P l := by
  have : ∀ n (l : List EX), l.length = n → P l := by
    intro n
    induction n with
    | zero => intro l hl; rw [List.length_eq_zero_iff.1 hl]; exact h0
    | succ n ih =>
      intro l hl
      have hne : l ≠ [] := fun h => by rw [h] at hl; cases hl
      rw [← List.dropLast_concat_getLast hne]
      exact h1 _ _ (ih _ (by rw [List.length_dropLast]; omega))
  exact this _ l rfl
theorem adj_snoc {m : List EX} {a : EX} (h : adjL m) (hl : ∀ b, m.getLast? = some b → goesR b a = false) : adjL (m ++ [a]) := by
  intro i x y hx hy
  rw [List.getElem?_append] at hy hx
  by_cases c : i + 1 < m.length
  · rw [if_pos c] at hy
    rw [if_pos (by omega)] at hx
    exact h i x y hx hy
  · rw [if_neg c] at hy
    have hi : i + 1 = m.length := by
      by_cases c2 : i + 1 = m.length
      · exact c2
      · rw [List.getElem?_eq_none (by simp; omega)] at hy; cases hy
    rw [if_pos (by omega)] at hx
    rw [hi, Nat.sub_self] at hy
    have hya : a = y := by simpa using hy
    rw [← hya]
    refine hl x ?_
    rw [List.getLast?_eq_getElem?, ← hi]
    exact hx
theorem adj_left {m : List EX} {a : EX} (h : adjL (m ++ [a])) : adjL m := by
  intro i x y hx hy
  have h1 : i + 1 < m.length := by
    by_cases c : i + 1 < m.length
    · exact c
    · rw [List.getElem?_eq_none (by omega)] at hy; cases hy
  exact h i x y (by rw [List.getElem?_append_left (by omega)]; exact hx) (by rw [List.getElem?_append_left h1]; exact hy)
theorem adj_last {m : List EX} {a b : EX} (h : adjL (m ++ [a])) (hb : m.getLast? = some b) : goesR b a = false := by
  rw [List.getLast?_eq_getElem?] at hb
  have h1 : m.length ≠ 0 := fun h => by rw [List.getElem?_eq_none (by omega)] at hb; cases hb
  refine h (m.length - 1) b a (by rw [List.getElem?_append_left (by omega)]; exact hb) ?_
  rw [show m.length - 1 + 1 = m.length by omega, List.getElem?_append_right (Nat.le_refl _), Nat.sub_self]; rfl
structure Merged (l m : List EX) : Prop where
  may : ∀ e ∈ m, mayE e = true
  rise : riseL m
  adj : adjL m
  same : ∀ (x : Nat) (d : Int) (u : Bool), AtB m x d u ↔ AtB l x d u
theorem merged : ∀ l : List EX, Risen l → Merged l (mergeL l) := by
  refine snoc_rec (fun _ => ⟨fun e he => by simp [mergeL] at he, List.Pairwise.nil, fun i a b h _ => by simp [mergeL] at h, fun _ _ _ => Iff.rfl⟩) fun l e ih h => ?_
  have M := ih h.left
  have he := h.1 e (by simp)
  have hm := mayE_facts he
  rw [mergeL_snoc]
  have hend : ∀ y ∈ mergeL l, y.f0 + y.f2 ≤ e.f0 := fun y hy => by
    obtain ⟨x, d, hx, hx1⟩ := end_at (M.may y hy)
    obtain ⟨z, hz, h1, h2, _⟩ := (M.same x d y.f3).1 (by obtain ⟨q, hq, h⟩ := hx; exact ⟨q, by rw [List.mem_singleton.1 hq]; exact hy, h⟩)
    have := (List.pairwise_append.1 h.2).2.2 z hz e (by simp)
    omega
  obtain ⟨G, hG⟩ : ∃ G, G = mergeL l := ⟨_, rfl⟩
  rw [← hG] at M hend ⊢
  clear ih hG
  rcases List.eq_nil_or_concat G with rfl | ⟨m, a, rfl⟩
  · rw [addE_nil]
    refine ⟨fun y hy => by rw [List.mem_singleton.1 hy]; exact he, List.pairwise_singleton _ _, fun i a b h1 h2 => by simp at h2, fun x d u => ?_⟩
    rw [AtB_app, ← M.same]
    constructor
    · exact Or.inr
    · rintro (⟨y, hy, _⟩ | h)
      · cases hy
      · exact h
  · rw [List.concat_eq_append] at *
    rw [addE_snoc]
    have ha := M.may a (by simp)
    have hma := mayE_facts ha
    by_cases hg : goesR a e = true
    · rw [if_pos hg]
      obtain ⟨g1, g2, g3⟩ := goes_facts ha hg
      have hw : wrap64 (a.f2 + e.f2) = a.f2 + e.f2 := w64 (by omega) (by omega)
      rw [hw]
      have hp := List.pairwise_append.1 M.rise
      refine ⟨fun y hy => ?_, List.pairwise_append.2 ⟨hp.1, List.pairwise_singleton _ _, fun y hy z hz => ?_⟩, adj_snoc (adj_left M.adj) fun b hb => (show goesR b a = false from adj_last M.adj hb), fun x d u => ?_⟩
      · rcases List.mem_append.1 hy with hy | hy
        · exact M.may y (List.mem_append_left _ hy)
        · rw [List.mem_singleton.1 hy]
          exact decide_eq_true (by simp only []; omega)
      · rw [List.mem_singleton.1 hz]
        exact hp.2.2 y hy a (by simp)
      · rw [AtB_app, AtB_app, ← M.same, AtB_app, AtB_one, AtB_one, AtB_one]
        constructor
        · rintro (h1 | ⟨h1, h2, h3, h4⟩)
          · exact Or.inl (Or.inl h1)
          · by_cases c : (x : Int) < a.f0 + a.f2
            · exact Or.inl (Or.inr ⟨h1, c, h3, h4⟩)
            · refine Or.inr ⟨by omega, ?_, ?_, h4.trans g3⟩
              · have h2' : (x : Int) < a.f0 + (a.f2 + e.f2) := h2
                omega
              · have h3' : d = a.f1 + ((x : Int) - a.f0) := h3
                omega
        · rintro ((h1 | ⟨h1, h2, h3, h4⟩) | ⟨h1, h2, h3, h4⟩)
          · exact Or.inl h1
          · refine Or.inr ⟨h1, ?_, h3, h4⟩
            show (x : Int) < a.f0 + (a.f2 + e.f2); omega
          · refine Or.inr ⟨?_, ?_, ?_, h4.trans g3.symm⟩
            · show a.f0 ≤ (x : Int); omega
            · show (x : Int) < a.f0 + (a.f2 + e.f2); omega
            · show d = a.f1 + ((x : Int) - a.f0); omega
    · rw [if_neg hg]
      refine ⟨fun y hy => ?_, List.pairwise_append.2 ⟨M.rise, List.pairwise_singleton _ _, fun y hy z hz => ?_⟩, adj_snoc M.adj fun b hb => ?_, fun x d u => ?_⟩
      · rcases List.mem_append.1 hy with hy | hy
        · exact M.may y hy
        · rw [List.mem_singleton.1 hy]; exact he
      · rw [List.mem_singleton.1 hz]
        exact hend y hy
      · have : b = a := by simpa using hb.symm
        rw [this]
        exact Bool.not_eq_true _ ▸ hg
      · rw [AtB_app, AtB_app l, M.same]
theorem findR_same {l m : List EX} (hl : Risen l) (hm : Risen m) (x : Nat) (h : ∀ (d : Int) (u : Bool), AtB l x d u ↔ AtB m x d u) : findR l (x : Int) = findR m (x : Int) := by
  by_cases c : ∃ d u, AtB l x d u
  · obtain ⟨d, u, hd⟩ := c
    rw [findR_some hl.2 hl.1 hd, findR_some hm.2 hm.1 ((h d u).1 hd)]
  · rw [findR_none fun d u hh => c ⟨d, u, hh⟩, findR_none fun d u hh => c ⟨d, u, (h d u).2 hh⟩]
def Once (l : List EX) : Prop := ∀ (x y : Nat) (d : Int) (u v : Bool), AtB l x d u → AtB l y d v → x = y
theorem once_of {l : List EX} (h : apartL l = true) : Once l := by
  rintro x y d u v ⟨e, he, h1, h2, h3, h4⟩ ⟨f, hf, g1, g2, g3, g4⟩
  obtain ⟨i, hi, rfl⟩ := List.getElem_of_mem he
  obtain ⟨j, hj, rfl⟩ := List.getElem_of_mem hf
  rcases Nat.lt_trichotomy i j with hij | rfl | hij
  · have := disj_el (apart_at h hj hij); omega
  · omega
  · have := disj_el (apart_at h hi hij); omega
theorem of_once {l : List EX} (hr : Risen l) (h : Once l) : apartL l = true := by
  refine apart_of fun i j hj hij => disj_mk ?_
  have hi := Nat.lt_trans hij hj
  have mi := mayE_facts (hr.1 _ (List.getElem_mem hi))
  have mj := mayE_facts (hr.1 _ (List.getElem_mem hj))
  have hp := List.pairwise_iff_getElem.1 hr.2 i j hi hj hij
  by_cases c : l[i].f1 + l[i].f2 ≤ l[j].f1 ∨ l[j].f1 + l[j].f2 ≤ l[i].f1
  · exact c
  · exfalso
    obtain ⟨d, d1, d2, d3, d4⟩ : ∃ d : Int, l[i].f1 ≤ d ∧ d < l[i].f1 + l[i].f2 ∧ l[j].f1 ≤ d ∧ d < l[j].f1 + l[j].f2 := by
      by_cases c2 : l[i].f1 ≤ l[j].f1
      · exact ⟨l[j].f1, by omega, by omega, by omega, by omega⟩
      · exact ⟨l[i].f1, by omega, by omega, by omega, by omega⟩
    have := h (l[i].f0 + (d - l[i].f1)).toNat (l[j].f0 + (d - l[j].f1)).toNat d l[i].f3 l[j].f3 ⟨_, List.getElem_mem hi, by omega, by omega, by omega, rfl⟩ ⟨_, List.getElem_mem hj, by omega, by omega, by omega, rfl⟩
    omega
theorem chk_risen {l : List EX} (h : chkB l = true) : Risen l := ⟨pre_may (chk_ok h).2.1, pre_rise (chk_ok h).2.1⟩
theorem chk_once {l : List EX} (h : chkB l = true) : Once l := once_of (chk_ok h).2.2
theorem chk_of {l : List EX} (hn : l.length ≤ 60) (hr : Risen l) (ha : adjL l) (ho : Once l) : chkB l = true := by
  unfold chkB
  rw [decide_eq_true hn, Bool.true_and, of_once hr ho, Bool.and_true, preB_iff]
  intro i hi
  unfold stB
  rw [getD_el hi, hr.1 _ (List.getElem_mem hi), Bool.true_and]
  by_cases h0 : i = 0
  · rw [decide_eq_true h0, Bool.true_or]
  · have h1 : i - 1 < l.length := by omega
    have hp := List.pairwise_iff_getElem.1 hr.2 (i - 1) i h1 hi (by omega)
    have hg := ha (i - 1) l[i - 1] l[i] (List.getElem?_eq_getElem h1) (by rw [show i - 1 + 1 = i by omega]; exact List.getElem?_eq_getElem hi)
    rw [getD_el h1, hg, decide_eq_false (show ¬ l[i].f0 < l[i - 1].f0 + l[i - 1].f2 by omega)]; simp
theorem merge_chk {l : List EX} (hr : Risen l) (ho : Once l) (hn : (mergeL l).length ≤ 60) : chkB (mergeL l) = true := by
  have M := merged l hr
  exact chk_of hn ⟨M.may, M.rise⟩ M.adj fun x y d u v h1 h2 => ho x y d u v ((M.same _ _ _).1 h1) ((M.same _ _ _).1 h2)
theorem mark_once {l : List EX} (hl : Risen l) (ho : Once l) {a b : Int} (hab : a ≤ b) : Once (markL l a b) := by
  intro x y d u v h1 h2
  obtain ⟨u', h1, _⟩ := (AtB_mark hl.1 hab _ _ _).1 h1
  obtain ⟨v', h2, _⟩ := (AtB_mark hl.1 hab _ _ _).1 h2
  exact ho x y d u' v' h1 h2
theorem left_once {l : List EX} (hl : Risen l) (ho : Once l) {a b : Int} (hab : a ≤ b) : Once (leftL l a b) := by
  intro x y d u v h1 h2
  exact ho x y d u v ((AtB_left hl.1 hab _ _ _).1 h1).1 ((AtB_left hl.1 hab _ _ _).1 h2).1
theorem noclash {l : List EX} {e : EX} (h : ¬ clash l e = true) : ∀ x ∈ l, disjD x e = true ∧ disjF x e = true := by
  intro x hx
  unfold clash at h
  have := fun hh => h (List.any_eq_true.2 ⟨x, hx, hh⟩)
  cases h1 : disjD x e <;> cases h2 : disjF x e
  · exact absurd (by rw [h1, h2]; rfl) this
  · exact absurd (by rw [h1, h2]; rfl) this
  · exact absurd (by rw [h1, h2]; rfl) this
  · exact ⟨rfl, rfl⟩
theorem ins_risen {l : List EX} {e : EX} (hl : Risen l) (he : mayE e = true) (h : ¬ clash l e = true) : Risen (insE l e) :=
  ⟨fun x hx => by
    rcases insE_mem.1 hx with rfl | hx
    · exact he
    · exact hl.1 x hx, insE_rise hl.1 hl.2 fun x hx => (noclash h x hx).2⟩
theorem ins_once {l : List EX} {e : EX} (ho : Once l) (h : ¬ clash l e = true) : Once (insE l e) := by
  intro x y d u v h1 h2
  have no : ∀ (x : Nat) (w : Prop) (d : Int) (u : Bool), AtB l x d u → e.f1 ≤ d → d < e.f1 + e.f2 → w := by
    rintro x w d u ⟨z, hz, h1, h2, h3, _⟩ h4 h5
    have := disj_el (noclash h z hz).1
    omega
  rcases (AtB_ins _ _ _).1 h1 with h1 | ⟨a1, a2, a3, a4⟩
  · rcases (AtB_ins _ _ _).1 h2 with h2 | ⟨b1, b2, b3, b4⟩
    · exact ho x y d u v h1 h2
    · exact no _ _ _ _ h1 (by omega) (by omega)
  · rcases (AtB_ins _ _ _).1 h2 with h2 | ⟨b1, b2, b3, b4⟩
    · exact no _ _ _ _ h2 (by omega) (by omega)
    · omega
theorem fit_cases (l : List EX) : (l.length ≤ 60 ∧ fitL l = (l, 0)) ∨ (60 < l.length ∧ fitL l = ([], 9)) := by
  unfold fitL
  by_cases h : l.length > 60
  · rw [if_pos h]; exact Or.inr ⟨h, rfl⟩
  · rw [if_neg h]; exact Or.inl ⟨by omega, rfl⟩
end Go.Proofs.Ytopmjjnkolfciaa.Pr
end
section
namespace Go.Proofs.Ytopmjjnkolfciaa.Pr
open Go.RowKit Go.Proofs.YtopmjjnkolfciaaW.PrintWords Go.Proofs.YtopmjjnkolfciaaW.PrintLast Go.Proofs.YtopmjjnkolfciaaW.PrintMore
set_option linter.unusedVariables false
set_option linter.unusedSimpArgs false
theorem mark_risen {l : List EX} (h : Risen l) (a b : Int) : Risen (markL l a b) := ⟨(markL_ok h.1 h.2 a b).1, (markL_ok h.1 h.2 a b).2⟩
theorem left_risen {l : List EX} (h : Risen l) (a b : Int) : Risen (leftL l a b) := ⟨(leftL_ok h.1 h.2 a b).1, (leftL_ok h.1 h.2 a b).2⟩
end Go.Proofs.Ytopmjjnkolfciaa.Pr
end
